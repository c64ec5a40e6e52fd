/- How a program's run ends. -/
import Derived.Test.YteminkohgagedaaMoDo
namespace Go.Proofs.Yteminkohgagedaa.Mo
open Go.RowKit Go.Proofs.Yteminkohgagedaa.Base Go.Proofs.Yteminkohgagedaa.Gr Go.Proofs.Yteminkohgagedaa.Ver
set_option linter.unusedVariables false
set_option linter.unusedSimpArgs false

theorem results_row_tmp {P : Program} {fn : Func} {p u : Tmp} {ty : TypeId} (h : fn.results = #[.cell p ty, .tmp u]) (tmps : Array Value) (w : World) (g : Nat) (t : TypeId) (cs : Array Value) (fr : Nat × Nat) (d : TypeDesc)
    (hp : tmps.getD p undef = .pointer (some ⟨g, 0, none⟩)) (hg : w.heap[g]? = some (.cells cs t fr))
    (hu : P.underlying ty = some d) (hd : (match d with | .struct _ | .array _ _ => true | _ => false) = true) (hi : (P.info? ty).map (·.size) = some cs.size) :
    (results fn tmps).run P w = .ok (.tuple #[.agg cs, tmps.getD u undef]) w := by
  have hp' : tmps[p]?.getD undef = .pointer (some ⟨g, 0, none⟩) := by simpa using hp
  simp [results, h, hp', asAddr, run_loadVar_row w g t ty cs fr d hg hu hd hi]
theorem results_row_row {P : Program} {fn : Func} {p u : Tmp} {ty ty2 : TypeId} (h : fn.results = #[.cell p ty, .cell u ty2]) (tmps : Array Value) (w : World) (g g2 : Nat) (t t2 : TypeId) (cs cs2 : Array Value) (fr fr2 : Nat × Nat) (d d2 : TypeDesc)
    (hp : tmps.getD p undef = .pointer (some ⟨g, 0, none⟩)) (hg : w.heap[g]? = some (.cells cs t fr))
    (hu : P.underlying ty = some d) (hd : (match d with | .struct _ | .array _ _ => true | _ => false) = true) (hi : (P.info? ty).map (·.size) = some cs.size)
    (hp2 : tmps.getD u undef = .pointer (some ⟨g2, 0, none⟩)) (hg2 : w.heap[g2]? = some (.cells cs2 t2 fr2))
    (hu2 : P.underlying ty2 = some d2) (hd2 : (match d2 with | .struct _ | .array _ _ => true | _ => false) = true) (hi2 : (P.info? ty2).map (·.size) = some cs2.size) :
    (results fn tmps).run P w = .ok (.tuple #[.agg cs, .agg cs2]) w := by
  have hp' : tmps[p]?.getD undef = .pointer (some ⟨g, 0, none⟩) := by simpa using hp
  have hp2' : tmps[u]?.getD undef = .pointer (some ⟨g2, 0, none⟩) := by simpa using hp2
  simp [results, h, hp', hp2', asAddr, run_loadVar_row w g t ty cs fr d hg hu hd hi, run_loadVar_row w g2 t2 ty2 cs2 fr2 d2 hg2 hu2 hd2 hi2]
theorem resSize : (Try.prog.info? 32).map (·.size) = some 4 := by kernel_rfl

theorem ends_any {w : World} {p0 pd pv rp : Nat} {F d e at_ : Int} {AO : Option Addr} {L cO : Nat} (h0 : w.cell? ⟨p0, 0, none⟩ = some (.int .i64 F)) (h1 : w.cell? ⟨pd, 0, none⟩ = some (.int .i64 d)) (h2 : w.cell? ⟨pv, 0, none⟩ = some (.pointer (some ⟨rp, 0, none⟩))) (h3 : w.cell? ⟨rp, 4, none⟩ = some (.slice AO L cO))
    (hd : 0 ≤ d ∧ d ≤ F) (hF : F ≤ 9223372036854775807) :
    Calls Try.prog 42 #[.int .i64 e, .int .i64 at_, .pointer (some ⟨p0, 0, none⟩), .pointer (some ⟨pd, 0, none⟩), .pointer (some ⟨pv, 0, none⟩)] w fun en w' => en = .returned (.tuple #[.agg #[.int .i64 e, .int .i64 at_, .int .i64 (F - d), .slice AO L cO], .int .i64 d]) ∧ Below w.heap.size w w' := by
  have z0 := cell_lt h0
  have z1 := cell_lt h1
  have z2 := cell_lt h2
  have z3 := cell_lt h3
  simp only at z0 z1 z2 z3
  have y0 : p0 < w.heap.size + 1 := by omega
  have y1 : pd < w.heap.size + 1 := by omega
  have y2 : pv < w.heap.size + 1 := by omega
  have y3 : rp < w.heap.size + 1 := by omega
  have hr1 : 0 ≤ F - d := by omega
  have hr2 : F - d ≤ 9223372036854775807 := by omega
  have hww : wrap64 (F - d) = F - d := IntWalk.wrap64_in _ (by omega)
  go_enter Try.func42, Try.ntmps42
  go_wp2
  go_region
  go_wp2
  refine bodyPost_ret (results_row_tmp rfl _ _ w.heap.size 32 #[.int .i64 e, .int .i64 at_, .int .i64 (F - d), .slice AO L cO] (0, 0) _ rfl ((Blk.new w _ _).drewN 1) Try.underlying32 rfl resSize) rfl ⟨rfl, below_drewN (below_1 _ _) 1⟩

theorem ends_q {w : World} {p0 pd pv rp : Nat} {F d e at_ : Int} {AO : Option Addr} {L cO : Nat} (q : Int) (hq : F - d = q) (h0 : w.cell? ⟨p0, 0, none⟩ = some (.int .i64 F)) (h1 : w.cell? ⟨pd, 0, none⟩ = some (.int .i64 d)) (h2 : w.cell? ⟨pv, 0, none⟩ = some (.pointer (some ⟨rp, 0, none⟩))) (h3 : w.cell? ⟨rp, 4, none⟩ = some (.slice AO L cO))
    (hd : 0 ≤ d ∧ d ≤ F) (hF : F ≤ 9223372036854775807) :
    Calls Try.prog 42 #[.int .i64 e, .int .i64 at_, .pointer (some ⟨p0, 0, none⟩), .pointer (some ⟨pd, 0, none⟩), .pointer (some ⟨pv, 0, none⟩)] w fun en w' => en = .returned (.tuple #[.agg #[.int .i64 e, .int .i64 at_, .int .i64 q, .slice AO L cO], .int .i64 d]) ∧ Below w.heap.size w w' := by
  subst hq
  exact ends_any h0 h1 h2 h3 hd hF

end Go.Proofs.Yteminkohgagedaa.Mo
