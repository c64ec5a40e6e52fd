/- The small functions of the statements: Empty, number, run, SameInts, alive. -/
import Derived.Test.YteminkohgagedaaMoRunW
namespace Go.Proofs.Yteminkohgagedaa.Mo
open Go.RowKit Go.Proofs.Yteminkohgagedaa.Base Go.Proofs.Yteminkohgagedaa.Gr Go.Proofs.Yteminkohgagedaa.Ver
set_option linter.unusedVariables false
set_option linter.unusedSimpArgs false

def emptyG : Gr := ⟨[0, 0, 0, 0, 0, 0, 0, 0], []⟩
theorem empty_any (w : World) : Calls Try.prog 22 #[] w fun e w' => ∃ A c, e = .returned (.agg #[.slice A 8 c, .slice none 0 0]) ∧ Ints w' A emptyG.roots ∧ Below w.heap.size w w' := by
  have hmk : ∀ w : World, (Instr.makeSlice 22 (.int .i64 8) (.int .i64 8)).run Try.prog w = .ok (.slice (some ⟨w.heap.size, 0, none⟩) 8 8) (w.alloc (.cells #[.int .i64 0, .int .i64 0, .int .i64 0, .int .i64 0, .int .i64 0, .int .i64 0, .int .i64 0, .int .i64 0] 3)) := make_ints 8 (by omega)
  have hG := (Blk.new w 25 #[.slice (some ⟨w.heap.size + 1, 0, none⟩) 8 8, .slice none 0 0]).alloc (.cells #[.int .i64 0, .int .i64 0, .int .i64 0, .int .i64 0, .int .i64 0, .int .i64 0, .int .i64 0, .int .i64 0] 3)
  have hI := Blk.new (w.alloc (.cells #[.slice (some ⟨w.heap.size + 1, 0, none⟩) 8 8, .slice none 0 0] 25)) 3 #[.int .i64 0, .int .i64 0, .int .i64 0, .int .i64 0, .int .i64 0, .int .i64 0, .int .i64 0, .int .i64 0]
  rw [World.size_alloc] at hI
  have HG := Lib.hid hG
  have HI := Lib.hid hI
  clear hG hI
  go_enter Try.func22, Try.ntmps22
  go_wp2
  (try simp only [Exit.inBlock, Exit.then])
  refine bodyPost_ret (v := .agg #[.slice (some ⟨w.heap.size + 1, 0, none⟩) 8 8, .slice none 0 0]) (results_cell_row rfl _ _ w.heap.size 25 _ (0, 0) _ rfl HG.out Try.underlying25 rfl graphSize) rfl ?_
  exact ⟨_, _, rfl, ints_blk (t := 3) (l := [0, 0, 0, 0, 0, 0, 0, 0]) HI.out (by simp), below_then (below_1 _ _) (below_1 _ _)⟩

theorem bits_255 (v : Int) : bits .and .i64 v 255 = v % 256 := by
  unfold bits
  have h1 : ((BitVec.ofInt IntKind.i64.bits v &&& BitVec.ofInt IntKind.i64.bits 255).toNat : Int) = v % 256 := by
    have h64 : IntKind.i64.bits = 64 := rfl
    rw [h64, BitVec.toNat_and]
    have e : (BitVec.ofInt 64 255).toNat = 2 ^ 8 - 1 := by decide
    rw [e, Nat.and_two_pow_sub_one_eq_mod, BitVec.toNat_ofInt]
    omega
  simp only [h1]
  exact IntWalk.i64_in _ (by omega)
/-- Instructions by which the number a is v. -/
def numI (a v : Int) : Ins := ⟨1, a, v % 256, v / 256 % 256⟩
theorem insSize : (Try.prog.info? 39).map (·.size) = some 4 := by kernel_rfl
theorem num_any (a v : Int) (w : World) : Calls Try.prog 20 #[.int .i64 a, .int .i64 v] w fun e w' => e = .returned (.agg #[.int .i64 1, .int .i64 a, .int .i64 (v % 256), .int .i64 (v / 256 % 256)]) ∧ Below w.heap.size w w' := by
  have hb1 := bits_255 v
  have hb2 := bits_255 (v / 256)
  have HI := Lib.hid (Blk.new w 39 #[.int .i64 1, .int .i64 a, .int .i64 (v % 256), .int .i64 (v / 256 % 256)])
  go_enter Try.func20, Try.ntmps20
  go_wp2
  (try simp only [Exit.inBlock, Exit.then])
  refine bodyPost_ret (v := .agg #[.int .i64 1, .int .i64 a, .int .i64 (v % 256), .int .i64 (v / 256 % 256)]) (results_cell_row rfl _ _ w.heap.size 39 _ (0, 0) _ rfl HI.out Try.underlying39 rfl insSize) rfl ?_
  exact ⟨rfl, below_1 _ _⟩

theorem same_any (A B : Option Addr) (l m : List Int) (c d : Nat) (w : World) (hl : Ints w A l) (hm : Ints w B m) (hn : l.length ≤ 100000) :
    Calls Try.prog 21 #[.slice A l.length c, .slice B m.length d] w fun e w' => e = .returned (.bool (decide (l = m))) ∧ Below w.heap.size w w' := by
  by_cases h : l.length = m.length
  case neg =>
    rw [decide_eq_false (fun e => h (by rw [e]))]
    have hb : ((l.length : Int) != m.length) = true := bne_iff_ne.mpr (by omega)
    clear hl hm h
    go_enter Try.func21, Try.ntmps21
    go_wp2
    go_ret
    exact ⟨rfl, Below.refl _ _⟩
  have HL := Lib.hid hl
  have HM := Lib.hid hm
  have hb : ((l.length : Int) != m.length) = false := by simp [h]
  have HE := Lib.hid h
  have hle : l.length ≤ m.length := by omega
  clear hl hm h
  go_enter Try.func21, Try.ntmps21
  go_wp2
  go_loopw [5] (fun i wr => ∃ k : Nat, k ≤ l.length ∧ i = .int .i64 k ∧ Hid (Below w.heap.size w wr) ∧ Hid (∀ j, (hj : j < k) → l[j]? = m[j]?)) (fun i _ => l.length - (intOf i).toNat)
  case atStart => exact ⟨0, Nat.zero_le _, rfl, Below.refl _ _, fun j hj => absurd hj (by omega)⟩
  case round =>
    obtain ⟨k, hk, rfl, HB, HP⟩ := hrel
    by_cases hlt : k < l.length
    · obtain ⟨ad, rfl, d1⟩ := (HL.out.below HB.out).at_ k hlt
      obtain ⟨ad2, rfl, d2⟩ := (HM.out.below HB.out).at_ k (by omega)
      have hmlt : k < m.length := by omega
      by_cases he : l[k] = m[k]
      · have hb2 : (l[k] == m[k]) = true := beq_iff_eq.mpr he
        have HX := Lib.hid he
        rw [he] at d1 hb2
        clear he
        go_wp2_with fail
        go_quiet (fail)
        go_wp2
        go_roundw
        case rel =>
          refine ⟨k + 1, by omega, by go_num, HB.out.trans (below_drewN (Below.refl _ _) _), fun j hj => ?_⟩
          rcases Nat.lt_or_ge j k with h | h
          · exact HP.out j h
          · obtain rfl : j = k := by omega
            rw [List.getElem?_eq_getElem hlt, List.getElem?_eq_getElem hmlt, HX.out]
        case measure => simp [intOf]; omega
      · have hb2 : (l[k] == m[k]) = false := beq_eq_false_iff_ne.mpr he
        have HX := Lib.hid he
        clear he
        go_wp2_with fail
        go_quiet (fail)
        go_wp2
        go_ret
        refine ⟨ret_bool (decide_eq_false (fun e => HX.out ?_)).symm, HB.out.trans (below_drewN (Below.refl _ _) _)⟩
        subst e
        rfl
    · go_wp2
      go_ret
      refine ⟨ret_bool (decide_eq_true ?_).symm, HB.out⟩
      apply List.ext_getElem? 
      intro j
      rcases Nat.lt_or_ge j l.length with h | h
      · exact HP.out j (by omega)
      · rw [List.getElem?_eq_none h, List.getElem?_eq_none (by have := HE.out; omega)]

theorem run_any2 (AL : Option Addr) (l : List Ins) (cl : Nat) (w : World) (hL : Arr w Ins.cells 4 AL l) :
    Calls Try.prog 19 #[.slice AL l.length cl] w fun e w' => ∃ AO cO, e = .returned (.tuple #[.slice AO (runM emptyG 1000 l).outs.length cO, .int .i64 (runM emptyG 1000 l).e]) ∧ Ints w' AO (runM emptyG 1000 l).outs ∧ Below w.heap.size w w' := by
  have HL := Lib.hid hL
  generalize hX : runM emptyG 1000 l = X
  have HX := Lib.hid hX
  clear hL hX
  go_enter Try.func19, Try.ntmps19
  go_wp2_with fail
  refine (empty_any w).mono ?_
  rintro e w1 ⟨A, c, rfl, hI, hb⟩
  have HI := Lib.hid hI
  have HB := Lib.hid hb
  clear hI hb
  go_wp2_with fail
  refine (run_any A none AL emptyG l c 0 cl 1000 (by omega) w1 HI.out ⟨by simp [emptyG], fun i hi => by simp [emptyG] at hi⟩ (HL.out.below HB.out)).mono ?_
  rw [HX.out]
  rintro e w2 ⟨AO, cO, v, rfl, h1, h2, h3⟩
  obtain ⟨A3, c3, B3, d3, rfl, -, -⟩ := h2
  have H1 := Lib.hid h1
  have H3 := Lib.hid (below_then HB.out h3)
  clear h1 h3
  go_wp2_with fail
  go_quiet (fail)
  go_wp2
  go_ret2
  exact ⟨AO, cO, rfl, H1.out.below (below_drewN (below_then (below_1 _ _) (below_1 _ _)) _), below_then H3.out (below_drewN (below_then (below_1 _ _) (below_1 _ _)) _)⟩

theorem arr_blk {w : World} {g : Nat} {t : TypeId} {cs : Array Value} {l : List Ins} (h : Blk w g t cs) (hc : cs.toList = enc Ins.cells l) : Arr w Ins.cells 4 (some ⟨g, 0, none⟩) l := by
  refine ⟨enc_len Ins.cells_len l, fun _ => ⟨_, rfl, fun j u hu => ?_⟩⟩
  rw [add_of_zero, h.cell j, ← Array.getElem?_toList, hc]
  exact hu
def aliveL : List Ins := [⟨1, 0, 5, 0⟩, ⟨16, 0, 0, 0⟩, ⟨7, 1, 0, 1⟩, ⟨13, 1, 2, 0⟩, ⟨14, 0, 0, 0⟩]
theorem alive_runs : runM emptyG 99 aliveL = ⟨0, 5, 94, [5], ⟨[0, 0, 1, 0, 0, 0, 0, 0], [⟨[], [0]⟩]⟩⟩ := by rfl

set_option maxRecDepth 100000 in
theorem alive_any (w : World) : Calls Try.prog 13 #[] w fun e w' => e = .returned (.bool true) ∧ Below w.heap.size w w' := by
  go_enter Try.func13, Try.ntmps13
  go_wp2_with fail
  refine (empty_any w).mono ?_
  rintro e w1 ⟨A, c, rfl, hI, hb⟩
  have HI := Lib.hid hI
  have HB := Lib.hid hb
  clear hI hb
  go_wp2_with fail
  have hL := arr_blk (l := aliveL) (Blk.new w1 39 #[.int .i64 1, .int .i64 0, .int .i64 5, .int .i64 0, .int .i64 16, .int .i64 0, .int .i64 0, .int .i64 0, .int .i64 7, .int .i64 1, .int .i64 0, .int .i64 1, .int .i64 13, .int .i64 1, .int .i64 2, .int .i64 0, .int .i64 14, .int .i64 0, .int .i64 0, .int .i64 0]) rfl
  have hb1 := below_1 w1 (.cells #[.int .i64 1, .int .i64 0, .int .i64 5, .int .i64 0, .int .i64 16, .int .i64 0, .int .i64 0, .int .i64 0, .int .i64 7, .int .i64 1, .int .i64 0, .int .i64 1, .int .i64 13, .int .i64 1, .int .i64 2, .int .i64 0, .int .i64 14, .int .i64 0, .int .i64 0, .int .i64 0] 39)
  refine (run_any A none (some ⟨w1.heap.size, 0, none⟩) emptyG aliveL c 0 5 99 (by omega) _ (HI.out.below hb1) ⟨by simp [emptyG], fun i hi => by simp [emptyG] at hi⟩ hL).mono ?_
  rw [alive_runs]
  rintro e w2 ⟨AO, cO, v, rfl, h1, h2, h3⟩
  obtain ⟨A3, c3, B3, d3, rfl, g1, g2⟩ := h2
  have hbb := below_then (below_1 w2 (.cells #[.int .i64 0, .int .i64 5, .int .i64 94, .slice AO 1 cO] 32)) (below_1 _ (.cells #[.slice A3 8 c3, .slice B3 1 d3] 25))
  obtain ⟨ad, rfl, d0⟩ := h1.at_ 0 (by simp)
  obtain ⟨ad2, rfl, d2⟩ := g1.at_ 2 (by simp)
  have H3 := Lib.hid (below_then HB.out (below_then hb1 h3))
  have HBB := Lib.hid hbb
  have e0 : ad.add 0 = ad := by simp [Addr.add]
  have e2 : ad2.add 2 = ⟨ad2.block, ad2.off + 2, none⟩ := by simp [Addr.add]
  rw [e0] at d0
  rw [e2] at d2
  simp only [List.getElem_cons_zero, List.getElem_cons_succ] at d0 d2
  have z0 := cell_lt d0
  have z3 : ad2.block < w2.heap.size := cell_lt (a := ⟨ad2.block, ad2.off + 2, none⟩) d2
  have z0' : ad.block < w2.heap.size + 1 := by omega
  have z3' : ad2.block < w2.heap.size + 1 := by omega
  clear hL hb1 h1 g1 g2 h3 hbb e0 e2
  go_wp2_with fail
  go_ret
  exact ⟨rfl, below_then H3.out HBB.out⟩

end Go.Proofs.Yteminkohgagedaa.Mo
