/- How a graph, a node, is opened where it is handed in. -/
import Derived.Test.YteminkohgagedaaGreatQVerPlain
import Derived.Test.YteminkohgagedaaGreatProg
import Derived.ProofKit
import Derived.OpenShut
import Derived.ShutString
import Derived.ChangeOld
import Derived.ChangeSame
import Derived.SizedLaws
import Derived.Deep.Slices
import Derived.Deep.Fields
import Derived.Lib.SmallJoins
namespace Go.Proofs.YteminkohgagedaaGreat.Args
open Go.ChangeShapes Go.WideShapes Go.ChangeAt Go.RowKit Go.Deep Go.Joins Go.Proofs.YteminkohgagedaaGreat.Base
set_option linter.unusedVariables false
set_option linter.unusedSimpArgs false

theorem laidOut : laidOutB Tryz.prog = true := by kernel_rfl
theorem own : ownKnob Tryz.prog.godebug = none := by kernel_rfl

theorem wf_i64 {v : Int} (h : (Lit.int .i64 v).wf = true) : -9223372036854775808 ≤ v ∧ v ≤ 9223372036854775807 := by
  have h1 : IntKind.i64.min = -9223372036854775808 := by rfl
  have h2 : IntKind.i64.max = 9223372036854775807 := by rfl
  simp only [Lit.wf, h1, h2, Bool.and_eq_true, decide_eq_true_eq] at h
  omega

theorem list_of {α : Type} {P : Nat → α → Prop} (n : Nat) (h : ∀ i, i < n → ∃ x, P i x) : ∃ l : List α, l.length = n ∧ ∀ i, (hi : i < l.length) → P i l[i] := by
  induction n with
  | zero => exact ⟨[], rfl, fun i hi => absurd hi (by simp)⟩
  | succ n ih =>
    obtain ⟨l, hl, hp⟩ := ih (fun i hi => h i (by omega))
    obtain ⟨x, hx⟩ := h n (by omega)
    refine ⟨l ++ [x], by simp [hl], fun i hi => ?_⟩
    rcases Nat.lt_or_ge i l.length with h1 | h1
    · rw [List.getElem_append_left h1]; exact hp i h1
    · have : i = l.length := by simp at hi; omega
      subst this
      rw [List.getElem_append_right (Nat.le_refl _)]
      simpa [hl] using hx

section
variable {H : Type} {enc : TypeId × Value → H} {P : Program} {w : World} {base : Nat} {spare : Nat → Bool} {held : Bool}
theorem open_slice_fields {t e : TypeId} {fs : Array Field} {fuel : Nat} {cs : List Value} {x : DataW H × List MemPlace} (ht : P.underlying t = some (.slice e)) (he : P.underlying e = some (.struct fs))
    (hone : oneCellFields P fs = true) (hC : P.cellsOf e = fs.size) (h : DataW.trod enc P w base spare held fuel t cs = some x) :
    (cs = [.slice none 0 0] ∧ x = (.nil, [])) ∨
    ∃ (a : Addr) (len cap m : Nat) (D : Nat → DataW H) (Pl : Nat → List MemPlace), cs = [.slice (some a) len cap] ∧ base ≤ a.block ∧ len ≤ cap ∧ cap ≤ maxLen ∧ m = (if spare a.block then cap else len) ∧
      x = (.slice ((List.range len).map D) ((List.range (m - len)).map fun j => D (len + j)), MemPlace.row a (m * fs.size) ++ (List.range m).flatMap Pl) ∧
      ∀ i, i < m → ∃ (ys : List (DataW H × List MemPlace)) (n : Nat), D i = .agg (ys.map (·.1)) ∧ Pl i = ys.flatMap (·.2) ∧ ys.length = fs.size ∧
        ∀ (j : Nat) (f : Field), fs[j]? = some f → ∃ (v : Value) (y : DataW H × List MemPlace), w.cell? (a.add (i * fs.size + j)) = some v ∧ ys[j]? = some y ∧ DataW.trod enc P w base spare held n f.type [v] = some y := by
  rcases open_slice ht h with h0 | ⟨a, len, cap, m, n, D, Pl, hcs, hb, hl, hm, hmm, hx, hi⟩
  · exact .inl h0
  · refine .inr ⟨a, len, cap, m, D, Pl, hcs, hb, hl, hm, hmm, by rw [hC] at hx; exact hx, fun i him => ?_⟩
    obtain ⟨cs', hc, ht'⟩ := hi i him
    rw [hC] at hc
    obtain ⟨ys, n', hn', hy, hlen, hyl, hf⟩ := DataW.trod_struct he ht'
    obtain ⟨_, hcl, hat⟩ := World.cells?_some hc
    simp only [Prod.mk.injEq] at hy
    refine ⟨ys, n', hy.1, hy.2, hyl, fun j f hj => ?_⟩
    obtain ⟨ho, hk⟩ := hone_of hone j f hj
    have hjl : j < fs.size := (Array.getElem?_eq_some_iff.1 hj).1
    have hcell := hat j hjl
    have hv : cs'[j]? = some (cs'[j]'(by omega)) := List.getElem?_eq_getElem (by omega)
    have h1 := hf j f hj
    rw [ho, hk] at h1
    have hone' : (cs'.drop j).take 1 = [cs'[j]'(by omega)] := by
      rw [List.drop_eq_getElem_cons (by omega)]
      rfl
    rw [hone'] at h1
    have hys : ys[j]? = some (ys[j]'(by omega)) := List.getElem?_eq_getElem (by omega)
    refine ⟨_, _, ?_, hys, h1.trans hys⟩
    rw [← Go.Deep.add_add, hcell, hv]
end

/-- Cells that stand where a list's elements are, element by element. -/
theorem arr_of {α : Type} {w : World} {f : α → List Value} {s : Nat} (hf : ∀ x, (f x).length = s) (a : Addr) (l : List α) (hc : ∀ i, (hi : i < l.length) → ∀ j u, (f l[i])[j]? = some u → w.cell? (a.add (i * s + j)) = some u) : Arr w f s (some a) l := by
  refine ⟨enc_len hf l, fun _ => ⟨a, rfl, fun j u hu => ?_⟩⟩
  have hs : 0 < s := by
    rcases Nat.eq_zero_or_pos s with h | h
    · exfalso
      have : (enc f l).length = 0 := by rw [enc_len hf l, h]; simp
      rw [List.eq_nil_of_length_eq_zero this] at hu
      simp at hu
    · exact h
  have hj : j < l.length * s := by
    rw [← enc_len hf l]
    rcases Nat.lt_or_ge j (enc f l).length with h | h
    · exact h
    · rw [List.getElem?_eq_none h] at hu; cases hu
  have hi : j / s < l.length := Nat.div_lt_of_lt_mul (by rw [Nat.mul_comm]; exact hj)
  have e : j / s * s + j % s = j := by rw [Nat.mul_comm]; exact Nat.div_add_mod j s
  have h1 := enc_get hf l (j / s) hi (j % s) (Nat.mod_lt _ hs)
  rw [e, hu] at h1
  have h2 := hc (j / s) hi (j % s) u h1.symm
  rwa [e] at h2

open Go.Proofs.YteminkohgagedaaGreat.Ver in
theorem open_codes {H : Type} {enc : TypeId × Value → H} {w : World} {base : Nat} {spare : Nat → Bool} {held : Bool} {a : Option Addr} {len cap : Nat} {x : DataW H} {p : List MemPlace}
    (h : DataW.Trod enc Tryz.prog w base spare held 26 (.slice a len cap) x p) : ∃ l : List Ins, l.length = len ∧ Arr w Ins.cells 4 a l ∧ len ≤ cap ∧ ∀ x ∈ l, x.fits := by
  obtain ⟨fuel, hf⟩ := h
  rcases open_slice_fields Tryz.underlying26 Tryz.underlying58 (by kernel_rfl) (by kernel_rfl) hf with ⟨hcs, _⟩ | ⟨a', len', cap', m, D, Pl, hcs, hb, hl, hm, hmm, hx, hi⟩
  · simp [Value.cells] at hcs
    obtain ⟨rfl, rfl, rfl⟩ := hcs
    exact ⟨[], rfl, Reads.none_, Nat.le_refl _, fun x hx => by cases hx⟩
  · simp [Value.cells] at hcs
    obtain ⟨rfl, rfl, rfl⟩ := hcs
    have hlm : len ≤ m := by rw [hmm]; split <;> omega
    obtain ⟨l, hll, hp⟩ := list_of (P := fun i (y : Ins) => (∀ j u, y.cells[j]? = some u → w.cell? (a'.add (i * 4 + j)) = some u) ∧ y.fits) len (fun i him => by
      obtain ⟨ys, n, hD, hPl, hyl, hf2⟩ := hi i (by omega)
      obtain ⟨v0, y0, c0, e0, t0⟩ := hf2 0 _ rfl
      obtain ⟨v1, y1, c1, e1, t1⟩ := hf2 1 _ rfl
      obtain ⟨v2, y2, c2, e2, t2⟩ := hf2 2 _ rfl
      obtain ⟨v3, y3, c3, e3, t3⟩ := hf2 3 _ rfl
      obtain ⟨z0, h0, _, f0⟩ := DataW.trod_int Tryz.underlying3 t0
      obtain ⟨z1, h1, _, f1⟩ := DataW.trod_int Tryz.underlying3 t1
      obtain ⟨z2, h2, _, f2⟩ := DataW.trod_int Tryz.underlying3 t2
      obtain ⟨z3, h3, _, f3⟩ := DataW.trod_int Tryz.underlying3 t3
      simp only [List.cons.injEq, and_true] at h0 h1 h2 h3
      subst h0 h1 h2 h3
      refine ⟨⟨z0, z1, z2, z3⟩, fun j u hu => ?_, ⟨wf_i64 f1, wf_i64 f2, wf_i64 f3⟩⟩
      match j, hu with
      | 0, hu => cases hu; exact c0
      | 1, hu => cases hu; exact c1
      | 2, hu => cases hu; exact c2
      | 3, hu => cases hu; exact c3
      | j + 4, hu => simp [Ins.cells] at hu)
    refine ⟨l, hll, arr_of Ins.cells_len a' l (fun i hil j u hu => (hp i hil).1 j u hu), by omega, fun x hx => ?_⟩
    obtain ⟨i, hi, rfl⟩ := List.getElem_of_mem hx
    exact (hp i hi).2

set_option maxRecDepth 100000 in
open Go.Proofs.YteminkohgagedaaGreat.Ver in
/-- An instruction by value. -/
theorem open_ins {H : Type} {enc : TypeId × Value → H} {w : World} {base b0 : Nat} {spare : Nat → Bool} {held : Bool} {r : Reach} {v : Value} {d : DataW H} {p : List MemPlace}
    (hv : Value.okWide Tryz.prog w r b0 58 v) (h : DataW.Trod enc Tryz.prog w base spare held 58 v d p) :
    ∃ x : Ins, v = .agg #[.int .i64 x.op, .int .i64 x.a, .int .i64 x.b, .int .i64 x.c] ∧ x.fits := by
  obtain ⟨c0, c1, c2, c3, y0, y1, y2, y3, m, rfl, _, _, hy0, hy1, hy2, hy3⟩ := open_agg4 Tryz.underlying58 (by kernel_rfl) (by kernel_rfl) hv h
  obtain ⟨z0, h0, _, f0⟩ := DataW.trod_int Tryz.underlying3 hy0
  obtain ⟨z1, h1, _, f1⟩ := DataW.trod_int Tryz.underlying3 hy1
  obtain ⟨z2, h2, _, f2⟩ := DataW.trod_int Tryz.underlying3 hy2
  obtain ⟨z3, h3, _, f3⟩ := DataW.trod_int Tryz.underlying3 hy3
  simp only [List.cons.injEq, and_true] at h0 h1 h2 h3
  subst h0 h1 h2 h3
  exact ⟨⟨z0, z1, z2, z3⟩, rfl, ⟨wf_i64 f1, wf_i64 f2, wf_i64 f3⟩⟩

/-- A slice of instructions is no longer than its weight allows. -/
theorem sized_codes {H : Type} {enc : TypeId × Value → H} {w : World} {base : Nat} {spare : Nat → Bool} {held : Bool} {a : Option Addr} {len cap : Nat} {d : DataW H} {ps : List MemPlace} {ts : List TypeId} {ds : List (DataW H)} {j : Nat}
    (hsz : (DataW.weightsEach Tryz.prog ts ds).all (· ≤ reachBytes) = true) (ht : ts[j]? = some 26) (hd : ds[j]? = some d)
    (h : DataW.Trod enc Tryz.prog w base spare held 26 (.slice a len cap) d ps) : len * 32 ≤ 140737488351232 := by
  obtain ⟨fuel, hf⟩ := h
  rcases open_slice_fields Tryz.underlying26 Tryz.underlying58 (by kernel_rfl) (by kernel_rfl) hf with ⟨hcs, _⟩ | ⟨a', len', cap', m, D, Pl, hcs, hb, hl, hm, hmm, hx, hi⟩
  · simp [Value.cells] at hcs
    obtain ⟨rfl, rfl, rfl⟩ := hcs
    simp
  · simp [Value.cells] at hcs
    obtain ⟨rfl, rfl, rfl⟩ := hcs
    obtain ⟨hx, _⟩ := Prod.mk.inj hx
    subst hx
    have z := sized_slice hsz ht hd Tryz.underlying26
    have hB : Tryz.prog.bytesOf 58 = 32 := by kernel_rfl
    rw [hB] at z
    simp only [List.length_map, List.length_range] at z
    exact Nat.le_trans (Nat.mul_le_mul_right _ (Nat.le_add_right _ _)) z

end Go.Proofs.YteminkohgagedaaGreat.Args
namespace Go.Proofs.YteminkohgagedaaGreat.Args
open Go.ChangeShapes Go.WideShapes Go.ChangeAt Go.RowKit Go.Deep Go.Joins Go.Proofs.YteminkohgagedaaGreat.Base Go.Proofs.YteminkohgagedaaGreat.Gr
set_option linter.unusedVariables false
set_option linter.unusedSimpArgs false

def Fit {H : Type} (t : TypeId) (d : DataW H) : Prop := ∀ n ∈ d.weights Tryz.prog t, n ≤ reachBytes
theorem fit_of {H : Type} {ts : List TypeId} {ds : List (DataW H)} (h : (DataW.weightsEach Tryz.prog ts ds).all (· ≤ reachBytes) = true) {j : Nat} {t : TypeId} {d : DataW H} (ht : ts[j]? = some t) (hd : ds[j]? = some d) : Fit t d := fun n hn => by
  have := List.all_eq_true.1 h _ (DataW.weights_mem_each ht hd n hn)
  simpa using this

section
variable {H : Type} {enc : TypeId × Value → H} {w : World} {base : Nat} {spare : Nat → Bool} {held : Bool}
theorem weights_all {e : TypeId} {l : List (DataW H)} {d : DataW H} (hd : d ∈ l) : ∀ n ∈ d.weights Tryz.prog e, n ∈ DataW.weightsAll Tryz.prog e l := by
  induction l with
  | nil => cases hd
  | cons x l ih =>
    intro n hn
    simp only [DataW.weightsAll, List.mem_append]
    rcases List.mem_cons.1 hd with rfl | h
    · exact .inl hn
    · exact .inr (ih h n hn)
theorem open_ints {fuel : Nat} {v : Value} {y : DataW H × List MemPlace} (h : DataW.trod enc Tryz.prog w base spare held fuel 22 [v] = some y) (hf : Fit 22 y.1) : ∃ A c l, v = .slice A l.length c ∧ Ints w A l ∧ (∀ u ∈ l, -9223372036854775808 ≤ u ∧ u ≤ 9223372036854775807) := by
  rcases open_slice1 Tryz.underlying22 (by kernel_rfl) h with ⟨hcs, _⟩ | ⟨a, len, cap, m, n, V, D, Pl, hcs, hb, hl, hm, hmm, rfl, hi⟩
  · injection hcs with hcs
    subst hcs
    exact ⟨none, 0, [], rfl, Ints.nil _, fun u hu => by cases hu⟩
  · injection hcs with hcs
    subst hcs
    have hlm : len ≤ m := by rw [hmm]; split <;> omega
    obtain ⟨l, hll, hp⟩ := list_of (P := fun i (u : Int) => w.cell? (a.add i) = some (.int .i64 u) ∧ (-9223372036854775808 ≤ u ∧ u ≤ 9223372036854775807)) len (fun i him => by
      obtain ⟨h1, h2⟩ := hi i (by omega)
      obtain ⟨z, h3, _, h4⟩ := DataW.trod_int Tryz.underlying3 h2
      injection h3 with h3
      rw [h3] at h1
      exact ⟨z, h1, wf_i64 h4⟩)
    have hsz : len ≤ 17592186044416 := by
      have h1 := hf ((len + (m - len)) * Tryz.prog.bytesOf 3) (by simp [DataW.weights, Tryz.underlying22])
      have hB : Tryz.prog.bytesOf 3 = 8 := by kernel_rfl
      rw [hB] at h1
      have h2 : reachBytes = 140737488351232 := rfl
      rw [h2] at h1
      omega
    subst hll
    refine ⟨some a, cap, l, rfl, ⟨⟨by rw [enc_len ic_len], fun _ => ⟨a, rfl, fun j u hu => ?_⟩⟩, hsz⟩, fun u hu => ?_⟩
    · rw [enc_ic, List.getElem?_map] at hu
      obtain ⟨q, hq, rfl⟩ := Option.map_eq_some_iff.1 hu
      obtain ⟨hj, rfl⟩ := List.getElem?_eq_some_iff.1 hq
      exact (hp j hj).1
    · obtain ⟨i, hi', rfl⟩ := List.getElem_of_mem hu
      exact (hp i hi').2

/-- The numbers that a node, a graph may be handed in with. -/
def fitsI (l : List Int) : Prop := ∀ u ∈ l, -9223372036854775808 ≤ u ∧ u ≤ 9223372036854775807
def fitsN (x : Nd) : Prop := fitsI x.slots ∧ fitsI x.words
def fitsG (g : Gr) : Prop := fitsI g.roots ∧ ∀ x ∈ g.nodes, fitsN x

theorem node_cells : Tryz.prog.cellsOf 55 = 2 := by kernel_rfl
set_option maxRecDepth 100000 in
theorem open_nodes {fuel : Nat} {v : Value} {y : DataW H × List MemPlace} (h : DataW.trod enc Tryz.prog w base spare held fuel 23 [v] = some y) (hf : Fit 23 y.1) : ∃ A c l, v = .slice A l.length c ∧ Nodes w A l ∧ ∀ x ∈ l, fitsN x := by
  rcases open_slice Tryz.underlying23 h with ⟨hcs, _⟩ | ⟨a, len, cap, m, n, D, Pl, hcs, hb, hl, hm, hmm, rfl, hi⟩
  · injection hcs with hcs
    subst hcs
    exact ⟨none, 0, [], rfl, ⟨by simp, fun i hi => absurd hi (by simp)⟩, fun u hu => by cases hu⟩
  · injection hcs with hcs
    subst hcs
    have hlm : len ≤ m := by rw [hmm]; split <;> omega
    have hfa : ∀ i, i < len → Fit 55 (D i) := fun i hil n hn => by
      refine hf n ?_
      simp only [DataW.weights, Tryz.underlying23, List.mem_cons, List.mem_append]
      exact .inr (.inl (weights_all (List.mem_map.2 ⟨i, List.mem_range.2 hil, rfl⟩) n hn))
    obtain ⟨l, hll, hp⟩ := list_of (P := fun i (x : Nd) => NdAt w (a.add (i * 2)) x ∧ fitsN x) len (fun i him => by
      obtain ⟨cs', hc, ht'⟩ := hi i (by omega)
      rw [node_cells] at hc
      obtain ⟨_, hcl, hat⟩ := World.cells?_some hc
      obtain ⟨y0, y1, n', hy, _, hy0, hy1⟩ := trod_struct2 Tryz.underlying55 ht'
      match cs', hcl, hat, hy0, hy1 with
      | [v0, v1], _, hat, hy0, hy1 =>
        have hfi := hfa i him
        simp only [Prod.mk.injEq] at hy
        have t0 : DataW.trod enc Tryz.prog w base spare held n' 22 [v0] = some y0 := hy0
        have t1 : DataW.trod enc Tryz.prog w base spare held n' 22 [v1] = some y1 := hy1
        have f0 : Fit 22 y0.1 := fun n hn => hfi n (by
          rw [hy.1]
          simp only [DataW.weights, Tryz.underlying55]
          exact List.mem_append.2 (.inl hn))
        have f1 : Fit 22 y1.1 := fun n hn => hfi n (by
          rw [hy.1]
          simp only [DataW.weights, Tryz.underlying55]
          exact List.mem_append.2 (.inr (List.mem_append.2 (.inl hn))))
        obtain ⟨A0, c0, l0, rfl, i0, g0⟩ := open_ints t0 f0
        obtain ⟨A1, c1, l1, rfl, i1, g1⟩ := open_ints t1 f1
        have a0 := hat (i := 0) (by omega)
        have a1 := hat (i := 1) (by omega)
        refine ⟨⟨l0, l1⟩, ⟨A0, c0, A1, c1, ?_, ?_, i0, i1⟩, ⟨g0, g1⟩⟩
        · rw [add_of_add] at a0
          simpa using a0
        · simpa [Addr.add] using a1)
    have hsz : len ≤ 17592186044416 := by
      have h1 := hf ((len + (m - len)) * Tryz.prog.bytesOf 55) (by simp [DataW.weights, Tryz.underlying23])
      have hB : Tryz.prog.bytesOf 55 = 48 := by kernel_rfl
      rw [hB] at h1
      have h2 : reachBytes = 140737488351232 := rfl
      rw [h2] at h1
      omega
    subst hll
    refine ⟨some a, cap, l, rfl, ⟨hsz, fun i hil => ⟨a, rfl, (hp i hil).1⟩⟩, fun x hx => ?_⟩
    obtain ⟨i, hi', rfl⟩ := List.getElem_of_mem hx
    exact (hp i hi').2

set_option maxRecDepth 100000 in
/-- A graph by value. -/
theorem open_graph {b0 : Nat} {r : Reach} {v : Value} {d : DataW H} {p : List MemPlace} (hv : Value.okWide Tryz.prog w r b0 25 v) (h : DataW.Trod enc Tryz.prog w base spare held 25 v d p) (hf : Fit 25 d) :
    ∃ (g : Gr) (A : Option Addr) (c : Nat) (B : Option Addr) (e : Nat), v = .agg #[.slice A g.roots.length c, .slice B g.nodes.length e] ∧ Ints w A g.roots ∧ Nodes w B g.nodes ∧ fitsG g := by
  obtain ⟨v0, v1, y0, y1, n, rfl, hd, _, h0, h1⟩ := open_agg2 Tryz.underlying25 (by kernel_rfl) (by kernel_rfl) hv h
  have f0 : Fit 22 y0.1 := fun n hn => hf n (by
    rw [hd]
    simp only [DataW.weights, Tryz.underlying25]
    exact List.mem_append.2 (.inl hn))
  have f1 : Fit 23 y1.1 := fun n hn => hf n (by
    rw [hd]
    simp only [DataW.weights, Tryz.underlying25]
    exact List.mem_append.2 (.inr (List.mem_append.2 (.inl hn))))
  obtain ⟨A, c, l, rfl, i0, g0⟩ := open_ints h0 f0
  obtain ⟨B, e, m, rfl, i1, g1⟩ := open_nodes h1 f1
  exact ⟨⟨l, m⟩, A, c, B, e, rfl, i0, i1, ⟨g0, g1⟩⟩
set_option maxRecDepth 100000 in
/-- A node by value. -/
theorem open_node {b0 : Nat} {r : Reach} {v : Value} {d : DataW H} {p : List MemPlace} (hv : Value.okWide Tryz.prog w r b0 55 v) (h : DataW.Trod enc Tryz.prog w base spare held 55 v d p) (hf : Fit 55 d) :
    ∃ (x : Nd) (A : Option Addr) (c : Nat) (B : Option Addr) (e : Nat), v = .agg #[.slice A x.slots.length c, .slice B x.words.length e] ∧ Ints w A x.slots ∧ Ints w B x.words ∧ fitsN x := by
  obtain ⟨v0, v1, y0, y1, n, rfl, hd, _, h0, h1⟩ := open_agg2 Tryz.underlying55 (by kernel_rfl) (by kernel_rfl) hv h
  have f0 : Fit 22 y0.1 := fun n hn => hf n (by
    rw [hd]
    simp only [DataW.weights, Tryz.underlying55]
    exact List.mem_append.2 (.inl hn))
  have f1 : Fit 22 y1.1 := fun n hn => hf n (by
    rw [hd]
    simp only [DataW.weights, Tryz.underlying55]
    exact List.mem_append.2 (.inr (List.mem_append.2 (.inl hn))))
  obtain ⟨A, c, l, rfl, i0, g0⟩ := open_ints h0 f0
  obtain ⟨B, e, m, rfl, i1, g1⟩ := open_ints h1 f1
  exact ⟨⟨l, m⟩, A, c, B, e, rfl, i0, i1, ⟨g0, g1⟩⟩
end

end Go.Proofs.YteminkohgagedaaGreat.Args
