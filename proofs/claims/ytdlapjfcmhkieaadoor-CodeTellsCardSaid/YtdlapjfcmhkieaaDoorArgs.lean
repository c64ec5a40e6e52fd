/- How the arguments of the statements are opened: what reads as data is a list of whole numbers, of instructions. -/
import Derived.Test.YtdlapjfcmhkieaaDoorVerPlain
import Derived.Test.YtdlapjfcmhkieaaDoorProg
import Derived.ProofKit
import Derived.OpenShut
import Derived.ShutString
import Derived.ChangeOld
import Derived.ChangeSame
import Derived.SizedLaws
import Derived.Deep.Slices
import Derived.Deep.Fields
import Derived.Lib.SmallJoins
namespace Go.Proofs.YtdlapjfcmhkieaaDoor.Args
open Go.ChangeShapes Go.WideShapes Go.ChangeAt Go.RowKit Go.Deep Go.Joins Go.Proofs.YtdlapjfcmhkieaaDoor.Base
set_option linter.unusedVariables false
set_option linter.unusedSimpArgs false

theorem laidOut : laidOutB Tryd.prog = true := by kernel_rfl
theorem own : ownKnob Tryd.prog.godebug = none := by kernel_rfl

theorem wf_i64 {v : Int} (h : (Lit.int .i64 v).wf = true) : -9223372036854775808 ≤ v ∧ v ≤ 9223372036854775807 := by
  have h1 : IntKind.i64.min = -9223372036854775808 := by rfl
  have h2 : IntKind.i64.max = 9223372036854775807 := by rfl
  simp only [Lit.wf, h1, h2, Bool.and_eq_true, decide_eq_true_eq] at h
  omega

theorem list_of {α : Type} {P : Nat → α → Prop} (n : Nat) (h : ∀ i, i < n → ∃ x, P i x) : ∃ l : List α, l.length = n ∧ ∀ i, (hi : i < l.length) → P i l[i] := by
  induction n with
  | zero => exact ⟨[], rfl, fun i hi => absurd hi (by simp)⟩
  | succ n ih =>
    obtain ⟨l, hl, hp⟩ := ih (fun i hi => h i (by omega))
    obtain ⟨x, hx⟩ := h n (by omega)
    refine ⟨l ++ [x], by simp [hl], fun i hi => ?_⟩
    rcases Nat.lt_or_ge i l.length with h1 | h1
    · rw [List.getElem_append_left h1]; exact hp i h1
    · have : i = l.length := by simp at hi; omega
      subst this
      rw [List.getElem_append_right (Nat.le_refl _)]
      simpa [hl] using hx

section
variable {H : Type} {enc : TypeId × Value → H} {P : Program} {w : World} {base : Nat} {spare : Nat → Bool} {held : Bool}
theorem open_slice_fields {t e : TypeId} {fs : Array Field} {fuel : Nat} {cs : List Value} {x : DataW H × List MemPlace} (ht : P.underlying t = some (.slice e)) (he : P.underlying e = some (.struct fs))
    (hone : oneCellFields P fs = true) (hC : P.cellsOf e = fs.size) (h : DataW.trod enc P w base spare held fuel t cs = some x) :
    (cs = [.slice none 0 0] ∧ x = (.nil, [])) ∨
    ∃ (a : Addr) (len cap m : Nat) (D : Nat → DataW H) (Pl : Nat → List MemPlace), cs = [.slice (some a) len cap] ∧ base ≤ a.block ∧ len ≤ cap ∧ cap ≤ maxLen ∧ m = (if spare a.block then cap else len) ∧
      x = (.slice ((List.range len).map D) ((List.range (m - len)).map fun j => D (len + j)), MemPlace.row a (m * fs.size) ++ (List.range m).flatMap Pl) ∧
      ∀ i, i < m → ∃ (ys : List (DataW H × List MemPlace)) (n : Nat), D i = .agg (ys.map (·.1)) ∧ Pl i = ys.flatMap (·.2) ∧ ys.length = fs.size ∧
        ∀ (j : Nat) (f : Field), fs[j]? = some f → ∃ (v : Value) (y : DataW H × List MemPlace), w.cell? (a.add (i * fs.size + j)) = some v ∧ ys[j]? = some y ∧ DataW.trod enc P w base spare held n f.type [v] = some y := by
  rcases open_slice ht h with h0 | ⟨a, len, cap, m, n, D, Pl, hcs, hb, hl, hm, hmm, hx, hi⟩
  · exact .inl h0
  · refine .inr ⟨a, len, cap, m, D, Pl, hcs, hb, hl, hm, hmm, by rw [hC] at hx; exact hx, fun i him => ?_⟩
    obtain ⟨cs', hc, ht'⟩ := hi i him
    rw [hC] at hc
    obtain ⟨ys, n', hn', hy, hlen, hyl, hf⟩ := DataW.trod_struct he ht'
    obtain ⟨_, hcl, hat⟩ := World.cells?_some hc
    simp only [Prod.mk.injEq] at hy
    refine ⟨ys, n', hy.1, hy.2, hyl, fun j f hj => ?_⟩
    obtain ⟨ho, hk⟩ := hone_of hone j f hj
    have hjl : j < fs.size := (Array.getElem?_eq_some_iff.1 hj).1
    have hcell := hat j hjl
    have hv : cs'[j]? = some (cs'[j]'(by omega)) := List.getElem?_eq_getElem (by omega)
    have h1 := hf j f hj
    rw [ho, hk] at h1
    have hone' : (cs'.drop j).take 1 = [cs'[j]'(by omega)] := by
      rw [List.drop_eq_getElem_cons (by omega)]
      rfl
    rw [hone'] at h1
    have hys : ys[j]? = some (ys[j]'(by omega)) := List.getElem?_eq_getElem (by omega)
    refine ⟨_, _, ?_, hys, h1.trans hys⟩
    rw [← Go.Deep.add_add, hcell, hv]
end

/-- Cells that stand where a list's elements are, element by element. -/
theorem arr_of {α : Type} {w : World} {f : α → List Value} {s : Nat} (hf : ∀ x, (f x).length = s) (a : Addr) (l : List α) (hc : ∀ i, (hi : i < l.length) → ∀ j u, (f l[i])[j]? = some u → w.cell? (a.add (i * s + j)) = some u) : Arr w f s (some a) l := by
  refine ⟨enc_len hf l, fun _ => ⟨a, rfl, fun j u hu => ?_⟩⟩
  have hs : 0 < s := by
    rcases Nat.eq_zero_or_pos s with h | h
    · exfalso
      have : (enc f l).length = 0 := by rw [enc_len hf l, h]; simp
      rw [List.eq_nil_of_length_eq_zero this] at hu
      simp at hu
    · exact h
  have hj : j < l.length * s := by
    rw [← enc_len hf l]
    rcases Nat.lt_or_ge j (enc f l).length with h | h
    · exact h
    · rw [List.getElem?_eq_none h] at hu; cases hu
  have hi : j / s < l.length := Nat.div_lt_of_lt_mul (by rw [Nat.mul_comm]; exact hj)
  have e : j / s * s + j % s = j := by rw [Nat.mul_comm]; exact Nat.div_add_mod j s
  have h1 := enc_get hf l (j / s) hi (j % s) (Nat.mod_lt _ hs)
  rw [e, hu] at h1
  have h2 := hc (j / s) hi (j % s) u h1.symm
  rwa [e] at h2

open Go.Proofs.YtdlapjfcmhkieaaDoor.Ver in
theorem open_codes {H : Type} {enc : TypeId × Value → H} {w : World} {base : Nat} {spare : Nat → Bool} {held : Bool} {a : Option Addr} {len cap : Nat} {x : DataW H} {p : List MemPlace}
    (h : DataW.Trod enc Tryd.prog w base spare held 22 (.slice a len cap) x p) : ∃ l : List Ins, l.length = len ∧ Arr w Ins.cells 4 a l ∧ len ≤ cap ∧ ∀ x ∈ l, x.fits := by
  obtain ⟨fuel, hf⟩ := h
  rcases open_slice_fields Tryd.underlying22 Tryd.underlying28 (by kernel_rfl) (by kernel_rfl) hf with ⟨hcs, _⟩ | ⟨a', len', cap', m, D, Pl, hcs, hb, hl, hm, hmm, hx, hi⟩
  · simp [Value.cells] at hcs
    obtain ⟨rfl, rfl, rfl⟩ := hcs
    exact ⟨[], rfl, Reads.none_, Nat.le_refl _, fun x hx => by cases hx⟩
  · simp [Value.cells] at hcs
    obtain ⟨rfl, rfl, rfl⟩ := hcs
    have hlm : len ≤ m := by rw [hmm]; split <;> omega
    obtain ⟨l, hll, hp⟩ := list_of (P := fun i (y : Ins) => (∀ j u, y.cells[j]? = some u → w.cell? (a'.add (i * 4 + j)) = some u) ∧ y.fits) len (fun i him => by
      obtain ⟨ys, n, hD, hPl, hyl, hf2⟩ := hi i (by omega)
      obtain ⟨v0, y0, c0, e0, t0⟩ := hf2 0 _ rfl
      obtain ⟨v1, y1, c1, e1, t1⟩ := hf2 1 _ rfl
      obtain ⟨v2, y2, c2, e2, t2⟩ := hf2 2 _ rfl
      obtain ⟨v3, y3, c3, e3, t3⟩ := hf2 3 _ rfl
      obtain ⟨z0, h0, _, f0⟩ := DataW.trod_int Tryd.underlying3 t0
      obtain ⟨z1, h1, _, f1⟩ := DataW.trod_int Tryd.underlying3 t1
      obtain ⟨z2, h2, _, f2⟩ := DataW.trod_int Tryd.underlying3 t2
      obtain ⟨z3, h3, _, f3⟩ := DataW.trod_int Tryd.underlying3 t3
      simp only [List.cons.injEq, and_true] at h0 h1 h2 h3
      subst h0 h1 h2 h3
      refine ⟨⟨z0, z1, z2, z3⟩, fun j u hu => ?_, ⟨wf_i64 f1, wf_i64 f2, wf_i64 f3⟩⟩
      match j, hu with
      | 0, hu => cases hu; exact c0
      | 1, hu => cases hu; exact c1
      | 2, hu => cases hu; exact c2
      | 3, hu => cases hu; exact c3
      | j + 4, hu => simp [Ins.cells] at hu)
    refine ⟨l, hll, arr_of Ins.cells_len a' l (fun i hil j u hu => (hp i hil).1 j u hu), by omega, fun x hx => ?_⟩
    obtain ⟨i, hi, rfl⟩ := List.getElem_of_mem hx
    exact (hp i hi).2

set_option maxRecDepth 100000 in
open Go.Proofs.YtdlapjfcmhkieaaDoor.Ver in
/-- An instruction by value. -/
theorem open_ins {H : Type} {enc : TypeId × Value → H} {w : World} {base b0 : Nat} {spare : Nat → Bool} {held : Bool} {r : Reach} {v : Value} {d : DataW H} {p : List MemPlace}
    (hv : Value.okWide Tryd.prog w r b0 28 v) (h : DataW.Trod enc Tryd.prog w base spare held 28 v d p) :
    ∃ x : Ins, v = .agg #[.int .i64 x.op, .int .i64 x.a, .int .i64 x.b, .int .i64 x.c] ∧ x.fits := by
  obtain ⟨c0, c1, c2, c3, y0, y1, y2, y3, m, rfl, _, _, hy0, hy1, hy2, hy3⟩ := open_agg4 Tryd.underlying28 (by kernel_rfl) (by kernel_rfl) hv h
  obtain ⟨z0, h0, _, f0⟩ := DataW.trod_int Tryd.underlying3 hy0
  obtain ⟨z1, h1, _, f1⟩ := DataW.trod_int Tryd.underlying3 hy1
  obtain ⟨z2, h2, _, f2⟩ := DataW.trod_int Tryd.underlying3 hy2
  obtain ⟨z3, h3, _, f3⟩ := DataW.trod_int Tryd.underlying3 hy3
  simp only [List.cons.injEq, and_true] at h0 h1 h2 h3
  subst h0 h1 h2 h3
  exact ⟨⟨z0, z1, z2, z3⟩, rfl, ⟨wf_i64 f1, wf_i64 f2, wf_i64 f3⟩⟩

/-- A slice of instructions is no longer than its weight allows. -/
theorem sized_codes {H : Type} {enc : TypeId × Value → H} {w : World} {base : Nat} {spare : Nat → Bool} {held : Bool} {a : Option Addr} {len cap : Nat} {d : DataW H} {ps : List MemPlace} {ts : List TypeId} {ds : List (DataW H)} {j : Nat}
    (hsz : (DataW.weightsEach Tryd.prog ts ds).all (· ≤ reachBytes) = true) (ht : ts[j]? = some 22) (hd : ds[j]? = some d)
    (h : DataW.Trod enc Tryd.prog w base spare held 22 (.slice a len cap) d ps) : len * 32 ≤ 140737488351232 := by
  obtain ⟨fuel, hf⟩ := h
  rcases open_slice_fields Tryd.underlying22 Tryd.underlying28 (by kernel_rfl) (by kernel_rfl) hf with ⟨hcs, _⟩ | ⟨a', len', cap', m, D, Pl, hcs, hb, hl, hm, hmm, hx, hi⟩
  · simp [Value.cells] at hcs
    obtain ⟨rfl, rfl, rfl⟩ := hcs
    simp
  · simp [Value.cells] at hcs
    obtain ⟨rfl, rfl, rfl⟩ := hcs
    obtain ⟨hx, _⟩ := Prod.mk.inj hx
    subst hx
    have z := sized_slice hsz ht hd Tryd.underlying22
    have hB : Tryd.prog.bytesOf 28 = 32 := by kernel_rfl
    rw [hB] at z
    simp only [List.length_map, List.length_range] at z
    exact Nat.le_trans (Nat.mul_le_mul_right _ (Nat.le_add_right _ _)) z

end Go.Proofs.YtdlapjfcmhkieaaDoor.Args
