/- How a graph, a node, is opened where it is handed in. -/
import Derived.Test.YtbelbhdhcgpcpaaDoorGrPlain
import Derived.Test.YtbelbhdhcgpcpaaDoorProg
import Derived.ProofKit
import Derived.OpenShut
import Derived.ShutString
import Derived.ChangeOld
import Derived.ChangeSame
import Derived.SizedLaws
import Derived.Deep.Slices
import Derived.Deep.Fields
import Derived.Lib.SmallJoins
namespace Go.Proofs.YtbelbhdhcgpcpaaDoor.Args
open Go.ChangeShapes Go.WideShapes Go.ChangeAt Go.RowKit Go.Deep Go.Joins Go.Proofs.YtbelbhdhcgpcpaaDoor.Base Go.Proofs.YtbelbhdhcgpcpaaDoor.Gr
set_option linter.unusedVariables false
set_option linter.unusedSimpArgs false

theorem laidOut : laidOutB Tryd.prog = true := by kernel_rfl
theorem own : ownKnob Tryd.prog.godebug = none := by kernel_rfl

theorem wf_i64 {v : Int} (h : (Lit.int .i64 v).wf = true) : -9223372036854775808 ≤ v ∧ v ≤ 9223372036854775807 := by
  have h1 : IntKind.i64.min = -9223372036854775808 := by rfl
  have h2 : IntKind.i64.max = 9223372036854775807 := by rfl
  simp only [Lit.wf, h1, h2, Bool.and_eq_true, decide_eq_true_eq] at h
  omega
theorem list_of {α : Type} {P : Nat → α → Prop} (n : Nat) (h : ∀ i, i < n → ∃ x, P i x) : ∃ l : List α, l.length = n ∧ ∀ i, (hi : i < l.length) → P i l[i] := by
  induction n with
  | zero => exact ⟨[], rfl, fun i hi => absurd hi (by simp)⟩
  | succ n ih =>
    obtain ⟨l, hl, hp⟩ := ih (fun i hi => h i (by omega))
    obtain ⟨x, hx⟩ := h n (by omega)
    refine ⟨l ++ [x], by simp [hl], fun i hi => ?_⟩
    rcases Nat.lt_or_ge i l.length with h1 | h1
    · rw [List.getElem_append_left h1]; exact hp i h1
    · have : i = l.length := by simp at hi; omega
      subst this
      rw [List.getElem_append_right (Nat.le_refl _)]
      simpa [hl] using hx

/-- What is met in reading takes no more than the reach. -/
def Fit {H : Type} (t : TypeId) (d : DataW H) : Prop := ∀ n ∈ d.weights Tryd.prog t, n ≤ reachBytes
theorem fit_of {H : Type} {ts : List TypeId} {ds : List (DataW H)} (h : (DataW.weightsEach Tryd.prog ts ds).all (· ≤ reachBytes) = true) {j : Nat} {t : TypeId} {d : DataW H} (ht : ts[j]? = some t) (hd : ds[j]? = some d) : Fit t d := fun n hn => by
  have := List.all_eq_true.1 h _ (DataW.weights_mem_each ht hd n hn)
  simpa using this

section
variable {H : Type} {enc : TypeId × Value → H} {w : World} {base : Nat} {spare : Nat → Bool} {held : Bool}
theorem weights_all {e : TypeId} {l : List (DataW H)} {d : DataW H} (hd : d ∈ l) : ∀ n ∈ d.weights Tryd.prog e, n ∈ DataW.weightsAll Tryd.prog e l := by
  induction l with
  | nil => cases hd
  | cons x l ih =>
    intro n hn
    simp only [DataW.weightsAll, List.mem_append]
    rcases List.mem_cons.1 hd with rfl | h
    · exact .inl hn
    · exact .inr (ih h n hn)
theorem open_ints {fuel : Nat} {v : Value} {y : DataW H × List MemPlace} (h : DataW.trod enc Tryd.prog w base spare held fuel 22 [v] = some y) (hf : Fit 22 y.1) : ∃ A c l, v = .slice A l.length c ∧ Ints w A l ∧ (∀ u ∈ l, -9223372036854775808 ≤ u ∧ u ≤ 9223372036854775807) := by
  rcases open_slice1 Tryd.underlying22 (by kernel_rfl) h with ⟨hcs, _⟩ | ⟨a, len, cap, m, n, V, D, Pl, hcs, hb, hl, hm, hmm, rfl, hi⟩
  · injection hcs with hcs
    subst hcs
    exact ⟨none, 0, [], rfl, Ints.nil _, fun u hu => by cases hu⟩
  · injection hcs with hcs
    subst hcs
    have hlm : len ≤ m := by rw [hmm]; split <;> omega
    obtain ⟨l, hll, hp⟩ := list_of (P := fun i (u : Int) => w.cell? (a.add i) = some (.int .i64 u) ∧ (-9223372036854775808 ≤ u ∧ u ≤ 9223372036854775807)) len (fun i him => by
      obtain ⟨h1, h2⟩ := hi i (by omega)
      obtain ⟨z, h3, _, h4⟩ := DataW.trod_int Tryd.underlying3 h2
      injection h3 with h3
      rw [h3] at h1
      exact ⟨z, h1, wf_i64 h4⟩)
    have hsz : len ≤ 17592186044416 := by
      have h1 := hf ((len + (m - len)) * Tryd.prog.bytesOf 3) (by simp [DataW.weights, Tryd.underlying22])
      have hB : Tryd.prog.bytesOf 3 = 8 := by kernel_rfl
      rw [hB] at h1
      have h2 : reachBytes = 140737488351232 := rfl
      rw [h2] at h1
      omega
    subst hll
    refine ⟨some a, cap, l, rfl, ⟨⟨by rw [enc_len ic_len], fun _ => ⟨a, rfl, fun j u hu => ?_⟩⟩, hsz⟩, fun u hu => ?_⟩
    · rw [enc_ic, List.getElem?_map] at hu
      obtain ⟨q, hq, rfl⟩ := Option.map_eq_some_iff.1 hu
      obtain ⟨hj, rfl⟩ := List.getElem?_eq_some_iff.1 hq
      exact (hp j hj).1
    · obtain ⟨i, hi', rfl⟩ := List.getElem_of_mem hu
      exact (hp i hi').2

/-- The numbers that a node, a graph may be handed in with. -/
def fitsI (l : List Int) : Prop := ∀ u ∈ l, -9223372036854775808 ≤ u ∧ u ≤ 9223372036854775807
def fitsN (x : Nd) : Prop := fitsI x.slots ∧ fitsI x.words
def fitsG (g : Gr) : Prop := fitsI g.roots ∧ ∀ x ∈ g.nodes, fitsN x

theorem node_cells : Tryd.prog.cellsOf 32 = 2 := by kernel_rfl
set_option maxRecDepth 100000 in
theorem open_nodes {fuel : Nat} {v : Value} {y : DataW H × List MemPlace} (h : DataW.trod enc Tryd.prog w base spare held fuel 23 [v] = some y) (hf : Fit 23 y.1) : ∃ A c l, v = .slice A l.length c ∧ Nodes w A l ∧ ∀ x ∈ l, fitsN x := by
  rcases open_slice Tryd.underlying23 h with ⟨hcs, _⟩ | ⟨a, len, cap, m, n, D, Pl, hcs, hb, hl, hm, hmm, rfl, hi⟩
  · injection hcs with hcs
    subst hcs
    exact ⟨none, 0, [], rfl, ⟨by simp, fun i hi => absurd hi (by simp)⟩, fun u hu => by cases hu⟩
  · injection hcs with hcs
    subst hcs
    have hlm : len ≤ m := by rw [hmm]; split <;> omega
    have hfa : ∀ i, i < len → Fit 32 (D i) := fun i hil n hn => by
      refine hf n ?_
      simp only [DataW.weights, Tryd.underlying23, List.mem_cons, List.mem_append]
      exact .inr (.inl (weights_all (List.mem_map.2 ⟨i, List.mem_range.2 hil, rfl⟩) n hn))
    obtain ⟨l, hll, hp⟩ := list_of (P := fun i (x : Nd) => NdAt w (a.add (i * 2)) x ∧ fitsN x) len (fun i him => by
      obtain ⟨cs', hc, ht'⟩ := hi i (by omega)
      rw [node_cells] at hc
      obtain ⟨_, hcl, hat⟩ := World.cells?_some hc
      obtain ⟨y0, y1, n', hy, _, hy0, hy1⟩ := trod_struct2 Tryd.underlying32 ht'
      match cs', hcl, hat, hy0, hy1 with
      | [v0, v1], _, hat, hy0, hy1 =>
        have hfi := hfa i him
        simp only [Prod.mk.injEq] at hy
        have t0 : DataW.trod enc Tryd.prog w base spare held n' 22 [v0] = some y0 := hy0
        have t1 : DataW.trod enc Tryd.prog w base spare held n' 22 [v1] = some y1 := hy1
        have f0 : Fit 22 y0.1 := fun n hn => hfi n (by
          rw [hy.1]
          simp only [DataW.weights, Tryd.underlying32]
          exact List.mem_append.2 (.inl hn))
        have f1 : Fit 22 y1.1 := fun n hn => hfi n (by
          rw [hy.1]
          simp only [DataW.weights, Tryd.underlying32]
          exact List.mem_append.2 (.inr (List.mem_append.2 (.inl hn))))
        obtain ⟨A0, c0, l0, rfl, i0, g0⟩ := open_ints t0 f0
        obtain ⟨A1, c1, l1, rfl, i1, g1⟩ := open_ints t1 f1
        have a0 := hat (i := 0) (by omega)
        have a1 := hat (i := 1) (by omega)
        refine ⟨⟨l0, l1⟩, ⟨A0, c0, A1, c1, ?_, ?_, i0, i1⟩, ⟨g0, g1⟩⟩
        · rw [add_of_add] at a0
          simpa using a0
        · simpa [Addr.add] using a1)
    have hsz : len ≤ 17592186044416 := by
      have h1 := hf ((len + (m - len)) * Tryd.prog.bytesOf 32) (by simp [DataW.weights, Tryd.underlying23])
      have hB : Tryd.prog.bytesOf 32 = 48 := by kernel_rfl
      rw [hB] at h1
      have h2 : reachBytes = 140737488351232 := rfl
      rw [h2] at h1
      omega
    subst hll
    refine ⟨some a, cap, l, rfl, ⟨hsz, fun i hil => ⟨a, rfl, (hp i hil).1⟩⟩, fun x hx => ?_⟩
    obtain ⟨i, hi', rfl⟩ := List.getElem_of_mem hx
    exact (hp i hi').2

set_option maxRecDepth 100000 in
/-- A graph by value. -/
theorem open_graph {b0 : Nat} {r : Reach} {v : Value} {d : DataW H} {p : List MemPlace} (hv : Value.okWide Tryd.prog w r b0 25 v) (h : DataW.Trod enc Tryd.prog w base spare held 25 v d p) (hf : Fit 25 d) :
    ∃ (g : Gr) (A : Option Addr) (c : Nat) (B : Option Addr) (e : Nat), v = .agg #[.slice A g.roots.length c, .slice B g.nodes.length e] ∧ Ints w A g.roots ∧ Nodes w B g.nodes ∧ fitsG g := by
  obtain ⟨v0, v1, y0, y1, n, rfl, hd, _, h0, h1⟩ := open_agg2 Tryd.underlying25 (by kernel_rfl) (by kernel_rfl) hv h
  have f0 : Fit 22 y0.1 := fun n hn => hf n (by
    rw [hd]
    simp only [DataW.weights, Tryd.underlying25]
    exact List.mem_append.2 (.inl hn))
  have f1 : Fit 23 y1.1 := fun n hn => hf n (by
    rw [hd]
    simp only [DataW.weights, Tryd.underlying25]
    exact List.mem_append.2 (.inr (List.mem_append.2 (.inl hn))))
  obtain ⟨A, c, l, rfl, i0, g0⟩ := open_ints h0 f0
  obtain ⟨B, e, m, rfl, i1, g1⟩ := open_nodes h1 f1
  exact ⟨⟨l, m⟩, A, c, B, e, rfl, i0, i1, ⟨g0, g1⟩⟩
set_option maxRecDepth 100000 in
/-- A node by value. -/
theorem open_node {b0 : Nat} {r : Reach} {v : Value} {d : DataW H} {p : List MemPlace} (hv : Value.okWide Tryd.prog w r b0 32 v) (h : DataW.Trod enc Tryd.prog w base spare held 32 v d p) (hf : Fit 32 d) :
    ∃ (x : Nd) (A : Option Addr) (c : Nat) (B : Option Addr) (e : Nat), v = .agg #[.slice A x.slots.length c, .slice B x.words.length e] ∧ Ints w A x.slots ∧ Ints w B x.words ∧ fitsN x := by
  obtain ⟨v0, v1, y0, y1, n, rfl, hd, _, h0, h1⟩ := open_agg2 Tryd.underlying32 (by kernel_rfl) (by kernel_rfl) hv h
  have f0 : Fit 22 y0.1 := fun n hn => hf n (by
    rw [hd]
    simp only [DataW.weights, Tryd.underlying32]
    exact List.mem_append.2 (.inl hn))
  have f1 : Fit 22 y1.1 := fun n hn => hf n (by
    rw [hd]
    simp only [DataW.weights, Tryd.underlying32]
    exact List.mem_append.2 (.inr (List.mem_append.2 (.inl hn))))
  obtain ⟨A, c, l, rfl, i0, g0⟩ := open_ints h0 f0
  obtain ⟨B, e, m, rfl, i1, g1⟩ := open_ints h1 f1
  exact ⟨⟨l, m⟩, A, c, B, e, rfl, i0, i1, ⟨g0, g1⟩⟩
end

end Go.Proofs.YtbelbhdhcgpcpaaDoor.Args
