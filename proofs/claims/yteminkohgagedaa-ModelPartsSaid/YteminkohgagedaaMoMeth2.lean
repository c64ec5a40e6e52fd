/- The heap's other methods: Shape, Root, SetRoot, Commit, Abort. -/
import Derived.Test.YteminkohgagedaaMoOwnW
namespace Go.Proofs.Yteminkohgagedaa.Mo
open Go.RowKit Go.Proofs.Yteminkohgagedaa.Base Go.Proofs.Yteminkohgagedaa.Gr Go.Proofs.Yteminkohgagedaa.Ver
set_option linter.unusedVariables false
set_option linter.unusedSimpArgs false

def join (n : Nat) (o t : Nat → Tag) : Nat → Tag := fun k => if k < n then o k else t k
theorem join_lt {n : Nat} {o t : Nat → Tag} {k : Nat} (h : k < n) : join n o t k = o k := if_pos h
theorem join_new {n : Nat} {o t : Nat → Tag} (h : ∀ k, t k ≠ .other → n ≤ k) : ∀ k, t k ≠ .other → join n o t k = t k := fun k hk => by
  have := h k hk
  exact if_neg (by omega)
section
variable {w w1 : World} {o t : Nat → Tag} {B hp : Nat} {A : Option Addr} {c : Nat} {D : Option Addr} {d : Nat} {xs : List Value} {A' : Option Addr} {c' : Nat} {D' : Option Addr} {d' : Nat} {xs' : List Value} {now last g : Gr} {A2 D2 : Option Addr} {c2 d2 : Nat} {xs2 : List Value}
theorem turn_two {w2 : World} (hb : Below w.heap.size w w1) (hp : Nat) (ho : o hp ≠ .other) (i j : Nat) (v u : Value) : Turn w ((w1.setCell ⟨hp, i, none⟩ v).setCell ⟨hp, j, none⟩ u) o (join w.heap.size o t) :=
  ⟨Mod.trans (Mod.of_below hb) (mod_set' (S := fun k => k = hp) (mod_set' (S := fun k => k = hp) (Mod.refl _ _) rfl _) rfl _) (fun b _ e => by rw [e]; exact ho), fun _ hk => join_lt hk⟩
theorem commit_hm (h : HMv w o B hp A c D d xs A' c' D' d' xs' now last) (hg : GM w1 t true A2 c2 D2 d2 xs2 g) (ht : ∀ k, t k ≠ .other → w.heap.size ≤ k) (hb : Below w.heap.size w w1) :
    HM ((w1.setCell ⟨hp, 2, none⟩ (.slice A2 g.roots.length c2)).setCell ⟨hp, 3, none⟩ (.slice D2 g.nodes.length d2)) (join w.heap.size o t) B hp now g ∧ Turn w ((w1.setCell ⟨hp, 2, none⟩ (.slice A2 g.roots.length c2)).setCell ⟨hp, 3, none⟩ (.slice D2 g.nodes.length d2)) o (join w.heap.size o t) := by
  have hlt := h.blk.lt
  have hho : ∀ k, k = hp → join w.heap.size o t k = .heap := fun k e => by rw [e, join_lt hlt]; exact h.tag
  have hm : Mod (fun k => k = hp) w1 ((w1.setCell ⟨hp, 2, none⟩ (.slice A2 g.roots.length c2)).setCell ⟨hp, 3, none⟩ (.slice D2 g.nodes.length d2)) := mod_set' (S := fun k => k = hp) (mod_set' (S := fun k => k = hp) (Mod.refl _ _) rfl _) rfl _
  refine ⟨⟨A, c, D, d, xs, A2, c2, D2, d2, xs2, ?_, hho _ rfl, ?_, ?_, fun k hk e => ?_, ?_⟩, turn_two (w2 := w1) hb hp (by rw [h.tag]; exact fun h => by cases h) _ _ _ _⟩
  · exact ((h.blk.below hb hlt).set_ 2 (.slice A2 g.roots.length c2)).set_ 3 (.slice D2 g.nodes.length d2)
  · exact (h.now.mod (Mod.of_below (S := fun _ => False) hb) (fun _ _ h => h.elim) (fun k hk => join_lt hk)).mod hm (fun k _ e => by rw [hho k e]; exact fun h => by cases h) (fun _ _ => rfl)
  · exact (hg.retag (join_new ht)).mod hm (fun k _ e => by rw [hho k e]; exact fun h => by cases h) (fun _ _ => rfl)
  · rcases Nat.lt_or_ge k w.heap.size with h1 | h1
    · rw [join_lt h1] at e; exact h.lo k h1 e
    · exact Nat.le_trans h.base h1
  · exact Nat.le_trans h.base (Nat.le_trans hb.size hm.size)
theorem abort_hm (h : HMv w o B hp A c D d xs A' c' D' d' xs' now last) (hg : GM w1 t false A2 c2 D2 d2 xs2 g) (ht : ∀ k, t k ≠ .other → w.heap.size ≤ k) (hb : Below w.heap.size w w1) :
    HM ((w1.setCell ⟨hp, 0, none⟩ (.slice A2 g.roots.length c2)).setCell ⟨hp, 1, none⟩ (.slice D2 g.nodes.length d2)) (join w.heap.size o t) B hp g last ∧ Turn w ((w1.setCell ⟨hp, 0, none⟩ (.slice A2 g.roots.length c2)).setCell ⟨hp, 1, none⟩ (.slice D2 g.nodes.length d2)) o (join w.heap.size o t) := by
  have hlt := h.blk.lt
  have hho : ∀ k, k = hp → join w.heap.size o t k = .heap := fun k e => by rw [e, join_lt hlt]; exact h.tag
  have hm : Mod (fun k => k = hp) w1 ((w1.setCell ⟨hp, 0, none⟩ (.slice A2 g.roots.length c2)).setCell ⟨hp, 1, none⟩ (.slice D2 g.nodes.length d2)) := mod_set' (S := fun k => k = hp) (mod_set' (S := fun k => k = hp) (Mod.refl _ _) rfl _) rfl _
  refine ⟨⟨A2, c2, D2, d2, xs2, A', c', D', d', xs', ?_, hho _ rfl, ?_, ?_, fun k hk e => ?_, ?_⟩, turn_two (w2 := w1) hb hp (by rw [h.tag]; exact fun h => by cases h) _ _ _ _⟩
  · exact ((h.blk.below hb hlt).set_ 0 (.slice A2 g.roots.length c2)).set_ 1 (.slice D2 g.nodes.length d2)
  · exact (hg.retag (join_new ht)).mod hm (fun k _ e => by rw [hho k e]; exact fun h => by cases h) (fun _ _ => rfl)
  · exact (h.last.mod (Mod.of_below (S := fun _ => False) hb) (fun _ _ h => h.elim) (fun k hk => join_lt hk)).mod hm (fun k _ e => by rw [hho k e]; exact fun h => by cases h) (fun _ _ => rfl)
  · rcases Nat.lt_or_ge k w.heap.size with h1 | h1
    · rw [join_lt h1] at e; exact h.lo k h1 e
    · exact Nat.le_trans h.base h1
  · exact Nat.le_trans h.base (Nat.le_trans hb.size hm.size)
end

/-- Sizes of a graph that the heap bears. -/
structure Fits (g : Gr) : Prop where
  roots : g.roots.length = 8
  nodes : g.nodes.length ≤ 100000
  small : ∀ x ∈ g.nodes, x.slots.length ≤ 15 ∧ x.words.length ≤ 30
theorem Sound.fits {N : Nat} {g : Gr} (h : Sound N g) (hN : N ≤ 100000) : Fits g := ⟨h.roots, Nat.le_trans h.size hN, sound_small h⟩

theorem root_any {w : World} {o : Nat → Tag} {B hp : Nat} {now last : Gr} (h : HM w o B hp now last) (hf : Fits now) (i : Int) (h0 : 0 ≤ i) (h1 : i < 8) :
    Calls Try.prog 81 #[.pointer (some ⟨hp, 0, none⟩), .int .i64 i] w fun e w' => e = .returned (.tuple #[.int .i64 (gt now.roots i), .int .i64 0]) ∧ HM w' o B hp now last ∧ Turn w w' o o := by
  have HH := Lib.hid h
  obtain ⟨A, c, D, d, xs, A', c', D', d', xs', h⟩ := h
  obtain ⟨k, rfl⟩ : ∃ k : Nat, i = (k : Int) := ⟨i.toNat, by omega⟩
  have hr := hf.roots
  have hk : k < now.roots.length := by omega
  obtain ⟨g, rfl, hg, htg⟩ := h.now.roots.some_ (by omega)
  have c0 := h.cells.1
  have d0 := h.now.roots.cell k hk
  rw [gt_nat hk]
  rw [hr] at c0
  clear h hf hg htg
  have hk8 : (k : Int) < 8 := h1
  go_enter Try.func81, Try.ntmps81
  go_wp2
  go_ret2
  exact ⟨rfl, HH.out, Turn.refl _ _⟩
theorem setroot_any {w : World} {o : Nat → Tag} {B hp : Nat} {now last : Gr} (h : HM w o B hp now last) (hf : Fits now) (i v : Int) (h0 : 0 ≤ i) (h1 : i < 8) :
    Calls Try.prog 82 #[.pointer (some ⟨hp, 0, none⟩), .int .i64 i, .int .i64 v] w fun e w' => e = .returned (.int .i64 0) ∧ HM w' o B hp ⟨pu now.roots i v, now.nodes⟩ last ∧ Turn w w' o o := by
  obtain ⟨A, c, D, d, xs, A', c', D', d', xs', h⟩ := h
  obtain ⟨k, rfl⟩ : ∃ k : Nat, i = (k : Int) := ⟨i.toNat, by omega⟩
  have hr := hf.roots
  have hk : k < now.roots.length := by omega
  obtain ⟨g, rfl, hg, htg⟩ := h.now.roots.some_ (by omega)
  have c0 := h.cells.1
  have d0 := h.now.roots.cell k hk
  have f0 := h.now.roots.frozen k
  have HZ := Lib.hid (h.root rfl k v)
  have HT := Lib.hid (turn_cell (o := o) (Below.refl _ w) (G := g) (by rw [htg]; exact fun h => by cases h) k (.int .i64 v))
  rw [hr] at c0
  clear h hf htg
  have hk8 : (k : Int) < 8 := h1
  go_enter Try.func82, Try.ntmps82
  go_wp2
  go_ret
  exact ⟨rfl, ⟨_, _, _, _, _, _, _, _, _, _, HZ.out⟩, HT.out⟩
theorem shape_any {w : World} {o : Nat → Tag} {B hp : Nat} {now last : Gr} (h : HM w o B hp now last) (hf : Fits now) (a : Int) (h0 : 0 ≤ a) (h1 : a ≤ now.nodes.length) :
    Calls Try.prog 84 #[.pointer (some ⟨hp, 0, none⟩), .int .i64 a] w fun e w' => e = .returned (.tuple #[.int .i64 (if a = 0 then 0 else ((nd now a).slots.length : Int)), .int .i64 (if a = 0 then 0 else ((nd now a).words.length : Int)), .int .i64 (if a = 0 then 7 else 0)]) ∧ HM w' o B hp now last ∧ Turn w w' o o := by
  have HH := Lib.hid h
  have hn := hf.nodes
  obtain ⟨A, c, D, d, xs, A', c', D', d', xs', h⟩ := h
  rcases name_cases h0 h1 with rfl | ⟨j, hj, rfl⟩
  · clear h hf
    go_enter Try.func84, Try.ntmps84
    go_wp2
    go_ret3
    exact ⟨rfl, HH.out, Turn.refl _ _⟩
  · obtain ⟨M, G, q, G', q', rfl, _, _, c1, c2, p1, p2⟩ := h.now.nodes.at_ j hj
    have hc := h.cells.2.1
    have hb : ((j : Int) + 1 == 0) = false := beq_eq_false_iff_ne.mpr (by omega)
    have hz : ((j : Int) + 1 = 0) = False := eq_false (by omega)
    rw [nd_nat hj, if_neg (by omega), if_neg (by omega), if_neg (by omega)]
    have KN := Lib.hid (node_any w hp M _ d j hc hj hn)
    clear h hf p1 p2 hc
    go_enter Try.func84, Try.ntmps84
    go_wp2_with (first | (go_at_call 90; refine KN.out.mono ?_; rintro e w' ⟨rfl, rfl⟩))
    go_quiet (fail)
    go_wp2
    go_ret3
    exact ⟨rfl, HH.out.below (below_drewN (Below.refl _ _) _), Turn.of_below (below_drewN (Below.refl _ _) _)⟩

theorem commit_any {w : World} {o : Nat → Tag} {B hp : Nat} {now last : Gr} (h : HM w o B hp now last) (hf : Fits now) :
    Calls Try.prog 78 #[.pointer (some ⟨hp, 0, none⟩)] w fun e w' => ∃ o', e = .returned (.int .i64 0) ∧ HM w' o' B hp now now ∧ Turn w w' o o' := by
  obtain ⟨A, c, D, d, xs, A', c', D', d', xs', h⟩ := h
  have KO := Lib.hid (own_any true A D now c d w (h.now.roots.ints (by have := hf.roots; omega)) (h.now.nodes.reads (by have := hf.nodes; omega) hf.small) (by have := hf.roots; omega) hf.nodes hf.small)
  obtain ⟨c0, c1, c2, c3⟩ := h.cells
  have HH := Lib.hid h
  have hlt := h.blk.lt
  clear h hf
  go_enter Try.func78, Try.ntmps78
  go_wp2_with fail
  refine KO.out.mono ?_
  rintro e w1 ⟨t, A2, c2', D2, d2, xs2, rfl, hg, ht, hb⟩
  have hblk := HH.out.blk.below hb hlt
  have y2 := hblk.cell 2
  have y3 := hblk.cell 3
  have f2 := hblk.frozen 2
  have f3 := hblk.frozen 3
  have z := hblk.lt
  simp only [List.getElem?_toArray, List.getElem?_cons_zero, List.getElem?_cons_succ] at y2 y3
  have HR := Lib.hid (commit_hm HH.out hg ht hb)
  clear hg ht hb hblk KO
  go_wp2
  go_ret
  exact ⟨_, rfl, HR.out⟩
theorem abort_any {w : World} {o : Nat → Tag} {B hp : Nat} {now last : Gr} (h : HM w o B hp now last) (hf : Fits last) :
    Calls Try.prog 76 #[.pointer (some ⟨hp, 0, none⟩)] w fun e w' => ∃ o', e = .returned (.tuple #[]) ∧ HM w' o' B hp last last ∧ Turn w w' o o' := by
  obtain ⟨A, c, D, d, xs, A', c', D', d', xs', h⟩ := h
  have KO := Lib.hid (own_any false A' D' last c' d' w (h.last.roots.ints (by have := hf.roots; omega)) (h.last.nodes.reads (by have := hf.nodes; omega) hf.small) (by have := hf.roots; omega) hf.nodes hf.small)
  obtain ⟨c0, c1, c2, c3⟩ := h.cells
  have HH := Lib.hid h
  have hlt := h.blk.lt
  clear h hf
  go_enter Try.func76, Try.ntmps76
  go_wp2_with fail
  refine KO.out.mono ?_
  rintro e w1 ⟨t, A2, c2', D2, d2, xs2, rfl, hg, ht, hb⟩
  have hblk := HH.out.blk.below hb hlt
  have y2 := hblk.cell 0
  have y3 := hblk.cell 1
  have f2 := hblk.frozen 0
  have f3 := hblk.frozen 1
  have z := hblk.lt
  simp only [List.getElem?_toArray, List.getElem?_cons_zero, List.getElem?_cons_succ] at y2 y3
  have HR := Lib.hid (abort_hm HH.out hg ht hb)
  clear hg ht hb hblk KO
  go_wp2
  refine bodyPost_end (results_none rfl _ _ _) rfl ?_
  exact ⟨_, rfl, HR.out⟩

end Go.Proofs.Yteminkohgagedaa.Mo
