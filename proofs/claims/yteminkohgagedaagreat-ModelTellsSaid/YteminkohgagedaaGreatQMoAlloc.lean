/- The heap's Alloc. -/
import Derived.Test.YteminkohgagedaaGreatQMoOwnW
namespace Go.Proofs.YteminkohgagedaaGreat.Mo
open Go.RowKit Go.Proofs.YteminkohgagedaaGreat.Base Go.Proofs.YteminkohgagedaaGreat.Gr Go.Proofs.YteminkohgagedaaGreat.Ver
set_option linter.unusedVariables false
set_option linter.unusedSimpArgs false

def join (n : Nat) (o t : Nat → Tag) : Nat → Tag := fun k => if k < n then o k else t k
theorem join_lt {n : Nat} {o t : Nat → Tag} {k : Nat} (h : k < n) : join n o t k = o k := if_pos h
theorem join_new {n : Nat} {o t : Nat → Tag} (h : ∀ k, t k ≠ .other → n ≤ k) : ∀ k, t k ≠ .other → join n o t k = t k := fun k hk => by
  have := h k hk
  exact if_neg (by omega)
section
variable {w w1 : World} {o t : Nat → Tag} {B hp : Nat} {A : Option Addr} {c : Nat} {D : Option Addr} {d : Nat} {xs : List Value} {A' : Option Addr} {c' : Nat} {D' : Option Addr} {d' : Nat} {xs' : List Value} {now last g : Gr} {A2 D2 : Option Addr} {c2 d2 : Nat} {xs2 : List Value}
theorem turn_two {w2 : World} (hb : Below w.heap.size w w1) (hp : Nat) (ho : o hp ≠ .other) (i j : Nat) (v u : Value) : Turn w ((w1.setCell ⟨hp, i, none⟩ v).setCell ⟨hp, j, none⟩ u) o (join w.heap.size o t) :=
  ⟨Mod.trans (Mod.of_below hb) (mod_set' (S := fun k => k = hp) (mod_set' (S := fun k => k = hp) (Mod.refl _ _) rfl _) rfl _) (fun b _ e => by rw [e]; exact ho), fun _ hk => join_lt hk⟩
theorem commit_hm (h : HMv w o B hp A c D d xs A' c' D' d' xs' now last) (hg : GM w1 t true A2 c2 D2 d2 xs2 g) (ht : ∀ k, t k ≠ .other → w.heap.size ≤ k) (hb : Below w.heap.size w w1) :
    HM ((w1.setCell ⟨hp, 2, none⟩ (.slice A2 g.roots.length c2)).setCell ⟨hp, 3, none⟩ (.slice D2 g.nodes.length d2)) (join w.heap.size o t) B hp now g ∧ Turn w ((w1.setCell ⟨hp, 2, none⟩ (.slice A2 g.roots.length c2)).setCell ⟨hp, 3, none⟩ (.slice D2 g.nodes.length d2)) o (join w.heap.size o t) := by
  have hlt := h.blk.lt
  have hho : ∀ k, k = hp → join w.heap.size o t k = .heap := fun k e => by rw [e, join_lt hlt]; exact h.tag
  have hm : Mod (fun k => k = hp) w1 ((w1.setCell ⟨hp, 2, none⟩ (.slice A2 g.roots.length c2)).setCell ⟨hp, 3, none⟩ (.slice D2 g.nodes.length d2)) := mod_set' (S := fun k => k = hp) (mod_set' (S := fun k => k = hp) (Mod.refl _ _) rfl _) rfl _
  refine ⟨⟨A, c, D, d, xs, A2, c2, D2, d2, xs2, ?_, hho _ rfl, ?_, ?_, fun k hk e => ?_, ?_⟩, turn_two (w2 := w1) hb hp (by rw [h.tag]; exact fun h => by cases h) _ _ _ _⟩
  · exact ((h.blk.below hb hlt).set_ 2 (.slice A2 g.roots.length c2)).set_ 3 (.slice D2 g.nodes.length d2)
  · exact (h.now.mod (Mod.of_below (S := fun _ => False) hb) (fun _ _ h => h.elim) (fun k hk => join_lt hk)).mod hm (fun k _ e => by rw [hho k e]; exact fun h => by cases h) (fun _ _ => rfl)
  · exact (hg.retag (join_new ht)).mod hm (fun k _ e => by rw [hho k e]; exact fun h => by cases h) (fun _ _ => rfl)
  · rcases Nat.lt_or_ge k w.heap.size with h1 | h1
    · rw [join_lt h1] at e; exact h.lo k h1 e
    · exact Nat.le_trans h.base h1
  · exact Nat.le_trans h.base (Nat.le_trans hb.size hm.size)
theorem abort_hm (h : HMv w o B hp A c D d xs A' c' D' d' xs' now last) (hg : GM w1 t false A2 c2 D2 d2 xs2 g) (ht : ∀ k, t k ≠ .other → w.heap.size ≤ k) (hb : Below w.heap.size w w1) :
    HM ((w1.setCell ⟨hp, 0, none⟩ (.slice A2 g.roots.length c2)).setCell ⟨hp, 1, none⟩ (.slice D2 g.nodes.length d2)) (join w.heap.size o t) B hp g last ∧ Turn w ((w1.setCell ⟨hp, 0, none⟩ (.slice A2 g.roots.length c2)).setCell ⟨hp, 1, none⟩ (.slice D2 g.nodes.length d2)) o (join w.heap.size o t) := by
  have hlt := h.blk.lt
  have hho : ∀ k, k = hp → join w.heap.size o t k = .heap := fun k e => by rw [e, join_lt hlt]; exact h.tag
  have hm : Mod (fun k => k = hp) w1 ((w1.setCell ⟨hp, 0, none⟩ (.slice A2 g.roots.length c2)).setCell ⟨hp, 1, none⟩ (.slice D2 g.nodes.length d2)) := mod_set' (S := fun k => k = hp) (mod_set' (S := fun k => k = hp) (Mod.refl _ _) rfl _) rfl _
  refine ⟨⟨A2, c2, D2, d2, xs2, A', c', D', d', xs', ?_, hho _ rfl, ?_, ?_, fun k hk e => ?_, ?_⟩, turn_two (w2 := w1) hb hp (by rw [h.tag]; exact fun h => by cases h) _ _ _ _⟩
  · exact ((h.blk.below hb hlt).set_ 0 (.slice A2 g.roots.length c2)).set_ 1 (.slice D2 g.nodes.length d2)
  · exact (hg.retag (join_new ht)).mod hm (fun k _ e => by rw [hho k e]; exact fun h => by cases h) (fun _ _ => rfl)
  · exact (h.last.mod (Mod.of_below (S := fun _ => False) hb) (fun _ _ h => h.elim) (fun k hk => join_lt hk)).mod hm (fun k _ e => by rw [hho k e]; exact fun h => by cases h) (fun _ _ => rfl)
  · rcases Nat.lt_or_ge k w.heap.size with h1 | h1
    · rw [join_lt h1] at e; exact h.lo k h1 e
    · exact Nat.le_trans h.base h1
  · exact Nat.le_trans h.base (Nat.le_trans hb.size hm.size)
end

/-- Sizes of a graph that the heap bears. -/
structure Fits (g : Gr) : Prop where
  roots : g.roots.length = 8
  nodes : g.nodes.length ≤ 100000
  small : ∀ x ∈ g.nodes, x.slots.length ≤ 15 ∧ x.words.length ≤ 30
theorem Sound.fits {N : Nat} {g : Gr} (h : Sound N g) (hN : N ≤ 100000) : Fits g := ⟨h.roots, Nat.le_trans h.size hN, sound_small h⟩

theorem root_any {w : World} {o : Nat → Tag} {B hp : Nat} {now last : Gr} (h : HM w o B hp now last) (hf : Fits now) (i : Int) (h0 : 0 ≤ i) (h1 : i < 8) :
    Calls Tryz.prog 133 #[.pointer (some ⟨hp, 0, none⟩), .int .i64 i] w fun e w' => e = .returned (.tuple #[.int .i64 (gt now.roots i), .int .i64 0]) ∧ HM w' o B hp now last ∧ Turn w w' o o := by
  have HH := Lib.hid h
  obtain ⟨A, c, D, d, xs, A', c', D', d', xs', h⟩ := h
  obtain ⟨k, rfl⟩ : ∃ k : Nat, i = (k : Int) := ⟨i.toNat, by omega⟩
  have hr := hf.roots
  have hk : k < now.roots.length := by omega
  obtain ⟨g, rfl, hg, htg⟩ := h.now.roots.some_ (by omega)
  have c0 := h.cells.1
  have d0 := h.now.roots.cell k hk
  rw [gt_nat hk]
  rw [hr] at c0
  clear h hf hg htg
  have hk8 : (k : Int) < 8 := h1
  go_enter Tryz.func133, Tryz.ntmps133
  go_wp2
  go_ret2
  exact ⟨rfl, HH.out, Turn.refl _ _⟩
theorem setroot_any {w : World} {o : Nat → Tag} {B hp : Nat} {now last : Gr} (h : HM w o B hp now last) (hf : Fits now) (i v : Int) (h0 : 0 ≤ i) (h1 : i < 8) :
    Calls Tryz.prog 134 #[.pointer (some ⟨hp, 0, none⟩), .int .i64 i, .int .i64 v] w fun e w' => e = .returned (.int .i64 0) ∧ HM w' o B hp ⟨pu now.roots i v, now.nodes⟩ last ∧ Turn w w' o o := by
  obtain ⟨A, c, D, d, xs, A', c', D', d', xs', h⟩ := h
  obtain ⟨k, rfl⟩ : ∃ k : Nat, i = (k : Int) := ⟨i.toNat, by omega⟩
  have hr := hf.roots
  have hk : k < now.roots.length := by omega
  obtain ⟨g, rfl, hg, htg⟩ := h.now.roots.some_ (by omega)
  have c0 := h.cells.1
  have d0 := h.now.roots.cell k hk
  have f0 := h.now.roots.frozen k
  have HZ := Lib.hid (h.root rfl k v)
  have HT := Lib.hid (turn_cell (o := o) (Below.refl _ w) (G := g) (by rw [htg]; exact fun h => by cases h) k (.int .i64 v))
  rw [hr] at c0
  clear h hf htg
  have hk8 : (k : Int) < 8 := h1
  go_enter Tryz.func134, Tryz.ntmps134
  go_wp2
  go_ret
  exact ⟨rfl, ⟨_, _, _, _, _, _, _, _, _, _, HZ.out⟩, HT.out⟩
theorem shape_any {w : World} {o : Nat → Tag} {B hp : Nat} {now last : Gr} (h : HM w o B hp now last) (hf : Fits now) (a : Int) (h0 : 0 ≤ a) (h1 : a ≤ now.nodes.length) :
    Calls Tryz.prog 136 #[.pointer (some ⟨hp, 0, none⟩), .int .i64 a] w fun e w' => e = .returned (.tuple #[.int .i64 (if a = 0 then 0 else ((nd now a).slots.length : Int)), .int .i64 (if a = 0 then 0 else ((nd now a).words.length : Int)), .int .i64 (if a = 0 then 7 else 0)]) ∧ HM w' o B hp now last ∧ Turn w w' o o := by
  have HH := Lib.hid h
  have hn := hf.nodes
  obtain ⟨A, c, D, d, xs, A', c', D', d', xs', h⟩ := h
  rcases name_cases h0 h1 with rfl | ⟨j, hj, rfl⟩
  · clear h hf
    go_enter Tryz.func136, Tryz.ntmps136
    go_wp2
    go_ret3
    exact ⟨rfl, HH.out, Turn.refl _ _⟩
  · obtain ⟨M, G, q, G', q', rfl, _, _, c1, c2, p1, p2⟩ := h.now.nodes.at_ j hj
    have hc := h.cells.2.1
    have hb : ((j : Int) + 1 == 0) = false := beq_eq_false_iff_ne.mpr (by omega)
    have hz : ((j : Int) + 1 = 0) = False := eq_false (by omega)
    rw [nd_nat hj, if_neg (by omega), if_neg (by omega), if_neg (by omega)]
    have KN := Lib.hid (node_any w hp M _ d j hc hj hn)
    clear h hf p1 p2 hc
    go_enter Tryz.func136, Tryz.ntmps136
    go_wp2_with (first | (go_at_call 142; refine KN.out.mono ?_; rintro e w' ⟨rfl, rfl⟩))
    go_quiet (fail)
    go_wp2
    go_ret3
    exact ⟨rfl, HH.out.below (below_drewN (Below.refl _ _) _), Turn.of_below (below_drewN (Below.refl _ _) _)⟩

theorem commit_any {w : World} {o : Nat → Tag} {B hp : Nat} {now last : Gr} (h : HM w o B hp now last) (hf : Fits now) :
    Calls Tryz.prog 130 #[.pointer (some ⟨hp, 0, none⟩)] w fun e w' => ∃ o', e = .returned (.int .i64 0) ∧ HM w' o' B hp now now ∧ Turn w w' o o' := by
  obtain ⟨A, c, D, d, xs, A', c', D', d', xs', h⟩ := h
  have KO := Lib.hid (own_any true A D now c d w (h.now.roots.ints (by have := hf.roots; omega)) (h.now.nodes.reads (by have := hf.nodes; omega) hf.small) (by have := hf.roots; omega) hf.nodes hf.small)
  obtain ⟨c0, c1, c2, c3⟩ := h.cells
  have HH := Lib.hid h
  have hlt := h.blk.lt
  clear h hf
  go_enter Tryz.func130, Tryz.ntmps130
  go_wp2_with fail
  refine KO.out.mono ?_
  rintro e w1 ⟨t, A2, c2', D2, d2, xs2, rfl, hg, ht, hb⟩
  have hblk := HH.out.blk.below hb hlt
  have y2 := hblk.cell 2
  have y3 := hblk.cell 3
  have f2 := hblk.frozen 2
  have f3 := hblk.frozen 3
  have z := hblk.lt
  simp only [List.getElem?_toArray, List.getElem?_cons_zero, List.getElem?_cons_succ] at y2 y3
  have HR := Lib.hid (commit_hm HH.out hg ht hb)
  clear hg ht hb hblk KO
  go_wp2
  go_ret
  exact ⟨_, rfl, HR.out⟩
theorem abort_any {w : World} {o : Nat → Tag} {B hp : Nat} {now last : Gr} (h : HM w o B hp now last) (hf : Fits last) :
    Calls Tryz.prog 128 #[.pointer (some ⟨hp, 0, none⟩)] w fun e w' => ∃ o', e = .returned (.tuple #[]) ∧ HM w' o' B hp last last ∧ Turn w w' o o' := by
  obtain ⟨A, c, D, d, xs, A', c', D', d', xs', h⟩ := h
  have KO := Lib.hid (own_any false A' D' last c' d' w (h.last.roots.ints (by have := hf.roots; omega)) (h.last.nodes.reads (by have := hf.nodes; omega) hf.small) (by have := hf.roots; omega) hf.nodes hf.small)
  obtain ⟨c0, c1, c2, c3⟩ := h.cells
  have HH := Lib.hid h
  have hlt := h.blk.lt
  clear h hf
  go_enter Tryz.func128, Tryz.ntmps128
  go_wp2_with fail
  refine KO.out.mono ?_
  rintro e w1 ⟨t, A2, c2', D2, d2, xs2, rfl, hg, ht, hb⟩
  have hblk := HH.out.blk.below hb hlt
  have y2 := hblk.cell 0
  have y3 := hblk.cell 1
  have f2 := hblk.frozen 0
  have f3 := hblk.frozen 1
  have z := hblk.lt
  simp only [List.getElem?_toArray, List.getElem?_cons_zero, List.getElem?_cons_succ] at y2 y3
  have HR := Lib.hid (abort_hm HH.out hg ht hb)
  clear hg ht hb hblk KO
  go_wp2
  refine bodyPost_end (results_none rfl _ _ _) rfl ?_
  exact ⟨_, rfl, HR.out⟩

end Go.Proofs.YteminkohgagedaaGreat.Mo
namespace Go.Proofs.YteminkohgagedaaGreat.Mo
open Go.RowKit Go.Proofs.YteminkohgagedaaGreat.Base Go.Proofs.YteminkohgagedaaGreat.Gr Go.Proofs.YteminkohgagedaaGreat.Ver
set_option linter.unusedVariables false
set_option linter.unusedSimpArgs false

theorem reads_new_at {w : World} {p : Nat} {t : TypeId} {size n : Nat} {cs : Array Value} (hp : w.heap.size = p) (h : cs.size = n * size) : Reads (w.alloc (.cells cs t)) size (some ⟨p, 0, none⟩) n cs.toList := by
  subst hp
  exact Reads.new w t h
theorem own_zeros {w : World} {p n : Nat} (h : Blk w p 3 (List.replicate n (Value.int .i64 0)).toArray) (hn : n ≤ 1000) : w.ownsRow 0 3 1 (.slice (some ⟨p, 0, none⟩) n n) n (enc ic (List.replicate n 0)) := by
  refine ⟨by rw [enc_len ic_len, List.length_replicate], .inr ⟨p, n, _, rfl, Nat.zero_le _, h, Nat.le_refl _, by simp only [maxLen]; omega, by simp, ?_⟩⟩
  rw [enc_ic, List.map_replicate, List.take_of_length_le (by simp)]
theorem alloc_hm {w W2 W3 w4 : World} {o : Nat → Tag} {B hp : Nat} {A : Option Addr} {c : Nat} {D : Option Addr} {d : Nat} {xs : List Value} {A' : Option Addr} {c' : Nat} {D' : Option Addr} {d' : Nat} {xs' : List Value} {now last : Gr} {s n pa pb L : Nat} {v4 : Value}
    (h : HMv w o B hp A c D d xs A' c' D' d' xs' now last) (hL : now.nodes.length = L) (hs : s ≤ 1000) (hn : n ≤ 1000) (hb : Below w.heap.size w W2) (ha : Blk W2 pa 3 (List.replicate s (Value.int .i64 0)).toArray) (hbk : Blk W2 pb 3 (List.replicate n (Value.int .i64 0)).toArray)
    (hpa : w.heap.size ≤ pa) (hpb : w.heap.size ≤ pb) (hne : pa ≠ pb) (ob : Obj) (hl : Like (W2.alloc ob) W3) (hg : W3.grownBy w4 (Value.slice D L d).ownBlock)
    (hown : w4.ownsRow 0 55 2 v4 (L + 1) (xs ++ [.slice (some ⟨pa, 0, none⟩) s s, .slice (some ⟨pb, 0, none⟩) n n])) (hat : v4.ownBlock = (Value.slice D L d).ownBlock ∨ v4.ownBlock = some W3.heap.size) :
    ∃ o', HM (w4.setCell ⟨hp, 1, none⟩ v4) o' B hp (mkN now s n) last ∧ Turn w (w4.setCell ⟨hp, 1, none⟩ v4) o o' ∧ w4.cell? ⟨hp, 1, none⟩ = some (.slice D L d) ∧ w4.frozen? ⟨hp, 1, none⟩ = false ∧ hp < w4.heap.size := by
  subst hL
  obtain ⟨D4, d4, rfl, hd4⟩ := own_form hown
  have hb3 : Below W2.heap.size W2 W3 := by
    have := below_1 W2 ob
    exact ⟨hl.os.trans this.os, hl.tape.trans this.tape, hl.output.trans this.output, by rw [hl.heap]; exact this.size, fun i hi => by rw [hl.heap]; exact this.block i hi⟩
  have hbW : Below w.heap.size w W3 := below_then hb hb3
  have hA3 := own_zeros (ha.below hb3 ha.lt) hs
  have hB3 := own_zeros (hbk.below hb3 hbk.lt) hn
  have hnd := snoc_step (AC := some ⟨pa, 0, none⟩) (BC := some ⟨pb, 0, none⟩) (c := s) (d' := n) (x := ⟨List.replicate s 0, List.replicate n 0⟩) h.now.nodes hbW (by simpa using hA3) (fun ad e => by injection e with e; subst e; exact hpa) (by simpa using hB3) (fun ad e => by injection e with e; subst e; exact hpb)
    (fun ad ad' e e' => by injection e with e; injection e' with e'; subst e e'; exact hne) hg (by simpa using hown) hat
  simp only [List.length_replicate] at hnd
  generalize ho' : tag3 o w.heap.size false now.nodes.length (some ⟨pa, 0, none⟩) (some ⟨pb, 0, none⟩) D4 = o' at hnd
  have hext : ∀ k, k < w.heap.size → o' k = o k := fun k hk => by rw [← ho']; exact if_pos hk
  have hlt := h.blk.lt
  have hhp : ∀ k, k = hp → o' k = .heap := fun k e => by rw [e, hext _ hlt]; exact h.tag
  have hDo : ∀ k, some k = (Value.slice D now.nodes.length d).ownBlock → o k = .nodes false := fun k hk => by
    obtain ⟨ad, e, rfl⟩ := block_iff hk.symm
    exact h.now.nodes.tag ad e
  have mg : Mod (fun k => some k = (Value.slice D now.nodes.length d).ownBlock) w w4 := Mod.trans (Mod.of_below (S := fun k => some k = (Value.slice D now.nodes.length d).ownBlock) hbW) (Mod.of_grown hg) (fun _ _ h => h)
  have ms : Mod (fun k => k = hp) w4 (w4.setCell ⟨hp, 1, none⟩ (.slice D4 (now.nodes.length + 1) d4)) := mod_set' (S := fun k => k = hp) (Mod.refl _ _) rfl _
  have hblk := h.blk.mod mg (fun e => by have := hDo _ e; rw [h.tag] at this; cases this)
  have hc1 := hblk.cell 1
  simp only [List.getElem?_toArray, List.getElem?_cons_zero, List.getElem?_cons_succ] at hc1
  have hlen : (mkN now (s : Int) (n : Int)).nodes.length = now.nodes.length + 1 := by simp [mkN]
  refine ⟨o', ⟨A, c, D4, d4, xs ++ [.slice (some ⟨pa, 0, none⟩) s s, .slice (some ⟨pb, 0, none⟩) n n], A', c', D', d', xs', ?_, hhp _ rfl, ⟨?_, ?_⟩, ?_, fun k hk e => ?_, Nat.le_trans h.base (Nat.le_trans mg.size ms.size)⟩, ⟨Mod.trans (mg.mono (fun k _ e => by rw [hDo k e]; exact fun h => by cases h)) ms (fun k _ e => by rw [e, h.tag]; exact fun h => by cases h), hext⟩, hc1, hblk.frozen 1, hblk.lt⟩
  · rw [hlen]
    exact hblk.set_ 1 (.slice D4 (now.nodes.length + 1) d4)
  · exact (h.now.roots.mod mg (fun k _ e e2 => by rw [hDo k e] at e2; cases e2) hext).mod ms (fun k _ e e2 => by rw [hhp k e] at e2; cases e2) (fun _ _ => rfl)
  · exact hnd.mod ms (fun k _ e => by rw [hhp k e]; exact fun h => by cases h) (fun _ _ => rfl)
  · exact (h.last.mod mg (fun k _ e => by rw [hDo k e]; exact fun h => by cases h) hext).mod ms (fun k _ e => by rw [hhp k e]; exact fun h => by cases h) (fun _ _ => rfl)
  · rcases Nat.lt_or_ge k w.heap.size with h1 | h1
    · rw [hext k h1] at e; exact h.lo k h1 e
    · exact Nat.le_trans h.base h1

theorem own_ahead2 {w W' : World} {base e size n : Nat} {v : Value} {xs : List Value} (h : w.ownsRow base e size v n xs) (o1 o2 o3 : Obj) (hl : Like (((w.alloc o1).alloc o2).alloc o3) W') : W'.ownsRow base e size v n xs := own_like (own_below (own_below (own_below h (below_1 _ _)) (below_1 _ _)) (below_1 _ _)) hl
theorem second_blk (w : World) (p q : Array Value) (t u : TypeId) : Blk ((w.alloc (.cells p t)).alloc (.cells q u)) (w.heap.size + 1) u q := by
  have := Blk.new (w.alloc (.cells p t)) u q
  rwa [World.size_alloc] at this

set_option maxHeartbeats 4000000 in
theorem alloc_any {w : World} {o : Nat → Tag} {B hp : Nat} {now last : Gr} (h : HM w o B hp now last) (hf : Fits now) (s n : Nat) (hs : s ≤ 15) (hn : n ≤ 30) :
    Calls Tryz.prog 129 #[.pointer (some ⟨hp, 0, none⟩), .int .i64 (s : Int), .int .i64 (n : Int)] w fun e w' => ∃ o', e = .returned (.tuple #[.int .i64 ((now.nodes.length : Int) + 1), .int .i64 0]) ∧ HM w' o' B hp (mkN now s n) last ∧ Turn w w' o o' := by
  obtain ⟨i0, hi0, hz0, hz1, hz2⟩ := info_parts1 nodeInfo
  obtain ⟨A, c, D, d, xs, A', c', D', d', xs', h⟩ := h
  obtain ⟨L, hL⟩ : ∃ L, now.nodes.length = L := ⟨_, rfl⟩
  have hlen := hf.nodes
  rw [hL] at hlen
  obtain ⟨c0, c1, c2, c3⟩ := h.cells
  have f1 := h.blk.frozen 1
  have zl := h.blk.lt
  have zl1 : hp < w.heap.size + 1 := by omega
  have zl2 : hp < w.heap.size + 1 + 1 := by omega
  have zl3 : hp < w.heap.size + 1 + 1 + 1 := by omega
  have hms := make_ints s (by omega)
  have hmn := make_ints n (by omega)
  have hrow := h.now.nodes.own
  rw [hL] at c1 hrow
  have HR := Lib.hid hrow
  have HH := Lib.hid h
  have HL := Lib.hid hL
  rw [hL]
  clear h hf hrow c0 c2 c3
  go_enter Tryz.func129, Tryz.ntmps129
  go_wp2_with fail
  go_region_law (first
        | (refine step_append_any _ rfl _ _ _ (by rfl) 0 55 i0 _ 2 48 Tryz.underlying23 hi0 hz0 hz1 hz2 rfl (by omega) (.slice D L d) L xs (by rfl) (own_ahead2 HR.out _ _ _ (by (first | exact like_self _ | exact like_drew (like_self _) | exact like_drew (like_drew (like_self _)) | exact like_drew (like_drew (like_drew (like_self _)))))) _ 1 1 _ (by rfl) (reads_new_at (by simp) rfl) (by simp [Value.oneCell']) (fun e => by cases e) (by simp only [maxLen]; omega) (by omega) (by simp) ?_; intro v4 w4 hown4 hg4 hat4; obtain ⟨D4, d4, rfl, hd4⟩ := own_form hown4; obtain ⟨o', r1, r2, r3, r4, r5⟩ := alloc_hm HH.out HL.out (by omega) (by omega) (below_then (below_1 w _) (below_1 _ _)) (Blk.alloc (Blk.new w _ _) _) (second_blk w _ _ _ _) (by omega) (by omega) (by omega) _ (by (first | exact like_self _ | exact like_drew (like_self _) | exact like_drew (like_drew (like_self _)) | exact like_drew (like_drew (like_drew (like_self _))))) hg4 hown4 hat4; have HZ := Lib.hid r1; have HT := Lib.hid r2; clear r1 r2 hown4 hg4 hat4)
        | (refine step_append_any _ rfl _ _ _ (by rfl) 0 55 i0 _ 2 48 Tryz.underlying23 hi0 hz0 hz1 hz2 rfl (by omega) (.slice D L d) L xs (by rfl) (own_ahead2 HR.out _ _ _ (by (first | exact like_self _ | exact like_drew (like_self _) | exact like_drew (like_drew (like_self _)) | exact like_drew (like_drew (like_drew (like_self _)))))) _ 1 1 _ (by rfl) (reads_drew (reads_new_at (by simp) rfl)) (by simp [Value.oneCell']) (fun e => by cases e) (by simp only [maxLen]; omega) (by omega) (by simp) ?_; intro v4 w4 hown4 hg4 hat4; obtain ⟨D4, d4, rfl, hd4⟩ := own_form hown4; obtain ⟨o', r1, r2, r3, r4, r5⟩ := alloc_hm HH.out HL.out (by omega) (by omega) (below_then (below_1 w _) (below_1 _ _)) (Blk.alloc (Blk.new w _ _) _) (second_blk w _ _ _ _) (by omega) (by omega) (by omega) _ (by (first | exact like_self _ | exact like_drew (like_self _) | exact like_drew (like_drew (like_self _)) | exact like_drew (like_drew (like_drew (like_self _))))) hg4 hown4 hat4; have HZ := Lib.hid r1; have HT := Lib.hid r2; clear r1 r2 hown4 hg4 hat4)
        | (refine step_append_any _ rfl _ _ _ (by rfl) 0 55 i0 _ 2 48 Tryz.underlying23 hi0 hz0 hz1 hz2 rfl (by omega) (.slice D L d) L xs (by rfl) (own_ahead2 HR.out _ _ _ (by (first | exact like_self _ | exact like_drew (like_self _) | exact like_drew (like_drew (like_self _)) | exact like_drew (like_drew (like_drew (like_self _)))))) _ 1 1 _ (by rfl) (reads_new_at (by simp) rfl) (by simp [Value.oneCell']) (fun e => by cases e) (by simp only [maxLen]; omega) (by omega) (by simp) ?_; intro v4 w4 hown4 hg4 hat4; obtain ⟨D4, d4, rfl, hd4⟩ := own_form hown4; obtain ⟨o', r1, r2, r3, r4, r5⟩ := alloc_hm HH.out HL.out (by omega) (by omega) (below_then (below_1 w _) (below_1 _ _)) (second_blk w _ _ _ _) (Blk.alloc (Blk.new w _ _) _) (by omega) (by omega) (by omega) _ (by (first | exact like_self _ | exact like_drew (like_self _) | exact like_drew (like_drew (like_self _)) | exact like_drew (like_drew (like_drew (like_self _))))) hg4 hown4 hat4; have HZ := Lib.hid r1; have HT := Lib.hid r2; clear r1 r2 hown4 hg4 hat4)
        | (refine step_append_any _ rfl _ _ _ (by rfl) 0 55 i0 _ 2 48 Tryz.underlying23 hi0 hz0 hz1 hz2 rfl (by omega) (.slice D L d) L xs (by rfl) (own_ahead2 HR.out _ _ _ (by (first | exact like_self _ | exact like_drew (like_self _) | exact like_drew (like_drew (like_self _)) | exact like_drew (like_drew (like_drew (like_self _)))))) _ 1 1 _ (by rfl) (reads_drew (reads_new_at (by simp) rfl)) (by simp [Value.oneCell']) (fun e => by cases e) (by simp only [maxLen]; omega) (by omega) (by simp) ?_; intro v4 w4 hown4 hg4 hat4; obtain ⟨D4, d4, rfl, hd4⟩ := own_form hown4; obtain ⟨o', r1, r2, r3, r4, r5⟩ := alloc_hm HH.out HL.out (by omega) (by omega) (below_then (below_1 w _) (below_1 _ _)) (second_blk w _ _ _ _) (Blk.alloc (Blk.new w _ _) _) (by omega) (by omega) (by omega) _ (by (first | exact like_self _ | exact like_drew (like_self _) | exact like_drew (like_drew (like_self _)) | exact like_drew (like_drew (like_drew (like_self _))))) hg4 hown4 hat4; have HZ := Lib.hid r1; have HT := Lib.hid r2; clear r1 r2 hown4 hg4 hat4))
  all_goals
    go_wp2
    go_ret2
    exact ⟨o', rfl, HZ.out, HT.out⟩

end Go.Proofs.YteminkohgagedaaGreat.Mo
