/- The heap's Alloc. -/
import Derived.Test.YteminkohgagedaaMoMeth2
namespace Go.Proofs.Yteminkohgagedaa.Mo
open Go.RowKit Go.Proofs.Yteminkohgagedaa.Base Go.Proofs.Yteminkohgagedaa.Gr Go.Proofs.Yteminkohgagedaa.Ver
set_option linter.unusedVariables false
set_option linter.unusedSimpArgs false

theorem reads_new_at {w : World} {p : Nat} {t : TypeId} {size n : Nat} {cs : Array Value} (hp : w.heap.size = p) (h : cs.size = n * size) : Reads (w.alloc (.cells cs t)) size (some ⟨p, 0, none⟩) n cs.toList := by
  subst hp
  exact Reads.new w t h
theorem own_zeros {w : World} {p n : Nat} (h : Blk w p 3 (List.replicate n (Value.int .i64 0)).toArray) (hn : n ≤ 1000) : w.ownsRow 0 3 1 (.slice (some ⟨p, 0, none⟩) n n) n (enc ic (List.replicate n 0)) := by
  refine ⟨by rw [enc_len ic_len, List.length_replicate], .inr ⟨p, n, _, rfl, Nat.zero_le _, h, Nat.le_refl _, by simp only [maxLen]; omega, by simp, ?_⟩⟩
  rw [enc_ic, List.map_replicate, List.take_of_length_le (by simp)]
theorem alloc_hm {w W2 W3 w4 : World} {o : Nat → Tag} {B hp : Nat} {A : Option Addr} {c : Nat} {D : Option Addr} {d : Nat} {xs : List Value} {A' : Option Addr} {c' : Nat} {D' : Option Addr} {d' : Nat} {xs' : List Value} {now last : Gr} {s n pa pb L : Nat} {v4 : Value}
    (h : HMv w o B hp A c D d xs A' c' D' d' xs' now last) (hL : now.nodes.length = L) (hs : s ≤ 1000) (hn : n ≤ 1000) (hb : Below w.heap.size w W2) (ha : Blk W2 pa 3 (List.replicate s (Value.int .i64 0)).toArray) (hbk : Blk W2 pb 3 (List.replicate n (Value.int .i64 0)).toArray)
    (hpa : w.heap.size ≤ pa) (hpb : w.heap.size ≤ pb) (hne : pa ≠ pb) (ob : Obj) (hl : Like (W2.alloc ob) W3) (hg : W3.grownBy w4 (Value.slice D L d).ownBlock)
    (hown : w4.ownsRow 0 52 2 v4 (L + 1) (xs ++ [.slice (some ⟨pa, 0, none⟩) s s, .slice (some ⟨pb, 0, none⟩) n n])) (hat : v4.ownBlock = (Value.slice D L d).ownBlock ∨ v4.ownBlock = some W3.heap.size) :
    ∃ o', HM (w4.setCell ⟨hp, 1, none⟩ v4) o' B hp (mkN now s n) last ∧ Turn w (w4.setCell ⟨hp, 1, none⟩ v4) o o' ∧ w4.cell? ⟨hp, 1, none⟩ = some (.slice D L d) ∧ w4.frozen? ⟨hp, 1, none⟩ = false ∧ hp < w4.heap.size := by
  subst hL
  obtain ⟨D4, d4, rfl, hd4⟩ := own_form hown
  have hb3 : Below W2.heap.size W2 W3 := by
    have := below_1 W2 ob
    exact ⟨hl.os.trans this.os, hl.tape.trans this.tape, hl.output.trans this.output, by rw [hl.heap]; exact this.size, fun i hi => by rw [hl.heap]; exact this.block i hi⟩
  have hbW : Below w.heap.size w W3 := below_then hb hb3
  have hA3 := own_zeros (ha.below hb3 ha.lt) hs
  have hB3 := own_zeros (hbk.below hb3 hbk.lt) hn
  have hnd := snoc_step (AC := some ⟨pa, 0, none⟩) (BC := some ⟨pb, 0, none⟩) (c := s) (d' := n) (x := ⟨List.replicate s 0, List.replicate n 0⟩) h.now.nodes hbW (by simpa using hA3) (fun ad e => by injection e with e; subst e; exact hpa) (by simpa using hB3) (fun ad e => by injection e with e; subst e; exact hpb)
    (fun ad ad' e e' => by injection e with e; injection e' with e'; subst e e'; exact hne) hg (by simpa using hown) hat
  simp only [List.length_replicate] at hnd
  generalize ho' : tag3 o w.heap.size false now.nodes.length (some ⟨pa, 0, none⟩) (some ⟨pb, 0, none⟩) D4 = o' at hnd
  have hext : ∀ k, k < w.heap.size → o' k = o k := fun k hk => by rw [← ho']; exact if_pos hk
  have hlt := h.blk.lt
  have hhp : ∀ k, k = hp → o' k = .heap := fun k e => by rw [e, hext _ hlt]; exact h.tag
  have hDo : ∀ k, some k = (Value.slice D now.nodes.length d).ownBlock → o k = .nodes false := fun k hk => by
    obtain ⟨ad, e, rfl⟩ := block_iff hk.symm
    exact h.now.nodes.tag ad e
  have mg : Mod (fun k => some k = (Value.slice D now.nodes.length d).ownBlock) w w4 := Mod.trans (Mod.of_below (S := fun k => some k = (Value.slice D now.nodes.length d).ownBlock) hbW) (Mod.of_grown hg) (fun _ _ h => h)
  have ms : Mod (fun k => k = hp) w4 (w4.setCell ⟨hp, 1, none⟩ (.slice D4 (now.nodes.length + 1) d4)) := mod_set' (S := fun k => k = hp) (Mod.refl _ _) rfl _
  have hblk := h.blk.mod mg (fun e => by have := hDo _ e; rw [h.tag] at this; cases this)
  have hc1 := hblk.cell 1
  simp only [List.getElem?_toArray, List.getElem?_cons_zero, List.getElem?_cons_succ] at hc1
  have hlen : (mkN now (s : Int) (n : Int)).nodes.length = now.nodes.length + 1 := by simp [mkN]
  refine ⟨o', ⟨A, c, D4, d4, xs ++ [.slice (some ⟨pa, 0, none⟩) s s, .slice (some ⟨pb, 0, none⟩) n n], A', c', D', d', xs', ?_, hhp _ rfl, ⟨?_, ?_⟩, ?_, fun k hk e => ?_, Nat.le_trans h.base (Nat.le_trans mg.size ms.size)⟩, ⟨Mod.trans (mg.mono (fun k _ e => by rw [hDo k e]; exact fun h => by cases h)) ms (fun k _ e => by rw [e, h.tag]; exact fun h => by cases h), hext⟩, hc1, hblk.frozen 1, hblk.lt⟩
  · rw [hlen]
    exact hblk.set_ 1 (.slice D4 (now.nodes.length + 1) d4)
  · exact (h.now.roots.mod mg (fun k _ e e2 => by rw [hDo k e] at e2; cases e2) hext).mod ms (fun k _ e e2 => by rw [hhp k e] at e2; cases e2) (fun _ _ => rfl)
  · exact hnd.mod ms (fun k _ e => by rw [hhp k e]; exact fun h => by cases h) (fun _ _ => rfl)
  · exact (h.last.mod mg (fun k _ e => by rw [hDo k e]; exact fun h => by cases h) hext).mod ms (fun k _ e => by rw [hhp k e]; exact fun h => by cases h) (fun _ _ => rfl)
  · rcases Nat.lt_or_ge k w.heap.size with h1 | h1
    · rw [hext k h1] at e; exact h.lo k h1 e
    · exact Nat.le_trans h.base h1

theorem own_ahead2 {w W' : World} {base e size n : Nat} {v : Value} {xs : List Value} (h : w.ownsRow base e size v n xs) (o1 o2 o3 : Obj) (hl : Like (((w.alloc o1).alloc o2).alloc o3) W') : W'.ownsRow base e size v n xs := own_like (own_below (own_below (own_below h (below_1 _ _)) (below_1 _ _)) (below_1 _ _)) hl
theorem second_blk (w : World) (p q : Array Value) (t u : TypeId) : Blk ((w.alloc (.cells p t)).alloc (.cells q u)) (w.heap.size + 1) u q := by
  have := Blk.new (w.alloc (.cells p t)) u q
  rwa [World.size_alloc] at this

set_option maxHeartbeats 4000000 in
theorem alloc_any {w : World} {o : Nat → Tag} {B hp : Nat} {now last : Gr} (h : HM w o B hp now last) (hf : Fits now) (s n : Nat) (hs : s ≤ 15) (hn : n ≤ 30) :
    Calls Try.prog 77 #[.pointer (some ⟨hp, 0, none⟩), .int .i64 (s : Int), .int .i64 (n : Int)] w fun e w' => ∃ o', e = .returned (.tuple #[.int .i64 ((now.nodes.length : Int) + 1), .int .i64 0]) ∧ HM w' o' B hp (mkN now s n) last ∧ Turn w w' o o' := by
  obtain ⟨i0, hi0, hz0, hz1, hz2⟩ := info_parts1 nodeInfo
  obtain ⟨A, c, D, d, xs, A', c', D', d', xs', h⟩ := h
  obtain ⟨L, hL⟩ : ∃ L, now.nodes.length = L := ⟨_, rfl⟩
  have hlen := hf.nodes
  rw [hL] at hlen
  obtain ⟨c0, c1, c2, c3⟩ := h.cells
  have f1 := h.blk.frozen 1
  have zl := h.blk.lt
  have zl1 : hp < w.heap.size + 1 := by omega
  have zl2 : hp < w.heap.size + 1 + 1 := by omega
  have zl3 : hp < w.heap.size + 1 + 1 + 1 := by omega
  have hms := make_ints s (by omega)
  have hmn := make_ints n (by omega)
  have hrow := h.now.nodes.own
  rw [hL] at c1 hrow
  have HR := Lib.hid hrow
  have HH := Lib.hid h
  have HL := Lib.hid hL
  rw [hL]
  clear h hf hrow c0 c2 c3
  go_enter Try.func77, Try.ntmps77
  go_wp2_with fail
  go_region_law (first
        | (refine step_append_any _ rfl _ _ _ (by rfl) 0 52 i0 _ 2 48 Try.underlying23 hi0 hz0 hz1 hz2 rfl (by omega) (.slice D L d) L xs (by rfl) (own_ahead2 HR.out _ _ _ (by (first | exact like_self _ | exact like_drew (like_self _) | exact like_drew (like_drew (like_self _)) | exact like_drew (like_drew (like_drew (like_self _)))))) _ 1 1 _ (by rfl) (reads_new_at (by simp) rfl) (by simp [Value.oneCell']) (fun e => by cases e) (by simp only [maxLen]; omega) (by omega) (by simp) ?_; intro v4 w4 hown4 hg4 hat4; obtain ⟨D4, d4, rfl, hd4⟩ := own_form hown4; obtain ⟨o', r1, r2, r3, r4, r5⟩ := alloc_hm HH.out HL.out (by omega) (by omega) (below_then (below_1 w _) (below_1 _ _)) (Blk.alloc (Blk.new w _ _) _) (second_blk w _ _ _ _) (by omega) (by omega) (by omega) _ (by (first | exact like_self _ | exact like_drew (like_self _) | exact like_drew (like_drew (like_self _)) | exact like_drew (like_drew (like_drew (like_self _))))) hg4 hown4 hat4; have HZ := Lib.hid r1; have HT := Lib.hid r2; clear r1 r2 hown4 hg4 hat4)
        | (refine step_append_any _ rfl _ _ _ (by rfl) 0 52 i0 _ 2 48 Try.underlying23 hi0 hz0 hz1 hz2 rfl (by omega) (.slice D L d) L xs (by rfl) (own_ahead2 HR.out _ _ _ (by (first | exact like_self _ | exact like_drew (like_self _) | exact like_drew (like_drew (like_self _)) | exact like_drew (like_drew (like_drew (like_self _)))))) _ 1 1 _ (by rfl) (reads_drew (reads_new_at (by simp) rfl)) (by simp [Value.oneCell']) (fun e => by cases e) (by simp only [maxLen]; omega) (by omega) (by simp) ?_; intro v4 w4 hown4 hg4 hat4; obtain ⟨D4, d4, rfl, hd4⟩ := own_form hown4; obtain ⟨o', r1, r2, r3, r4, r5⟩ := alloc_hm HH.out HL.out (by omega) (by omega) (below_then (below_1 w _) (below_1 _ _)) (Blk.alloc (Blk.new w _ _) _) (second_blk w _ _ _ _) (by omega) (by omega) (by omega) _ (by (first | exact like_self _ | exact like_drew (like_self _) | exact like_drew (like_drew (like_self _)) | exact like_drew (like_drew (like_drew (like_self _))))) hg4 hown4 hat4; have HZ := Lib.hid r1; have HT := Lib.hid r2; clear r1 r2 hown4 hg4 hat4)
        | (refine step_append_any _ rfl _ _ _ (by rfl) 0 52 i0 _ 2 48 Try.underlying23 hi0 hz0 hz1 hz2 rfl (by omega) (.slice D L d) L xs (by rfl) (own_ahead2 HR.out _ _ _ (by (first | exact like_self _ | exact like_drew (like_self _) | exact like_drew (like_drew (like_self _)) | exact like_drew (like_drew (like_drew (like_self _)))))) _ 1 1 _ (by rfl) (reads_new_at (by simp) rfl) (by simp [Value.oneCell']) (fun e => by cases e) (by simp only [maxLen]; omega) (by omega) (by simp) ?_; intro v4 w4 hown4 hg4 hat4; obtain ⟨D4, d4, rfl, hd4⟩ := own_form hown4; obtain ⟨o', r1, r2, r3, r4, r5⟩ := alloc_hm HH.out HL.out (by omega) (by omega) (below_then (below_1 w _) (below_1 _ _)) (second_blk w _ _ _ _) (Blk.alloc (Blk.new w _ _) _) (by omega) (by omega) (by omega) _ (by (first | exact like_self _ | exact like_drew (like_self _) | exact like_drew (like_drew (like_self _)) | exact like_drew (like_drew (like_drew (like_self _))))) hg4 hown4 hat4; have HZ := Lib.hid r1; have HT := Lib.hid r2; clear r1 r2 hown4 hg4 hat4)
        | (refine step_append_any _ rfl _ _ _ (by rfl) 0 52 i0 _ 2 48 Try.underlying23 hi0 hz0 hz1 hz2 rfl (by omega) (.slice D L d) L xs (by rfl) (own_ahead2 HR.out _ _ _ (by (first | exact like_self _ | exact like_drew (like_self _) | exact like_drew (like_drew (like_self _)) | exact like_drew (like_drew (like_drew (like_self _)))))) _ 1 1 _ (by rfl) (reads_drew (reads_new_at (by simp) rfl)) (by simp [Value.oneCell']) (fun e => by cases e) (by simp only [maxLen]; omega) (by omega) (by simp) ?_; intro v4 w4 hown4 hg4 hat4; obtain ⟨D4, d4, rfl, hd4⟩ := own_form hown4; obtain ⟨o', r1, r2, r3, r4, r5⟩ := alloc_hm HH.out HL.out (by omega) (by omega) (below_then (below_1 w _) (below_1 _ _)) (second_blk w _ _ _ _) (Blk.alloc (Blk.new w _ _) _) (by omega) (by omega) (by omega) _ (by (first | exact like_self _ | exact like_drew (like_self _) | exact like_drew (like_drew (like_self _)) | exact like_drew (like_drew (like_drew (like_self _))))) hg4 hown4 hat4; have HZ := Lib.hid r1; have HT := Lib.hid r2; clear r1 r2 hown4 hg4 hat4))
  all_goals
    go_wp2
    go_ret2
    exact ⟨o', rfl, HZ.out, HT.out⟩

end Go.Proofs.Yteminkohgagedaa.Mo
