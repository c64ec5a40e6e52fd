/- The reference's machine: Abort; every instruction. -/
import Derived.Test.YteminkohgagedaaGreatQRfAllocL
namespace Go.Proofs.YteminkohgagedaaGreat.Rf
open Go.RowKit Go.Proofs.YteminkohgagedaaGreat.Base Go.Proofs.YteminkohgagedaaGreat.Gr Go.Proofs.YteminkohgagedaaGreat.Ver Go.Proofs.YteminkohgagedaaGreat.Mo
set_option linter.unusedVariables false
set_option linter.unusedSimpArgs false

/-- The copy so far: its box at block r, its rows by tags, all of it younger than w0. -/
structure CG (w0 w : World) (o : Nat → Tag) (r : Nat) (A : Option Addr) (c : Nat) (D : Option Addr) (d : Nat) (xs : List Value) (g : Gr) : Prop where
  mod : Mod (fun k => w0.heap.size ≤ k) w0 w
  lo : ∀ k, o k ≠ .other → w0.heap.size ≤ k
  oR : o r = .heap
  blk : Blk w r 25 #[.slice A g.roots.length c, .slice D g.nodes.length d]
  g : GM w o false A c D d xs g
section
variable {w0 w w' : World} {o : Nat → Tag} {r : Nat} {A D : Option Addr} {c d : Nat} {xs : List Value} {g : Gr}
theorem CG.below (h : CG w0 w o r A c D d xs g) : Below w0.heap.size w0 w := h.mod.below (fun b hb h => by omega)
theorem CG.next (h : CG w0 w o r A c D d xs g) (hb : Below w.heap.size w w') : CG w0 w' o r A c D d xs g :=
  ⟨Mod.trans h.mod (Mod.of_below (S := fun _ => False) hb) (fun _ _ e => e.elim), h.lo, h.oR, h.blk.below hb h.blk.lt, h.g.mod (Mod.of_below (S := fun _ => False) hb) (fun _ _ e => e.elim) (fun _ _ => rfl)⟩
theorem CG.step {W3 w4 : World} {AC BC : Option Addr} {c1 d1 : Nat} {v4 : Value} (h : CG w0 w o r A c D d xs g) (x : Nd) (hb : Below w.heap.size w W3)
    (hA : W3.ownsRow 0 3 1 (.slice AC x.slots.length c1) x.slots.length (enc ic x.slots)) (hA2 : ∀ ad, AC = some ad → w.heap.size ≤ ad.block)
    (hB : W3.ownsRow 0 3 1 (.slice BC x.words.length d1) x.words.length (enc ic x.words)) (hB2 : ∀ ad, BC = some ad → w.heap.size ≤ ad.block)
    (hne : ∀ ad ad', AC = some ad → BC = some ad' → ad.block ≠ ad'.block) (hg : W3.grownBy w4 (Value.slice D g.nodes.length d).ownBlock)
    (hown : w4.ownsRow 0 55 2 v4 (g.nodes.length + 1) (xs ++ [.slice AC x.slots.length c1, .slice BC x.words.length d1]))
    (hat : v4.ownBlock = (Value.slice D g.nodes.length d).ownBlock ∨ v4.ownBlock = some W3.heap.size) :
    (∃ o' D4 d4, CG w0 (w4.setCell ⟨r, 1, none⟩ v4) o' r A c D4 d4 (xs ++ [.slice AC x.slots.length c1, .slice BC x.words.length d1]) { g with nodes := g.nodes ++ [x] }) ∧
      w4.cell? ⟨r, 1, none⟩ = some (.slice D g.nodes.length d) ∧ w4.frozen? ⟨r, 1, none⟩ = false ∧ r < w4.heap.size := by
  obtain ⟨D4, d4, rfl, hd4⟩ := own_form hown
  have hnd := snoc_step x h.g.nodes hb hA hA2 hB hB2 hne hg hown hat
  have hlt := h.blk.lt
  have h0 := h.mod.size
  have hlo : ∀ k, tag3 o w.heap.size false g.nodes.length AC BC D4 k ≠ .other → w0.heap.size ≤ k := fun k hk => by
    rcases tag3_lo hk with ⟨_, h1⟩ | h1
    · exact h.lo k h1
    · omega
  generalize ho' : tag3 o w.heap.size false g.nodes.length AC BC D4 = o' at hnd hlo
  have hext : ∀ k, k < w.heap.size → o' k = o k := fun k hk => by rw [← ho']; exact if_pos hk
  have hhp : o' r = .heap := by rw [hext _ hlt]; exact h.oR
  have hDo : ∀ k, some k = (Value.slice D g.nodes.length d).ownBlock → o k = .nodes false := fun k hk => by
    obtain ⟨ad, e, rfl⟩ := block_iff hk.symm
    exact h.g.nodes.tag ad e
  have mg : Mod (fun k => some k = (Value.slice D g.nodes.length d).ownBlock) w w4 := Mod.trans (Mod.of_below (S := fun k => some k = (Value.slice D g.nodes.length d).ownBlock) hb) (Mod.of_grown hg) (fun _ _ h => h)
  have ms : Mod (fun k => k = r) w4 (w4.setCell ⟨r, 1, none⟩ (.slice D4 (g.nodes.length + 1) d4)) := mod_set' (S := fun k => k = r) (Mod.refl _ _) rfl _
  have hblk := h.blk.mod mg (fun e => by have := hDo _ e; rw [h.oR] at this; cases this)
  have hc1 : w4.cell? ⟨r, 1, none⟩ = some (.slice D g.nodes.length d) := by simpa using hblk.cell 1
  have hr0 : w0.heap.size ≤ r := h.lo r (by rw [h.oR]; exact fun h => by cases h)
  refine ⟨⟨o', D4, d4, ?_, hlo, hhp, ?_, ?_, ?_⟩, hc1, hblk.frozen 1, hblk.lt⟩
  · refine Mod.trans (Mod.trans h.mod mg (fun k _ e => h.lo k (by rw [hDo k e]; exact fun h => by cases h))) ms (fun k _ e => ?_)
    show w0.heap.size ≤ k
    rw [e]; exact hr0
  · have := hblk.set_ 1 (.slice D4 (g.nodes.length + 1) d4)
    simpa using this
  · exact (h.g.roots.mod mg (fun k _ e e2 => by rw [hDo k e] at e2; cases e2) hext).mod ms (fun k _ e e2 => by rw [e, hhp] at e2; cases e2) (fun _ _ => rfl)
  · exact hnd.mod ms (fun k _ e => by rw [e, hhp]; exact fun h => by cases h) (fun _ _ => rfl)
/-- The start: the roots' row, no node yet. -/
theorem CG.start {rs : List Int} {c : Nat} (hm : Mod (fun k => w0.heap.size ≤ k) w0 w) (hblk : Blk w r 25 #[.slice A rs.length c, .slice none 0 0]) (hr : w0.heap.size ≤ r)
    (hA : w.ownsRow 0 3 1 (.slice A rs.length c) rs.length (enc ic rs)) (hN : w.ownsRow 0 55 2 (.slice none 0 0) 0 []) (hA2 : ∀ ad, A = some ad → w0.heap.size ≤ ad.block ∧ ad.block ≠ r) :
    ∃ o, CG w0 w o r A c none 0 [] ⟨rs, []⟩ := by
  refine ⟨fun k => if k = r then .heap else if blkOf A = some k then .roots false else .other, hm, fun k hk => ?_, if_pos rfl, hblk, ⟨⟨hA, fun ad e => ?_⟩, ⟨hN, (fun ad e => by cases e), fun j hj => absurd hj (Nat.not_lt_zero _)⟩⟩⟩
  · have hk := hk
    by_cases h1 : k = r
    · omega
    · rw [if_neg h1] at hk
      by_cases h2 : blkOf A = some k
      · cases A with
        | none => cases h2
        | some ad =>
          have := (hA2 ad rfl).1
          injection h2 with h2
          omega
      · rw [if_neg h2] at hk
        exact absurd rfl hk
  · show (if ad.block = r then Tag.heap else if blkOf A = some ad.block then .roots false else .other) = .roots false
    rw [if_neg (hA2 ad e).2, if_pos (by rw [e]; rfl)]
end
end Go.Proofs.YteminkohgagedaaGreat.Rf
namespace Go.Proofs.YteminkohgagedaaGreat.Rf
open Go.RowKit Go.Proofs.YteminkohgagedaaGreat.Base Go.Proofs.YteminkohgagedaaGreat.Gr Go.Proofs.YteminkohgagedaaGreat.Ver Go.Proofs.YteminkohgagedaaGreat.Mo
set_option linter.unusedVariables false
set_option linter.unusedSimpArgs false

theorem keepB4 {w W : World} (hb : Below w.heap.size w W) {a b c d : Addr} {x y z u : Value} (h1 : w.cell? a = some x) (h2 : w.cell? b = some y) (h3 : w.cell? c = some z) (h4 : w.cell? d = some u) : W.cell? a = some x ∧ W.cell? b = some y ∧ W.cell? c = some z ∧ W.cell? d = some u :=
  ⟨(hb.cell (cell_lt h1)).trans h1, (hb.cell (cell_lt h2)).trans h2, (hb.cell (cell_lt h3)).trans h3, (hb.cell (cell_lt h4)).trans h4⟩
theorem grown_nil {w w' : World} {n c : Nat} (h : w.grownBy w' (Value.slice none n c).ownBlock) : Below w.heap.size w w' := (Mod.of_grown h).below (fun b _ e => by cases e)
/-- The copy of the first k nodes. -/
def CGk (w0 w : World) (r : Nat) (G : Gr) (k : Nat) : Prop := ∃ o A c D d xs, CG w0 w o r A c D d xs ⟨G.roots, G.nodes.take k⟩
section
variable {w0 w w1 w2 W3 w4 : World} {o : Nat → Tag} {r k : Nat} {A D : Option Addr} {c d : Nat} {xs : List Value} {G : Gr} {x : Nd}
theorem CG.cellN (h : CG w0 w o r A c D d xs ⟨G.roots, G.nodes.take k⟩) (hk : k ≤ G.nodes.length) : w.cell? ⟨r, 1, none⟩ = some (.slice D k d) := by
  have h1 := h.blk.cell 1
  simp only [List.getElem?_toArray, List.getElem?_cons_zero, List.getElem?_cons_succ, List.length_take, Nat.min_eq_left hk] at h1
  exact h1
theorem CG.ownN (h : CG w0 w o r A c D d xs ⟨G.roots, G.nodes.take k⟩) (hk : k ≤ G.nodes.length) : w.ownsRow 0 55 2 (.slice D k d) k xs := by
  have h1 := h.g.nodes.own
  simp only [List.length_take, Nat.min_eq_left hk] at h1
  exact h1
/-- One turn, slots first. -/
theorem CG.turn {ob : Obj} {AC BC : Option Addr} {c1 d1 : Nat} {v4 : Value} (h : CG w0 w o r A c D d xs ⟨G.roots, G.nodes.take k⟩) (hk : k < G.nodes.length) (hx : G.nodes[k]? = some x) (lo1 lo2 : Nat)
    (hl1 : w.heap.size ≤ lo1) (hl2 : w.heap.size ≤ lo2) (hb : Below w.heap.size w w2)
    (hA : w2.ownsRow lo1 3 1 (.slice AC x.slots.length c1) x.slots.length (enc ic x.slots)) (hB : w2.ownsRow lo2 3 1 (.slice BC x.words.length d1) x.words.length (enc ic x.words))
    (hne : ∀ ad ad', AC = some ad → BC = some ad' → ad.block ≠ ad'.block) (hl : Like (w2.alloc ob) W3) (hg : W3.grownBy w4 (Value.slice D k d).ownBlock)
    (hown : w4.ownsRow 0 55 2 v4 (k + 1) (xs ++ [.slice AC x.slots.length c1, .slice BC x.words.length d1]))
    (hat : v4.ownBlock = (Value.slice D k d).ownBlock ∨ v4.ownBlock = some W3.heap.size) :
    CGk w0 (w4.setCell ⟨r, 1, none⟩ v4) r G (k + 1) ∧ (w4.cell? ⟨r, 1, none⟩ = some (.slice D k d) ∧ w4.frozen? ⟨r, 1, none⟩ = false ∧ r < w4.heap.size) ∧ Below w0.heap.size w0 w4 := by
  have hlen : (G.nodes.take k).length = k := by rw [List.length_take]; omega
  have hb3 : Below w2.heap.size w2 W3 := by
    have := below_1 w2 ob
    exact ⟨hl.os.trans this.os, hl.tape.trans this.tape, hl.output.trans this.output, by rw [hl.heap]; exact this.size, fun i hi => by rw [hl.heap]; exact this.block i hi⟩
  obtain ⟨⟨o', D4, d4, h1⟩, h2, h3, h4⟩ := h.step (W3 := W3) (w4 := w4) (v4 := v4) x (below_then hb hb3) (own_lower (own_below hA hb3) (Nat.zero_le _)) (fun ad e => Nat.le_trans hl1 (own_block hA ad.block (by rw [e]; rfl)).1) (own_lower (own_below hB hb3) (Nat.zero_le _)) (fun ad e => Nat.le_trans hl2 (own_block hB ad.block (by rw [e]; rfl)).1) hne
    (by rw [hlen]; exact hg) (by rw [hlen]; exact hown) (by rw [hlen]; exact hat)
  rw [hlen] at h2
  refine ⟨⟨o', A, c, D4, d4, xs ++ [.slice AC x.slots.length c1, .slice BC x.words.length d1], ?_⟩, ⟨h2, h3, h4⟩, (h.below.trans ((below_then hb hb3).mono h.mod.size)).grown hg (Nat.le_trans h.mod.size (below_then hb hb3).size) (fun b e => h.lo b (by obtain ⟨ad, e1, rfl⟩ := block_iff e; rw [h.g.nodes.tag ad e1]; exact fun h => by cases h))⟩
  have e : G.nodes.take (k + 1) = G.nodes.take k ++ [x] := by
    rw [List.take_add_one, hx]
    rfl
  rw [e]
  exact h1
/-- Two rows, one made behind the other. -/
theorem rows_ne {lo e e' s s' n n' : Nat} {AC BC : Option Addr} {c1 d1 : Nat} {ys zs : List Value} (hA : w1.ownsRow lo e s (.slice AC n c1) n ys) (hB : w2.ownsRow w1.heap.size e' s' (.slice BC n' d1) n' zs) : ∀ ad ad', AC = some ad → BC = some ad' → ad.block ≠ ad'.block := fun ad ad' h1 h2 e => by
  have q1 := (own_block hA ad.block (by rw [h1]; rfl)).2
  have q2 := (own_block hB ad'.block (by rw [h2]; rfl)).1
  omega
end

set_option maxRecDepth 100000 in
set_option maxHeartbeats 8000000 in
theorem copy_any {w : World} {v : Value} {G : Gr} (h : GrV w v G) (N : Nat) (hN : N ≤ 90000) (hr : G.roots.length ≤ N ∧ G.nodes.length ≤ N) (hl : ∀ x ∈ G.nodes, x.slots.length ≤ N ∧ x.words.length ≤ N) :
    Calls Tryz.prog 82 #[v] w fun en w' => ∃ o A c D d xs, en = .returned (.agg #[.slice A G.roots.length c, .slice D G.nodes.length d]) ∧ Mod (fun k => w.heap.size ≤ k) w w' ∧ (∀ k, o k ≠ .other → w.heap.size ≤ k) ∧ GM w' o false A c D d xs G := by
  obtain ⟨A0, c0, D0, d0, rfl, hI, hD⟩ := h
  obtain ⟨i0, hi0, hz0, hz1, hz2⟩ := Gr.info_parts1 Gr.intInfo
  obtain ⟨i1, hi1, hz11, hz12, hz13⟩ := info_parts1 nodeInfo
  have hr1 := hr.1
  have hr2 := hr.2
  have HL := Lib.hid hl
  obtain ⟨W2, hW2⟩ : ∃ W2, (w.alloc (.cells #[.slice A0 G.roots.length c0, .slice D0 G.nodes.length d0] 25)).alloc (.cells #[.slice none 0 0, .slice none 0 0] 25) = W2 := ⟨_, rfl⟩
  have hb2 : Below w.heap.size w W2 := by rw [← hW2]; exact below_then (below_1 _ _) (below_1 _ _)
  have HG : Hid (Blk W2 w.heap.size 25 #[.slice A0 G.roots.length c0, .slice D0 G.nodes.length d0]) := Lib.hid (by rw [← hW2]; exact (Blk.new w 25 #[.slice A0 G.roots.length c0, .slice D0 G.nodes.length d0]).alloc _)
  have HT : Hid (Blk W2 (w.heap.size + 1) 25 #[.slice none 0 0, .slice none 0 0]) := Lib.hid (by rw [← hW2]; have := Blk.new (w.alloc (.cells #[.slice A0 G.roots.length c0, .slice D0 G.nodes.length d0] 25)) 25 #[.slice none 0 0, .slice none 0 0]; rwa [World.size_alloc] at this)
  have HS : Hid (W2.heap.size = w.heap.size + 1 + 1) := Lib.hid (by rw [← hW2]; simp)
  have HI := Lib.hid (hI.below hb2)
  have HD := Lib.hid (hD.below hb2)
  have HB2 := Lib.hid hb2
  have g0 := HG.out.cell 0
  have zg := HG.out.lt
  simp only [List.getElem?_toArray, List.getElem?_cons_zero, List.getElem?_cons_succ] at g0
  clear hI hD hb2 hr hl
  go_enter Tryz.func82, Tryz.ntmps82
  go_wp2_with (first
    | (at_builtin
       refine wpList_append_any _ (by rfl) _ _ _ (by rfl) W2.heap.size 3 i0 _ 1 8 Tryz.underlying22 hi0 hz0 hz1 hz2 rfl (by omega) (.slice none 0 0) 0 [] (by rfl) (own_nil _ _ _ _) A0 G.roots.length c0 (enc ic G.roots) (by rfl) HI.out.1 (ic_one _) (fun e => HI.out.1.len ic_len (by omega) e) (by simp only [maxLen]; omega) (by omega) (Nat.le_refl _) ?_
       intro v1 w1 hown1 hg1 hat1
       simp only [Nat.zero_add, List.nil_append] at hown1
       obtain ⟨A1, c1, rfl, hc1⟩ := own_form hown1
       have HO1 := Lib.hid hown1
       have HBG := Lib.hid (grown_nil hg1)
       have zw1 := (grown_nil hg1).size
       obtain ⟨r, hrr⟩ : ∃ r, w1.heap.size = r := ⟨_, rfl⟩
       clear hown1 hg1 hat1))
  have g1 := HG.out.cell 1
  simp only [List.getElem?_toArray, List.getElem?_cons_zero, List.getElem?_cons_succ] at g1
  have hst : CGk W2 (w1.alloc (.cells #[.slice A1 G.roots.length c1, .slice none 0 0] 25)) r G 0 := by
    have hbw := below_1 w1 (.cells #[.slice A1 G.roots.length c1, .slice none 0 0] 25)
    have hown := own_lower (own_below HO1.out hbw) (Nat.zero_le _)
    obtain ⟨o, ho⟩ := CG.start (w0 := W2) (r := r) (Mod.of_below (below_then HBG.out hbw)) (by rw [← hrr]; exact Blk.new w1 25 #[.slice A1 G.roots.length c1, .slice none 0 0]) (by omega) hown (own_nil _ _ _ _) (fun ad e => by
      have := own_block HO1.out ad.block (by rw [e]; rfl)
      omega)
    exact ⟨o, A1, c1, none, 0, [], ho⟩
  have HST := Lib.hid hst
  have HRR := Lib.hid hrr
  have HW2 := Lib.hid hW2
  clear hst hrr hW2 HO1 HBG hc1 g0
  go_loopw [4] (fun i wr => ∃ k : Nat, k ≤ G.nodes.length ∧ i = .int .i64 k ∧ Hid (CGk W2 wr r G k)) (fun i _ => G.nodes.length - (intOf i).toNat)
  case atStart => exact ⟨0, Nat.zero_le _, rfl, HST⟩
  case round =>
    obtain ⟨k, hk, rfl, HC⟩ := hrel
    obtain ⟨o, A, c, D, d, xs, hC⟩ := HC.out
    have HC1 := Lib.hid hC
    have hbel := hC.below
    have b1 := (hbel.cell (p := ⟨w.heap.size, 1, none⟩) zg).trans g1
    have zr := hC.blk.lt
    by_cases hlt : k < G.nodes.length
    · obtain ⟨dd, As, cs, Bs, ds, rfl, d2, d3, i1, i2⟩ := nds_at HD.out k hlt
      have hxk := HL.out G.nodes[k] (List.getElem_mem hlt)
      have hget := List.getElem?_eq_getElem hlt
      generalize G.nodes[k] = x at d2 d3 i1 i2 hxk hget
      have hx1 := hxk.1
      have hx2 := hxk.2
      have z2 := cell_lt d2
      have z3 := cell_lt d3
      have e2 := (hbel.cell z2).trans d2
      have e3 := (hbel.cell (p := ⟨(dd.add (k * 2)).block, (dd.add (k * 2)).off + 1, none⟩) z3).trans d3
      have y1 := hC.cellN hk
      have HI1 := Lib.hid (fun (W : World) (hb : Below wr.heap.size wr W) => (i1.below hbel).below hb)
      have HI2 := Lib.hid (fun (W : World) (hb : Below wr.heap.size wr W) => (i2.below hbel).below hb)
      have HON := Lib.hid (hC.ownN hk)
      have HGET := Lib.hid hget
      have HE2 := Lib.hid d2
      have HE3 := Lib.hid d3
      have hkI : (k : Int) < G.nodes.length := by omega
      clear hget d2 d3 i1 i2 hxk hbel hC HST
      go_wp2_with fail
      refine wp_region_lastL (fun W => W.cell? ⟨r, 1, none⟩ = some (.slice D k d) ∧ W.cell? ⟨w.heap.size, 1, none⟩ = some (.slice (some dd) G.nodes.length d0) ∧ W.cell? (dd.add (k * 2)) = some (.slice As x.slots.length cs) ∧ W.cell? ⟨(dd.add (k * 2)).block, (dd.add (k * 2)).off + 1, none⟩ = some (.slice Bs x.words.length ds)) [_, _, _, _, _, _, _, _, _, _, _, _, _, _, _, _, _, _, _, _] _ 20 rfl rfl (by kernel_rfl) (by kernel_rfl) (keepB4 ((Below.refl _ _).drew) y1 b1 e2 e3) (fun hHeld0 => ?_)
      refine takeL (v := ?v1) 0 rfl (by kernel_rfl) (by kernel_rfl) (by kernel_rfl) (fun _ _ _ h => h) (by rfl) ?hy1 (by assumption) ?rest1
      case hy1 => (intro w hSw; (try dsimp only at hSw); go_simp; (try with_reducible rfl))
      try simp only [Act.put, List.setIfInBounds_toArray, List.set_cons_zero, List.set_cons_succ]
      refine takeL (v := ?v2) 1 rfl (by kernel_rfl) (by kernel_rfl) (by kernel_rfl) (fun _ _ _ h => h) (by rfl) ?hy2 (by assumption) ?rest2
      case hy2 => (intro w hSw; (try dsimp only at hSw); go_simp; (try with_reducible rfl))
      try simp only [Act.put, List.setIfInBounds_toArray, List.set_cons_zero, List.set_cons_succ]
      refine takeL (v := ?v3) 2 rfl (by kernel_rfl) (by kernel_rfl) (by kernel_rfl) (fun _ _ _ h => h) (by rfl) ?hy3 (by assumption) ?rest3
      case hy3 => (intro w hSw; (try dsimp only at hSw); go_simp; (try with_reducible rfl))
      try simp only [Act.put, List.setIfInBounds_toArray, List.set_cons_zero, List.set_cons_succ]
      refine takeL (v := ?v4) 3 rfl (by kernel_rfl) (by kernel_rfl) (by kernel_rfl) (fun _ _ _ h => h) (by rfl) ?hy4 (by assumption) ?rest4
      case hy4 => (intro w hSw; (try dsimp only at hSw); go_simp; (try with_reducible rfl))
      try simp only [Act.put, List.setIfInBounds_toArray, List.set_cons_zero, List.set_cons_succ]
      refine takeL (v := ?v5) 4 rfl (by kernel_rfl) (by kernel_rfl) (by kernel_rfl) (fun _ _ _ h => h) (by rfl) ?hy5 (by assumption) ?rest5
      case hy5 => (intro w hSw; (try dsimp only at hSw); go_simp; (try with_reducible rfl))
      try simp only [Act.put, List.setIfInBounds_toArray, List.set_cons_zero, List.set_cons_succ]
      refine takeL (v := ?v6) 5 rfl (by kernel_rfl) (by kernel_rfl) (by kernel_rfl) (fun _ _ _ h => h) (by rfl) ?hy6 (by assumption) ?rest6
      case hy6 => (intro w hSw; (try dsimp only at hSw); go_simp; (try with_reducible rfl))
      try simp only [Act.put, List.setIfInBounds_toArray, List.set_cons_zero, List.set_cons_succ]
      refine takeL (v := ?v7) 6 rfl (by kernel_rfl) (by kernel_rfl) (by kernel_rfl) (fun _ _ _ h => h) (by rfl) ?hy7 (by assumption) ?rest7
      case hy7 => (intro w hSw; (try dsimp only at hSw); go_simp; (try with_reducible rfl))
      try simp only [Act.put, List.setIfInBounds_toArray, List.set_cons_zero, List.set_cons_succ]
      refine takeL (v := ?v8) 7 rfl (by kernel_rfl) (by kernel_rfl) (by kernel_rfl) (fun _ _ _ h => h) (by rfl) ?hy8 (by assumption) ?rest8
      case hy8 => (intro w hSw; (try dsimp only at hSw); go_simp; (try with_reducible rfl))
      try simp only [Act.put, List.setIfInBounds_toArray, List.set_cons_zero, List.set_cons_succ]
      refine takeL (v := ?v9) 9 rfl (by kernel_rfl) (by kernel_rfl) (by kernel_rfl) (fun _ _ _ h => h) (by rfl) ?hy9 (by assumption) ?rest9
      case hy9 => (intro w hSw; (try dsimp only at hSw); go_simp; (try with_reducible rfl))
      try simp only [Act.put, List.setIfInBounds_toArray, List.set_cons_zero, List.set_cons_succ]
      refine takeL (v := ?v10) 10 rfl (by kernel_rfl) (by kernel_rfl) (by kernel_rfl) (fun _ _ _ h => h) (by rfl) ?hy10 (by assumption) ?rest10
      case hy10 => (intro w hSw; (try dsimp only at hSw); go_simp; (try with_reducible rfl))
      try simp only [Act.put, List.setIfInBounds_toArray, List.set_cons_zero, List.set_cons_succ]
      refine takeL (v := ?v11) 11 rfl (by kernel_rfl) (by kernel_rfl) (by kernel_rfl) (fun _ _ _ h => h) (by rfl) ?hy11 (by assumption) ?rest11
      case hy11 => (intro w hSw; (try dsimp only at hSw); go_simp; (try with_reducible rfl))
      try simp only [Act.put, List.setIfInBounds_toArray, List.set_cons_zero, List.set_cons_succ]
      refine takeL (v := ?v12) 12 rfl (by kernel_rfl) (by kernel_rfl) (by kernel_rfl) (fun _ _ _ h => h) (by rfl) ?hy12 (by assumption) ?rest12
      case hy12 => (intro w hSw; (try dsimp only at hSw); go_simp; (try with_reducible rfl))
      try simp only [Act.put, List.setIfInBounds_toArray, List.set_cons_zero, List.set_cons_succ]
      refine takeL (v := ?v13) 13 rfl (by kernel_rfl) (by kernel_rfl) (by kernel_rfl) (fun _ _ _ h => h) (by rfl) ?hy13 (by assumption) ?rest13
      case hy13 => (intro w hSw; (try dsimp only at hSw); go_simp; (try with_reducible rfl))
      try simp only [Act.put, List.setIfInBounds_toArray, List.set_cons_zero, List.set_cons_succ]
      refine takeL (v := ?v14) 14 rfl (by kernel_rfl) (by kernel_rfl) (by kernel_rfl) (fun _ _ _ h => h) (by rfl) ?hy14 (by assumption) ?rest14
      case hy14 => (intro w hSw; (try dsimp only at hSw); go_simp; (try with_reducible rfl))
      try simp only [Act.put, List.setIfInBounds_toArray, List.set_cons_zero, List.set_cons_succ]
      refine wpAnyH_ready (rs := [8]) (by kernel_rfl) (by simp) ?_
      refine consL 8 rfl (fun K hK => ?_) AllReadyH.nil
      · skip
        refine step_append_any _ rfl _ _ _ (by rfl) wr.heap.size 3 i0 _ 1 8 Tryz.underlying22 hi0 hz0 hz1 hz2 rfl (by omega) (.slice none 0 0) 0 [] (by rfl) (own_nil _ _ _ _) As x.slots.length cs (enc ic x.slots) (by rfl) (HI1.out _ ((Below.refl _ _).drew)).1 (ic_one _) (fun e => (HI1.out _ ((Below.refl _ _).drew)).1.len ic_len (by omega) e) (by simp only [maxLen]; omega) (by omega) (Nat.le_refl _) ?_
        intro va wa hownwa hgwa hatwa
        have hbwa := grown_nil hgwa
        simp only [Nat.zero_add, List.nil_append] at hownwa
        obtain ⟨AC, ca, rfl, hca⟩ := own_form hownwa
        have hBa : Below wr.heap.size wr wa := below_then ((Below.refl _ _).drew) hbwa
        refine hK.out _ _ ?hS15 (fun hHeld1 => ?rest15)
        case hS15 => exact keepB4 hBa y1 b1 e2 e3
        clear hK K hHeld0
        try simp only [Act.put, List.setIfInBounds_toArray, List.set_cons_zero, List.set_cons_succ]
        refine wpAnyH_ready (rs := [15]) (by kernel_rfl) (by simp) ?_
        refine consL 15 rfl (fun K hK => ?_) AllReadyH.nil
        refine step_append_any _ rfl _ _ _ (by rfl) wa.heap.size 3 i0 _ 1 8 Tryz.underlying22 hi0 hz0 hz1 hz2 rfl (by omega) (.slice none 0 0) 0 [] (by rfl) (own_nil _ _ _ _) Bs x.words.length ds (enc ic x.words) (by rfl) (HI2.out _ hBa).1 (ic_one _) (fun e => (HI2.out _ hBa).1.len ic_len (by omega) e) (by simp only [maxLen]; omega) (by omega) (Nat.le_refl _) ?_
        intro vb wb hownwb hgwb hatwb
        have hbwb := grown_nil hgwb
        simp only [Nat.zero_add, List.nil_append] at hownwb
        obtain ⟨BC, cb, rfl, hcb⟩ := own_form hownwb
        have hBb : Below wr.heap.size wr wb := below_then hBa hbwb
        refine hK.out _ _ ?hS16 (fun hHeld2 => ?rest16)
        case hS16 => exact keepB4 hBb y1 b1 e2 e3
        clear hK K hHeld1
        try simp only [Act.put, List.setIfInBounds_toArray, List.set_cons_zero, List.set_cons_succ]
        refine takeL (v := ?v17) 16 rfl (by kernel_rfl) (by kernel_rfl) (by kernel_rfl) (fun _ _ _ h => h) (by rfl) ?hy17 (by assumption) ?rest17
        case hy17 => (intro w hSw; (try dsimp only at hSw); go_simp; (try with_reducible rfl))
        try simp only [Act.put, List.setIfInBounds_toArray, List.set_cons_zero, List.set_cons_succ]
        refine wpAnyH_ready (rs := [17]) (by kernel_rfl) (by simp) ?_
        refine consL 17 rfl (fun K hK => ?_) AllReadyH.nil
        (try go_simp)
        refine hK.out _ _ ?hS18 (fun hHeld3 => ?rest18)
        case hS18 => (first | exact keepB4 (below_then hBb (below_1 _ _)) y1 b1 e2 e3 | go_keep)
        clear hK K hHeld2
        try simp only [Act.put, List.setIfInBounds_toArray, List.set_cons_zero, List.set_cons_succ]
        refine wpAnyH_ready (rs := [18]) (by kernel_rfl) (by simp) ?_
        refine consL 18 rfl (fun K hK => ?_) AllReadyH.nil
        refine step_append_any _ rfl _ _ _ (by rfl) 0 55 i1 _ 2 48 Tryz.underlying23 hi1 hz11 hz12 hz13 rfl (by omega) (.slice D k d) k xs (by rfl) (own_ahead (own_below HON.out hBb) _ (by (first | exact like_self _ | exact like_drew (like_self _) | exact like_drew (like_drew (like_self _)) | exact like_drew (like_drew (like_drew (like_self _)))))) _ 1 1 _ (by rfl) (by (first | exact reads_new_at rfl rfl | exact reads_drew (reads_new_at rfl rfl))) (by simp [Value.oneCell']) (fun e => by cases e) (by simp only [maxLen]; omega) (by omega) (by simp) ?_
        intro v4 w4 hown4 hg4 hat4
        obtain ⟨D4, d4, rfl, hd4⟩ := own_form hown4
        obtain ⟨r1, ⟨r2, r3, r4⟩, r5⟩ := HC1.out.turn (w2 := wb) (x := x) hlt HGET.out wr.heap.size wa.heap.size (Nat.le_refl _) hBa.size hBb (own_below hownwa hbwb) hownwb (rows_ne hownwa hownwb) (by (first | exact like_self _ | exact like_drew (like_self _) | exact like_drew (like_drew (like_self _)) | exact like_drew (like_drew (like_drew (like_self _))))) hg4 hown4 hat4
        have HZ := Lib.hid r1
        have s2 := (r5.cell (p := ⟨w.heap.size, 1, none⟩) zg).trans g1
        have s3 := (r5.cell z2).trans HE2.out
        have s4 := (r5.cell (p := ⟨(dd.add (k * 2)).block, (dd.add (k * 2)).off + 1, none⟩) z3).trans HE3.out
        clear r1 r5 hown4 hg4 hat4
        refine hK.out _ _ ?hS19 (fun hHeld4 => ?rest19)
        case hS19 => exact ⟨r2, s2, s3, s4⟩
        clear hK K hHeld3
        try simp only [Act.put, List.setIfInBounds_toArray, List.set_cons_zero, List.set_cons_succ]
        refine takeL (v := ?v20) 19 rfl (by kernel_rfl) (by kernel_rfl) (by kernel_rfl) (fun _ _ _ h => h) (by rfl) ?hy20 (by assumption) ?rest20
        case hy20 => (intro w hSw; (try dsimp only at hSw); go_simp; (try with_reducible rfl))
        try simp only [Act.put, List.setIfInBounds_toArray, List.set_cons_zero, List.set_cons_succ]
        refine wpAnyH_done (by kernel_rfl) ?_ _
        refine lastL rfl (fun K hK => ?_)
        (try go_simp)
        refine hK.out _ _ ?_
        clear hK K
        try simp only [Act.put, List.setIfInBounds_toArray, List.set_cons_zero, List.set_cons_succ]
        go_wp2_with fail
        go_roundw
        case rel => exact ⟨k + 1, by omega, by go_num, HZ⟩
        case measure => simp [intOf]; omega
    · obtain rfl : k = G.nodes.length := by omega
      have hg := hC.g
      rw [List.take_length] at hg
      have q0 := hC.blk.cell 0
      have q1 := hC.cellN hk
      have hT := HT.out.below hbel HT.out.lt
      have t0 := hT.cell 0
      have t1 := hT.cell 1
      have f0 := hT.frozen 0
      have f1 := hT.frozen 1
      have zt := hT.lt
      have HTT := Lib.hid hT
      have hoT : o (w.heap.size + 1) = .other := Classical.byContradiction fun h => by have := hC.lo _ h; have := HS.out; omega
      have HOT := Lib.hid hoT
      have HGG := Lib.hid hg
      have HCM := Lib.hid (show Mod (fun k => w.heap.size ≤ k) w wr from Mod.trans (Mod.of_below HB2.out) hC.mod (fun b _ e => by have := HS.out; omega))
      have HLO := Lib.hid (show ∀ k, o k ≠ .other → w.heap.size ≤ k from fun k hk => by have := hC.lo k hk; have := HS.out; omega)
      simp only [List.getElem?_toArray, List.getElem?_cons_zero, List.getElem?_cons_succ] at q0 t0 t1
      clear hg hT hoT HST hC
      go_wp2_with fail
      have hB2 : Blk ((wr.setCell ⟨w.heap.size + 1, 0, none⟩ (.slice A G.roots.length c)).setCell ⟨w.heap.size + 1, 1, none⟩ (.slice D G.nodes.length d)) (w.heap.size + 1) 25 #[.slice A G.roots.length c, .slice D G.nodes.length d] := (HTT.out.set_ 0 _).set_ 1 _
      refine bodyPost_ret (v := .agg #[.slice A G.roots.length c, .slice D G.nodes.length d]) (results_cell_row rfl _ _ (w.heap.size + 1) 25 _ (0, 0) _ rfl hB2 Tryz.underlying25 rfl graphSize) rfl ?_
      have hms : Mod (fun b => b = w.heap.size + 1) wr ((wr.setCell ⟨w.heap.size + 1, 0, none⟩ (.slice A G.roots.length c)).setCell ⟨w.heap.size + 1, 1, none⟩ (.slice D G.nodes.length d)) := mod_set' (S := fun b => b = w.heap.size + 1) (mod_set' (S := fun b => b = w.heap.size + 1) (Mod.refl _ _) rfl _) rfl _
      exact ⟨o, A, c, D, d, xs, rfl, Mod.trans HCM.out hms (fun b _ e => by show w.heap.size ≤ b; rw [e]; omega), HLO.out, HGG.out.mod hms (fun b _ e => by rw [e, HOT.out]; exact fun h => by cases h) (fun _ _ => rfl)⟩
end Go.Proofs.YteminkohgagedaaGreat.Rf
namespace Go.Proofs.YteminkohgagedaaGreat.Rf
open Go.RowKit Go.Proofs.YteminkohgagedaaGreat.Base Go.Proofs.YteminkohgagedaaGreat.Gr Go.Proofs.YteminkohgagedaaGreat.Ver Go.Proofs.YteminkohgagedaaGreat.Mo
set_option linter.unusedVariables false
set_option linter.unusedSimpArgs false

section
variable {cs : Array Value} {v0 v1 u0 u1 : Value} {refs nums : List Int} {most : Int}
theorem MC.clear (h : MC cs v0 v1 u0 u1 refs nums most) : MC ((((cs.setIfInBounds 2 (.int .i64 0)).setIfInBounds 3 (.int .i64 0)).setIfInBounds 4 (.int .i64 0)).setIfInBounds 5 (.int .i64 0)) v0 v1 u0 u1 [0, 0, 0, 0] nums most := by
  have hs := h.size
  refine ⟨by simp [hs], ?_, ?_, fun j hj => ?_, fun j hj => ?_, ?_, ?_, ?_⟩
  · simp only [Array.getElem?_setIfInBounds_ne (show 5 ≠ 0 by decide), Array.getElem?_setIfInBounds_ne (show 4 ≠ 0 by decide), Array.getElem?_setIfInBounds_ne (show 3 ≠ 0 by decide), Array.getElem?_setIfInBounds_ne (show 2 ≠ 0 by decide)]; exact h.c0
  · simp only [Array.getElem?_setIfInBounds_ne (show 5 ≠ 1 by decide), Array.getElem?_setIfInBounds_ne (show 4 ≠ 1 by decide), Array.getElem?_setIfInBounds_ne (show 3 ≠ 1 by decide), Array.getElem?_setIfInBounds_ne (show 2 ≠ 1 by decide)]; exact h.c1
  · rcases (by omega : j = 0 ∨ j = 1 ∨ j = 2 ∨ j = 3) with rfl | rfl | rfl | rfl
    · rw [Array.getElem?_setIfInBounds_ne (by omega), Array.getElem?_setIfInBounds_ne (by omega), Array.getElem?_setIfInBounds_ne (by omega), Array.getElem?_setIfInBounds_self_of_lt (by omega)]; rfl
    · rw [Array.getElem?_setIfInBounds_ne (by omega), Array.getElem?_setIfInBounds_ne (by omega), Array.getElem?_setIfInBounds_self_of_lt (by simp; omega)]; rfl
    · rw [Array.getElem?_setIfInBounds_ne (by omega), Array.getElem?_setIfInBounds_self_of_lt (by simp; omega)]; rfl
    · rw [Array.getElem?_setIfInBounds_self_of_lt (by simp; omega)]; rfl
  · rw [Array.getElem?_setIfInBounds_ne (by omega), Array.getElem?_setIfInBounds_ne (by omega), Array.getElem?_setIfInBounds_ne (by omega), Array.getElem?_setIfInBounds_ne (by omega)]; exact h.n j hj
  · rw [Array.getElem?_setIfInBounds_ne (by omega), Array.getElem?_setIfInBounds_ne (by omega), Array.getElem?_setIfInBounds_ne (by omega), Array.getElem?_setIfInBounds_ne (by omega)]; exact h.c10
  · rw [Array.getElem?_setIfInBounds_ne (by omega), Array.getElem?_setIfInBounds_ne (by omega), Array.getElem?_setIfInBounds_ne (by omega), Array.getElem?_setIfInBounds_ne (by omega)]; exact h.c11
  · rw [Array.getElem?_setIfInBounds_ne (by omega), Array.getElem?_setIfInBounds_ne (by omega), Array.getElem?_setIfInBounds_ne (by omega), Array.getElem?_setIfInBounds_ne (by omega)]; exact h.c12
end
section
variable {w w1 w' : World} {o o1 o' : Nat → Tag} {B P : Nat} {A D A' D' : Option Addr} {c d c' d' : Nat} {xs xs' : List Value} {u0 u1 : Value} {cs : Array Value} {σ : St} {most : Int}
/-- The graph that counts is copied into the machine. -/
theorem RMc.abort (h : RMc w o B P A c D d xs u0 u1 cs σ most) (hm : Mod (fun k => w.heap.size ≤ k) w w1) (hlo : ∀ k, o1 k ≠ .other → w.heap.size ≤ k) (hg : GM w1 o1 false A' c' D' d' xs' σ.last) :
    RDone w o B P most { σ with now := σ.last, refs := [0, 0, 0, 0] } ((((((w1.setCell ⟨P, 0, none⟩ (.slice A' σ.last.roots.length c')).setCell ⟨P, 1, none⟩ (.slice D' σ.last.nodes.length d')).setCell ⟨P, 2, none⟩ (.int .i64 0)).setCell ⟨P, 3, none⟩ (.int .i64 0)).setCell ⟨P, 4, none⟩ (.int .i64 0)).setCell ⟨P, 5, none⟩ (.int .i64 0)) := by
  have hlt := h.blk.lt
  have hb : Below w.heap.size w w1 := hm.below (fun b hb h => by omega)
  generalize hW : ((((((w1.setCell ⟨P, 0, none⟩ (.slice A' σ.last.roots.length c')).setCell ⟨P, 1, none⟩ (.slice D' σ.last.nodes.length d')).setCell ⟨P, 2, none⟩ (.int .i64 0)).setCell ⟨P, 3, none⟩ (.int .i64 0)).setCell ⟨P, 4, none⟩ (.int .i64 0)).setCell ⟨P, 5, none⟩ (.int .i64 0)) = W
  have hms : Mod (fun k => k = P) w1 W := by
    rw [← hW]
    exact mod_set' (S := fun k => k = P) (mod_set' (S := fun k => k = P) (mod_set' (S := fun k => k = P) (mod_set' (S := fun k => k = P) (mod_set' (S := fun k => k = P) (mod_set' (S := fun k => k = P) (Mod.refl _ _) rfl _) rfl _) rfl _) rfl _) rfl _) rfl _
  have hblk : Blk W P 83 _ := hW ▸ ((((((h.blk.below hb hlt).set_ 0 (.slice A' σ.last.roots.length c')).set_ 1 (.slice D' σ.last.nodes.length d')).set_ 2 (.int .i64 0)).set_ 3 (.int .i64 0)).set_ 4 (.int .i64 0)).set_ 5 (.int .i64 0)
  have hjP : ∀ k, k = P → join w.heap.size o o1 k = .heap := fun k e => by rw [e, join_lt hlt]; exact h.oP
  have hext : ∀ k, k < w.heap.size → join w.heap.size o o1 k = o k := fun k hk => join_lt hk
  have hT : Turn w W o (join w.heap.size o o1) := ⟨Mod.trans (Mod.of_below (S := fun k => o k ≠ .other ∧ (o k).side ≠ some true) hb) hms (fun k _ e => by rw [e, h.oP]; simp [Tag.side]), hext⟩
  refine ⟨join w.heap.size o o1, ⟨A', c', D', d', xs', u0, u1, _, ?_, hblk, (h.mc.graph _ _).clear, hjP _ rfl, fun k hk => ?_, h.last.turn hT⟩, hT⟩
  · exact (hg.retag (join_new hlo)).mod hms (fun k _ e => by rw [hjP k e]; exact fun h => by cases h) (fun _ _ => rfl)
  · rcases Nat.lt_or_ge k w.heap.size with h1 | h1
    · rw [join_lt h1] at hk; exact h.lo k hk
    · have := h.lo P (by rw [h.oP]; exact fun h => by cases h)
      omega
end

set_option maxRecDepth 100000 in
set_option maxHeartbeats 4000000 in
theorem do_15 {w : World} {o : Nat → Tag} {B P : Nat} {σ : St} {most : Int} (h : RMo w o B P σ most) (N : Nat) (hN : N ≤ 90000) (hw : Well N σ) (x : Ins) (n : Nat) (hx : x.ok n = true) (e : x.op = 15) (at_ : Nat) (hat : at_ ≤ 100000) :
    Calls Tryz.prog 37 #[.pointer (some ⟨P, 0, none⟩), .agg #[.int .i64 x.op, .int .i64 x.a, .int .i64 x.b, .int .i64 x.c], .int .i64 (at_ : Int)] w fun en w' => DoPost w o B P most x at_ σ en w' := by
  obtain ⟨A, c, D, d, xs, u0, u1, cs, h⟩ := h
  have z0 := h.blk.lt
  have z1 : P < w.heap.size + 1 := by omega
  have hst := step_15 { σ with pc := at_ + 1 } e
  have hrs : rstep x { σ with pc := at_ + 1 } = Mo.step x { σ with pc := at_ + 1 } := if_neg (by rw [e]; decide)
  have htd : told x σ = -1 := if_neg (by rw [e]; decide)
  unfold DoPost
  rw [hrs, htd, hst]
  dsimp only
  obtain ⟨op, xa, xb, xc⟩ := x
  simp only at e
  subst e
  have c10 := (h.blk.cell 10).trans h.mc.c10
  have c11 := (h.blk.cell 11).trans h.mc.c11
  have hsm := sound_small hw.last
  have KC := Lib.hid (fun (ob : Obj) => copy_any (w := w.alloc ob) (v := .agg #[u0, u1]) (G := σ.last) (h.last _ (Mod.of_below (below_1 w ob))) 90000 (Nat.le_refl _) ⟨by have := hw.last.roots; omega, by have := hw.last.size; omega⟩ (fun x hx => by have := hsm x hx; omega))
  have HE := Lib.hid (fun (ob : Obj) (w1 : World) (o1 : Nat → Tag) (A' : Option Addr) (c' : Nat) (D' : Option Addr) (d' : Nat) (xs' : List Value) (hm : Mod (fun k => (w.alloc ob).heap.size ≤ k) (w.alloc ob) w1) (hlo : ∀ k, o1 k ≠ .other → (w.alloc ob).heap.size ≤ k) (hg : GM w1 o1 false A' c' D' d' xs' σ.last) => RDone.of (below_1 w ob) (((h.below (below_1 w ob)).abort hm hlo hg).pc (at_ + 1) σ.outs))
  have HX := Lib.hid (fun (ob : Obj) (w1 : World) (hm : Mod (fun k => (w.alloc ob).heap.size ≤ k) (w.alloc ob) w1) => show Blk w1 P 83 cs ∧ cs.size = 13 from
    ⟨((h.below (below_1 w ob)).below (hm.below (fun b hb h => by omega))).blk, h.mc.size⟩)
  clear h hw hx hrs htd hst hsm
  go_enter Tryz.func37, Tryz.ntmps37
  go_wp2_with fail
  refine (KC.out _).mono ?_
  rintro e w1 ⟨o1, A', c', D', d', xs', rfl, hm, hlo, hg⟩
  obtain ⟨hB, hsz⟩ := HX.out _ _ hm
  have HD := Lib.hid (HE.out _ w1 o1 _ _ _ _ _ hm hlo hg)
  have t0 := hB.cell 0
  have t1 := hB.cell 1
  have t2 := hB.cell 2
  have t3 := hB.cell 3
  have t4 := hB.cell 4
  have t5 := hB.cell 5
  have f0 := hB.frozen 0
  have f1 := hB.frozen 1
  have f2 := hB.frozen 2
  have f3 := hB.frozen 3
  have f4 := hB.frozen 4
  have f5 := hB.frozen 5
  have zz := hB.lt
  rw [Array.getElem?_eq_getElem (by omega)] at t0 t1 t2 t3 t4 t5
  clear hm hlo hg hB
  go_wp2_with fail
  go_ret3
  exact ⟨rfl, HD.out⟩

/-- Every instruction but Halt. -/
theorem rdo_any {w : World} {o : Nat → Tag} {B P : Nat} {σ : St} {most : Int} (h : RMo w o B P σ most) (N : Nat) (hN : N ≤ 90000) (hw : Well N σ) (x : Ins) (n : Nat) (hx : x.ok n = true) (e : x.op ≠ 0) (at_ : Nat) (hat : at_ ≤ 100000) :
    Calls Tryz.prog 37 #[.pointer (some ⟨P, 0, none⟩), .agg #[.int .i64 x.op, .int .i64 x.a, .int .i64 x.b, .int .i64 x.c], .int .i64 (at_ : Int)] w fun en w' => DoPost w o B P most x at_ σ en w' := by
  have h1 : 0 ≤ x.op ∧ x.op < 23 := by
    have hx := hx
    simp only [Ins.ok, one, Bool.and_eq_true, decide_eq_true_eq] at hx
    exact hx.1.1.1
  have h7 : x.op = 7 → x.b ≤ 15 ∧ x.c ≤ 30 := by
    have hx := hx
    simp only [Ins.ok, one, Bool.and_eq_true, decide_eq_true_eq] at hx
    exact hx.1.2
  rcases (by omega : x.op = 1 ∨ x.op = 2 ∨ x.op = 3 ∨ x.op = 4 ∨ x.op = 5 ∨ x.op = 6 ∨ x.op = 7 ∨ x.op = 8 ∨ x.op = 9 ∨ x.op = 10 ∨ x.op = 11 ∨ x.op = 12 ∨ x.op = 13 ∨ x.op = 14 ∨ x.op = 15 ∨ x.op = 16 ∨ x.op = 17 ∨ x.op = 18 ∨ x.op = 19 ∨ x.op = 20 ∨ x.op = 21 ∨ x.op = 22) with e | e | e | e | e | e | e | e | e | e | e | e | e | e | e | e | e | e | e | e | e | e
  · exact do_1 h N hw x n hx e at_ hat
  · exact do_2 h N hw x n hx e at_ hat
  · exact do_3 h N hw x n hx e at_ hat
  · exact do_4 h N hw x n hx e at_ hat
  · exact do_5 h N hw x n hx e at_ hat
  · exact do_6 h N hw x n hx e at_ hat
  · exact do_7 h N hN hw x n hx e (h7 e) at_ hat
  · exact do_8 h N (by omega) hw x n hx e at_ hat
  · exact do_9 h N (by omega) hw x n hx e at_ hat
  · exact do_10 h N (by omega) hw x n hx e at_ hat
  · exact do_11 h N (by omega) hw x n hx e at_ hat
  · exact do_12 h N (by omega) hw x n hx e at_ hat
  · exact do_13 h N (by omega) hw x n hx e at_ hat
  · exact do_14 h N (by omega) hw x n hx e at_ hat
  · exact do_15 h N hN hw x n hx e at_ hat
  · exact do_16 h N hw x n hx e at_ hat
  · exact do_17 h N hw x n hx e at_ hat
  · exact do_18 h N hw x n hx e at_ hat
  · exact do_19 h N hw x n hx e at_ hat
  · exact do_20 h N hw x n hx e at_ hat
  · exact do_21 h N (by omega) hw x n hx e at_ hat
  · exact do_22 h N (by omega) hw x n hx e at_ hat
end Go.Proofs.YteminkohgagedaaGreat.Rf
