/- own: a copy of a graph in new blocks, the walk. -/
import Derived.Test.YteminkohgagedaaGreatQMoMeth
namespace Go.Proofs.YteminkohgagedaaGreat.Mo
open Go.RowKit Go.Proofs.YteminkohgagedaaGreat.Base Go.Proofs.YteminkohgagedaaGreat.Gr Go.Proofs.YteminkohgagedaaGreat.Ver
set_option linter.unusedVariables false
set_option linter.unusedSimpArgs false

def blkOf (A : Option Addr) : Option Nat := A.map Addr.block
/-- Tags of new blocks. -/
def tag3 (o : Nat → Tag) (n : Nat) (b : Bool) (j : Nat) (A B D : Option Addr) : Nat → Tag := fun k =>
  if k < n then o k else if blkOf A = some k then .slots b j else if blkOf B = some k then .words b j else if blkOf D = some k then .nodes b else .other
theorem snoc_step {wr W3 w4 : World} {o : Nat → Tag} {b : Bool} {D AC BC D4 : Option Addr} {d c d' d4 : Nat} {xs : List Value} {ns : List Nd} (x : Nd) (h : NM wr o b D d xs ns) (hb : Below wr.heap.size wr W3)
    (hA : W3.ownsRow 0 3 1 (.slice AC x.slots.length c) x.slots.length (enc ic x.slots)) (hA2 : ∀ ad, AC = some ad → wr.heap.size ≤ ad.block)
    (hB : W3.ownsRow 0 3 1 (.slice BC x.words.length d') x.words.length (enc ic x.words)) (hB2 : ∀ ad, BC = some ad → wr.heap.size ≤ ad.block)
    (hne : ∀ ad ad', AC = some ad → BC = some ad' → ad.block ≠ ad'.block) (hg : W3.grownBy w4 (Value.slice D ns.length d).ownBlock)
    (hown : w4.ownsRow 0 55 2 (.slice D4 (ns.length + 1) d4) (ns.length + 1) (xs ++ [.slice AC x.slots.length c, .slice BC x.words.length d']))
    (hat : (Value.slice D4 (ns.length + 1) d4).ownBlock = (Value.slice D ns.length d).ownBlock ∨ (Value.slice D4 (ns.length + 1) d4).ownBlock = some W3.heap.size) :
    NM w4 (tag3 o wr.heap.size b ns.length AC BC D4) b D4 d4 (xs ++ [.slice AC x.slots.length c, .slice BC x.words.length d']) (ns ++ [x]) := by
  have hext : ∀ k, k < wr.heap.size → tag3 o wr.heap.size b ns.length AC BC D4 k = o k := fun k hk => if_pos hk
  have h1 : NM W3 (tag3 o wr.heap.size b ns.length AC BC D4) b D d xs ns := h.mod (Mod.of_below (S := fun _ => False) hb) (fun _ _ h => h.elim) hext
  have hAlt : ∀ ad, AC = some ad → ad.block < W3.heap.size := fun ad e => (own_block hA ad.block (by rw [e]; rfl)).2
  have hBlt : ∀ ad, BC = some ad → ad.block < W3.heap.size := fun ad e => (own_block hB ad.block (by rw [e]; rfl)).2
  refine h1.snoc x hg (fun _ _ => rfl) ⟨hA, fun ad e => ?_⟩ ⟨hB, fun ad e => ?_⟩ hown (fun ad e => ?_)
  · have := hA2 ad e
    unfold tag3
    rw [if_neg (by omega), if_pos (by rw [e]; rfl)]
  · have := hB2 ad e
    unfold tag3
    rw [if_neg (by omega), if_neg, if_pos (by rw [e]; rfl)]
    intro e2
    unfold blkOf at e2
    cases hq : AC with
    | none => rw [hq] at e2; cases e2
    | some ad2 =>
      rw [hq] at e2
      injection e2 with e2
      exact hne ad2 ad hq e e2
  · have hk : (Value.slice D4 (ns.length + 1) d4).ownBlock = some ad.block := by rw [e]; rfl
    rcases hat with h2 | h2
    · rw [hk] at h2
      obtain ⟨ad2, e2, e3⟩ := block_iff h2.symm
      have h4 := h.lt e2
      rw [← e3, hext _ h4]
      exact h.tag ad2 e2
    · rw [hk] at h2
      injection h2 with h2
      have := hb.size
      unfold tag3
      rw [if_neg (by omega), if_neg, if_neg, if_pos (by rw [e]; rfl)]
      · intro e2
        unfold blkOf at e2
        cases hq : BC with
        | none => rw [hq] at e2; cases e2
        | some ad2 => rw [hq] at e2; injection e2 with e2; have := hBlt _ hq; omega
      · intro e2
        unfold blkOf at e2
        cases hq : AC with
        | none => rw [hq] at e2; cases e2
        | some ad2 => rw [hq] at e2; injection e2 with e2; have := hAlt _ hq; omega

/-- What own holds while it goes over the nodes. -/
structure Copy (w wr : World) (o : Nat → Tag) (b : Bool) (p2 p3 : Nat) (A : Option Addr) (c : Nat) (D : Option Addr) (d : Nat) (xs : List Value) (rs : List Int) (ns : List Nd) : Prop where
  nodes : NM wr o b D d xs ns
  roots : Pc wr o (.roots b) A c rs
  out : Blk wr p3 25 #[.slice A rs.length c, .slice D ns.length d]
  res : Blk wr p2 25 #[.slice none 0 0, .slice none 0 0]
  o3 : o p3 = .other
  o2 : o p2 = .other
  lo : ∀ k, o k ≠ .other → w.heap.size ≤ k
  below : Below w.heap.size w wr
  lo3 : w.heap.size ≤ p3
  ne : p2 ≠ p3
theorem tag3_lo {o : Nat → Tag} {n : Nat} {b : Bool} {j : Nat} {A B D : Option Addr} {k : Nat} (h : tag3 o n b j A B D k ≠ .other) : (k < n ∧ o k ≠ .other) ∨ n ≤ k := by
  unfold tag3 at h
  by_cases hk : k < n
  · rw [if_pos hk] at h; exact .inl ⟨hk, h⟩
  · exact .inr (by omega)
theorem own_round {w wr W6 w2 w3 W3 w4 : World} {o : Nat → Tag} {b : Bool} {p2 p3 k : Nat} {A D AC BC D4 : Option Addr} {c d cA cB d4 la lb : Nat} {xs : List Value} {rs : List Int} {ns : List Nd} (x : Nd) (hla : x.slots.length = la) (hlb : x.words.length = lb) (hk : ns.length = k)
    (h : Copy w wr o b p2 p3 A c D d xs rs ns) (h6 : Below wr.heap.size wr W6) (hA : w2.ownsRow W6.heap.size 3 1 (.slice AC la cA) la (enc ic x.slots)) (hA2 : Below W6.heap.size W6 w2)
    (hB : w3.ownsRow w2.heap.size 3 1 (.slice BC lb cB) lb (enc ic x.words)) (hB2 : Below w2.heap.size w2 w3) (ob : Obj) (hl : Like (w3.alloc ob) W3)
    (hg : W3.grownBy w4 (Value.slice D k d).ownBlock)
    (hown : w4.ownsRow 0 55 2 (.slice D4 (k + 1) d4) (k + 1) (xs ++ [.slice AC la cA, .slice BC lb cB]))
    (hat : (Value.slice D4 (k + 1) d4).ownBlock = (Value.slice D k d).ownBlock ∨ (Value.slice D4 (k + 1) d4).ownBlock = some W3.heap.size) :
    Copy w (w4.setCell ⟨p3, 1, none⟩ (.slice D4 (k + 1) d4)) (tag3 o wr.heap.size b k AC BC D4) b p2 p3 A c D4 d4 (xs ++ [.slice AC la cA, .slice BC lb cB]) rs (ns ++ [x]) := by
  subst hla hlb hk
  have hb3 : Below w3.heap.size w3 W3 := by
    have := below_1 w3 ob
    exact ⟨hl.os.trans this.os, hl.tape.trans this.tape, hl.output.trans this.output, by rw [hl.heap]; exact this.size, fun i hi => by rw [hl.heap]; exact this.block i hi⟩
  have hbW : Below wr.heap.size wr W3 := below_then (below_then (below_then h6 hA2) hB2) hb3
  have hA3 : W3.ownsRow W6.heap.size 3 1 (.slice AC x.slots.length cA) x.slots.length (enc ic x.slots) := own_below (own_below hA hB2) hb3
  have hB3 : W3.ownsRow w2.heap.size 3 1 (.slice BC x.words.length cB) x.words.length (enc ic x.words) := own_below hB hb3
  have hAb := fun k hk => own_block hA k hk
  have hBb := fun k hk => own_block hB k hk
  have hs6 := h6.size
  have hs2 := hA2.size
  have hn := snoc_step x h.nodes hbW (own_lower hA3 (Nat.zero_le _)) (fun ad e => by have := (hAb ad.block (by rw [e]; rfl)).1; omega) (own_lower hB3 (Nat.zero_le _)) (fun ad e => by have := (hBb ad.block (by rw [e]; rfl)).1; omega)
    (fun ad ad' e e' => by have := (hAb ad.block (by rw [e]; rfl)).2; have := (hBb ad'.block (by rw [e']; rfl)).1; omega) hg hown hat
  have hext : ∀ k, k < wr.heap.size → tag3 o wr.heap.size b ns.length AC BC D4 k = o k := fun k hk => if_pos hk
  have h3 := h.out.lt
  have h2 := h.res.lt
  have hp3 : tag3 o wr.heap.size b ns.length AC BC D4 p3 = .other := by rw [hext _ h3]; exact h.o3
  have hp2 : tag3 o wr.heap.size b ns.length AC BC D4 p2 = .other := by rw [hext _ h2]; exact h.o2
  have mg : Mod (fun k => some k = (Value.slice D ns.length d).ownBlock) wr w4 := Mod.trans (Mod.of_below (S := fun k => some k = (Value.slice D ns.length d).ownBlock) hbW) (Mod.of_grown hg) (fun _ _ h => h)
  have hDo : ∀ k, some k = (Value.slice D ns.length d).ownBlock → o k = .nodes b := fun k hk => by
    obtain ⟨ad, e, rfl⟩ := block_iff hk.symm
    exact h.nodes.tag ad e
  have ms : Mod (fun k => k = p3) w4 (w4.setCell ⟨p3, 1, none⟩ (.slice D4 (ns.length + 1) d4)) := mod_set' (S := fun k => k = p3) (Mod.refl _ _) rfl _
  have hlen : (ns ++ [x]).length = ns.length + 1 := by simp
  have hn3 : ∀ k, k = p3 → tag3 o wr.heap.size b ns.length AC BC D4 k = .other := fun k e => by rw [e]; exact hp3
  refine ⟨hn.mod ms (fun k _ e => by rw [hn3 k e]; exact fun h => by cases h) (fun _ _ => rfl), ?_, ?_, ?_, hp3, hp2, fun k hk => ?_, ?_, h.lo3, h.ne⟩
  · exact ((h.roots.mod mg (fun k _ e e2 => by rw [hDo k e] at e2; cases e2) hext).mod ms (fun k _ e e2 => by rw [hn3 k e] at e2; cases e2) (fun _ _ => rfl))
  · rw [hlen]
    have := (h.out.mod mg (fun e => by have := hDo _ e; rw [h.o3] at this; cases this)).set_ 1 (.slice D4 (ns.length + 1) d4)
    exact this
  · have := h.res.mod mg (fun e => by have := hDo _ e; rw [h.o2] at this; cases this)
    exact this.far (p := ⟨p3, 1, none⟩) h.ne _
  · rcases tag3_lo hk with h1 | h1
    · exact h.lo k h1.2
    · have := h.below.size; omega
  · refine mod_below (S := fun k => k = p3 ∨ some k = (Value.slice D ns.length d).ownBlock) h.below (Mod.trans (mg.mono (fun _ _ e => .inr e)) ms (fun _ _ e => .inl e)) h.below.size ?_
    rintro b hb (e | e)
    · have := h.lo3; omega
    · have := h.lo b (by rw [hDo b e]; exact fun h => by cases h); omega

end Go.Proofs.YteminkohgagedaaGreat.Mo
namespace Go.Proofs.YteminkohgagedaaGreat.Mo
open Go.RowKit Go.Proofs.YteminkohgagedaaGreat.Base Go.Proofs.YteminkohgagedaaGreat.Gr Go.Proofs.YteminkohgagedaaGreat.Ver
set_option linter.unusedVariables false
set_option linter.unusedSimpArgs false

theorem num_ahead3 {w3 W3 : World} {base n : Nat} {v : Value} {xs : List Value} (h : w3.ownsRow base 55 2 v n xs) (ob : Obj) (hl : Like (w3.alloc ob) W3) : W3.ownsRow base 55 2 v n xs := num_ahead h ob hl
theorem own_clone {w : World} {p3 pb : Nat} {v0 v1 y0 y1 : Value} {xs : List Value} {n : Nat} (Bs : Option Addr) (l : List Int) (ds : Nat) (hI : Ints w Bs l) (w2 W' : World) (hl : Like w2 W') (hB : Below w.heap.size w w2) (h1 : Blk w2 p3 25 #[v0, v1]) (h2 : Blk w2 pb 55 #[y0, y1]) (h3 : w2.ownsRow 0 55 2 v1 n xs) :
    Calls Tryz.prog 75 #[.slice Bs l.length ds] W' fun e w3 => ∃ AC cC, e = .returned (.slice AC l.length cC) ∧ w3.cell? ⟨p3, 1, none⟩ = some v1 ∧ w3.cell? ⟨pb, 0, none⟩ = some y0 ∧ w3.cell? ⟨pb, 1, none⟩ = some y1 ∧ w3.frozen? ⟨p3, 1, none⟩ = false ∧ p3 < w3.heap.size ∧
      Hid (w3.ownsRow w2.heap.size 3 1 (.slice AC l.length cC) l.length (enc ic l)) ∧ Hid (Below w2.heap.size w2 w3) ∧ Hid (Blk w3 p3 25 #[v0, v1]) ∧ Hid (Blk w3 pb 55 #[y0, y1]) ∧ Hid (w3.ownsRow 0 55 2 v1 n xs) := by
  have hB' : Below w.heap.size w W' := ⟨hl.os.trans hB.os, hl.tape.trans hB.tape, hl.output.trans hB.output, by rw [hl.heap]; exact hB.size, fun i hi => by rw [hl.heap]; exact hB.block i hi⟩
  refine (clone_any Bs l ds W' (hI.below hB')).mono ?_
  rintro e w3 ⟨vC, rfl, hown, hb⟩
  obtain ⟨AC, cC, rfl, hcC⟩ := own_form hown
  have hb' : Below w2.heap.size w2 w3 := ⟨hb.os.trans hl.os, hb.tape.trans hl.tape, hb.output.trans hl.output, by have := hb.size; rw [hl.heap] at this; exact this, fun i hi => by have := hb.block i (by rw [hl.heap]; exact hi); rw [this, hl.heap]⟩
  rw [hl.heap] at hown
  have h1' := h1.below hb' h1.lt
  have h2' := h2.below hb' h2.lt
  have c1 := h1'.cell 1
  have c2 := h2'.cell 0
  have c3 := h2'.cell 1
  simp only [List.getElem?_toArray, List.getElem?_cons_zero, List.getElem?_cons_succ] at c1 c2 c3
  exact ⟨AC, cC, rfl, c1, c2, c3, h1'.frozen 1, h1'.lt, hown, hb', h1', h2', own_below h3 hb'⟩

set_option maxRecDepth 100000 in
set_option maxHeartbeats 4000000 in
theorem own_any (b : Bool) (A D : Option Addr) (g : Gr) (c d : Nat) (w : World) (hA : Ints w A g.roots) (hD : Nodes w D g.nodes) (hr : g.roots.length ≤ 64) (hn : g.nodes.length ≤ 100000) (hx : ∀ x ∈ g.nodes, x.slots.length ≤ 15 ∧ x.words.length ≤ 30) :
    Calls Tryz.prog 27 #[.agg #[.slice A g.roots.length c, .slice D g.nodes.length d]] w fun e w' => ∃ t A' c' D' d' xs, e = .returned (.agg #[.slice A' g.roots.length c', .slice D' g.nodes.length d']) ∧ GM w' t b A' c' D' d' xs g ∧ (∀ k, t k ≠ .other → w.heap.size ≤ k) ∧ Below w.heap.size w w' := by
  obtain ⟨i0, hi0, hz0, hz1, hz2⟩ := info_parts1 nodeInfo
  have hb0 := box_zero w #[.slice A g.roots.length c, .slice D g.nodes.length d] 25 (.cells #[.slice none 0 0, .slice none 0 0] 25)
  have HB0 := Lib.hid hb0
  have K1 := Lib.hid (clone_any A g.roots c _ (hA.below hb0))
  have HA := Lib.hid hA
  have HD := Lib.hid hD
  have HX := Lib.hid hx
  have HG0 := Lib.hid ((Blk.new w 25 #[.slice A g.roots.length c, .slice D g.nodes.length d]).alloc (.cells #[.slice none 0 0, .slice none 0 0] 25))
  have hT0 := Blk.new (w.alloc (.cells #[.slice A g.roots.length c, .slice D g.nodes.length d] 25)) 25 #[.slice none 0 0, .slice none 0 0]
  rw [World.size_alloc] at hT0
  have HT0 := Lib.hid hT0
  clear hA hD hx hb0 hT0
  go_enter Tryz.func27, Tryz.ntmps27
  go_wp2_with fail
  refine K1.out.mono ?_
  rintro e w1 ⟨vC, rfl, hown, hb1⟩
  obtain ⟨AR, cR, rfl, hcR⟩ := own_form hown
  have HB1 := Lib.hid (below_then HB0.out hb1)
  have hz1' := HB1.out.size
  have HG1 := Lib.hid (HG0.out.below hb1 HG0.out.lt)
  have HT1 := Lib.hid (HT0.out.below hb1 HT0.out.lt)
  have zt1 := HT1.out.lt
  have HR := Lib.hid hown
  have hsz : ((w.alloc (.cells #[.slice A g.roots.length c, .slice D g.nodes.length d] 25)).alloc (.cells #[.slice none 0 0, .slice none 0 0] 25)).heap.size ≥ w.heap.size := by simp; omega
  have HSZ := Lib.hid hsz
  have g1 := HG1.out.cell 1
  have z1 := HG1.out.lt
  simp only [List.getElem?_toArray, List.getElem?_cons_zero, List.getElem?_cons_succ] at g1
  clear hown hb1 K1 HB0 HG0 HT0 hsz
  go_wp2
  go_loopw [13] (fun i wr => ∃ (k : Nat) (o : Nat → Tag) (D' : Option Addr) (d' : Nat) (xs : List Value), k ≤ g.nodes.length ∧ i = .int .i64 k ∧
    Hid (Copy w wr o b (w.heap.size + 1) w1.heap.size AR cR D' d' xs g.roots (g.nodes.take k)) ∧ Hid (Below w1.heap.size w1 (wr) ∨ True)) (fun i _ => g.nodes.length - (intOf i).toNat)
  case atStart =>
    refine ⟨0, fun k => if blkOf AR = some k then .roots b else .other, none, 0, [], Nat.zero_le _, rfl, ?_, .inr trivial⟩
    have hR1 := own_below HR.out (below_1 w1 (.cells #[.slice AR g.roots.length cR, .slice none 0 0] 25))
    have hlo : ∀ k, blkOf AR = some k → w.heap.size ≤ k ∧ k < w1.heap.size ∧ w.heap.size + 1 < k := fun k e => by
      have h1 := own_block HR.out k (by unfold blkOf at e; cases AR with | none => cases e | some ad => exact e)
      have := h1.1
      simp at this
      exact ⟨by omega, h1.2, by omega⟩
    refine ⟨NM.nil _ _ _, ⟨own_lower hR1 (Nat.zero_le _), fun ad e => by rw [e]; exact if_pos rfl⟩, Blk.new _ _ _, HT1.out.alloc _, ?_, ?_, fun k hk => ?_, HB1.out.trans ((below_1 _ _).mono HB1.out.size), HB1.out.size, by omega⟩
    · by_cases e : blkOf AR = some w1.heap.size
      · have := (hlo _ e).2.1; omega
      · exact if_neg e
    · by_cases e : blkOf AR = some (w.heap.size + 1)
      · have := (hlo _ e).2.2; omega
      · exact if_neg e
    · by_cases e : blkOf AR = some k
      · exact (hlo _ e).1
      · simp only [e, if_false] at hk; exact absurd rfl hk
  case round =>
    obtain ⟨k, o, D', d', xs, hk, rfl, HC, -⟩ := hrel
    have hkl : (g.nodes.take k).length = k := by rw [List.length_take]; omega
    have hout := HC.out.out
    rw [hkl] at hout
    have c0 := hout.cell 0
    have c1 := hout.cell 1
    have f1 := hout.frozen 1
    have zo := hout.lt
    simp only [List.getElem?_toArray, List.getElem?_cons_zero, List.getElem?_cons_succ] at c0 c1
    by_cases hlt : k < g.nodes.length
    · obtain ⟨dd, As, cs, Bs, ds, rfl, d2, d3, i1, i2⟩ := nds_at (HD.out.below HC.out.below) k hlt
      have hx := HX.out g.nodes[k] (List.getElem_mem hlt)
      generalize hxk : g.nodes[k] = x at d2 d3 i1 i2 hx
      have HBx := Lib.hid (show Blk (wr.alloc (.cells #[.slice As x.slots.length cs, .slice Bs x.words.length ds] 55)) wr.heap.size 55 #[.slice As x.slots.length cs, .slice Bs x.words.length ds] from Blk.new _ _ _)
      have HBo := Lib.hid (hout.alloc (.cells #[.slice As x.slots.length cs, .slice Bs x.words.length ds] 55))
      have hb6 := below_1 wr (.cells #[.slice As x.slots.length cs, .slice Bs x.words.length ds] 55)
      have hrow := HC.out.nodes.own
      rw [hkl] at hrow
      have HBr := Lib.hid (own_below hrow hb6)
      have HB6 := Lib.hid hb6
      have HBW := Lib.hid (show Below w.heap.size w (wr.alloc (.cells #[.slice As x.slots.length cs, .slice Bs x.words.length ds] 55)) from HC.out.below.trans (hb6.mono HC.out.below.size))
      have HI1 := Lib.hid i1
      have HI2 := Lib.hid i2
      clear i1 i2 hb6 hrow hout
      go_wp2_with fail
      generalize hW6 : wr.alloc (.cells #[.slice As x.slots.length cs, .slice Bs x.words.length ds] 55) = W6 at HBx HBo HBr HB6 HBW ⊢
      have q1 := HBo.out.cell 1
      have q2 := HBx.out.cell 0
      have q3 := HBx.out.cell 1
      have q4 := HBo.out.frozen 1
      have q5 := HBo.out.lt
      simp only [List.getElem?_toArray, List.getElem?_cons_zero, List.getElem?_cons_succ] at q1 q2 q3
      have HW6 := Lib.hid hW6
      have hne : (Value.slice D' k d').ownBlock ≠ some w1.heap.size := by
        intro e
        obtain ⟨ad, e1, e2⟩ := block_iff e
        have h1 := HC.out.nodes.tag ad e1
        rw [e2, HC.out.o3] at h1
        cases h1
      have HNE := Lib.hid hne
      have HB1x := HB1.out.size
      have KS := Lib.hid (fun w2 W' (hl : Like w2 W') hB h1 h2 h3 => own_clone (w := wr) (p3 := w1.heap.size) (pb := wr.heap.size) (v0 := .slice AR g.roots.length cR) (v1 := .slice D' k d') (y0 := .slice As x.slots.length cs) (y1 := .slice Bs x.words.length ds) (xs := xs) (n := k) As x.slots cs HI1.out w2 W' hl hB h1 h2 h3)
      have KW := Lib.hid (fun w2 W' (hl : Like w2 W') hB h1 h2 h3 => own_clone (w := wr) (p3 := w1.heap.size) (pb := wr.heap.size) (v0 := .slice AR g.roots.length cR) (v1 := .slice D' k d') (y0 := .slice As x.slots.length cs) (y1 := .slice Bs x.words.length ds) (xs := xs) (n := k) Bs x.words ds HI2.out w2 W' hl hB h1 h2 h3)
      clear hne d2 d3 c0 c1 f1 zo
      go_region_law (first
        | (refine step_append_any _ rfl _ _ _ (by rfl) 0 55 i0 _ 2 48 Tryz.underlying23 hi0 hz0 hz1 hz2 rfl (by omega) (.slice D' k d') k xs (by rfl) (num_ahead3 hrow3.out _ (by (first | exact like_self _ | exact like_drew (like_self _) | exact like_drew (like_drew (like_self _)) | exact like_drew (like_drew (like_drew (like_self _)))))) _ 1 1 _ (by rfl) (Reads.new _ _ rfl) (by simp [Value.oneCell']) (fun e => by cases e) (by simp only [maxLen]; omega) (by omega) (by simp) ?_; intro v4 w4 hown4 hg4 hat4; obtain ⟨D4, d4, rfl, hd4⟩ := own_form hown4; obtain ⟨r5, r6, r7⟩ := num_cell hbo3.out _ (by (first | exact like_self _ | exact like_drew (like_self _) | exact like_drew (like_drew (like_self _)) | exact like_drew (like_drew (like_drew (like_self _))))) hg4 HNE.out; have HRR := Lib.hid (own_round x rfl rfl hkl HC.out HB6.out hoA.out hbA.out hoB.out hbB.out _ (by (first | exact like_self _ | exact like_drew (like_self _) | exact like_drew (like_drew (like_self _)) | exact like_drew (like_drew (like_drew (like_self _))))) hg4 hown4 hat4); clear hown4 hg4 hat4)
        | (refine step_append_any _ rfl _ _ _ (by rfl) 0 55 i0 _ 2 48 Tryz.underlying23 hi0 hz0 hz1 hz2 rfl (by omega) (.slice D' k d') k xs (by rfl) (num_ahead3 hrow3.out _ (by (first | exact like_self _ | exact like_drew (like_self _) | exact like_drew (like_drew (like_self _)) | exact like_drew (like_drew (like_drew (like_self _)))))) _ 1 1 _ (by rfl) (reads_drew (Reads.new _ _ rfl)) (by simp [Value.oneCell']) (fun e => by cases e) (by simp only [maxLen]; omega) (by omega) (by simp) ?_; intro v4 w4 hown4 hg4 hat4; obtain ⟨D4, d4, rfl, hd4⟩ := own_form hown4; obtain ⟨r5, r6, r7⟩ := num_cell hbo3.out _ (by (first | exact like_self _ | exact like_drew (like_self _) | exact like_drew (like_drew (like_self _)) | exact like_drew (like_drew (like_drew (like_self _))))) hg4 HNE.out; have HRR := Lib.hid (own_round x rfl rfl hkl HC.out HB6.out hoA.out hbA.out hoB.out hbB.out _ (by (first | exact like_self _ | exact like_drew (like_self _) | exact like_drew (like_drew (like_self _)) | exact like_drew (like_drew (like_drew (like_self _))))) hg4 hown4 hat4); clear hown4 hg4 hat4)
        | ((try go_simp)
           go_at_call 75
           refine (KW.out _ _ ?_ (below_then HB6.out hbA.out) hbo2.out hbx2.out hrow2.out).mono ?_
           (first | exact like_self _ | exact like_drew (like_self _) | exact like_drew (like_drew (like_self _)) | exact like_drew (like_drew (like_drew (like_self _))))
           rintro e w3 ⟨BC, cB, rfl, t1, t2, t3, t4, t5, hoB, hbB, hbo3, hbx3, hrow3⟩)
        | ((try go_simp)
           go_at_call 75
           refine (KS.out W6 _ ?_ HB6.out HBo.out HBx.out HBr.out).mono ?_
           (first | exact like_self _ | exact like_drew (like_self _) | exact like_drew (like_drew (like_self _)) | exact like_drew (like_drew (like_drew (like_self _))))
           rintro e w2 ⟨AC, cA, rfl, s1, s2, s3, s4, s5, hoA, hbA, hbo2, hbx2, hrow2⟩))
      all_goals
        go_wp2
        go_roundw
        case rel =>
          refine ⟨k + 1, tag3 o wr.heap.size b k AC BC D4, D4, d4, xs ++ [.slice AC x.slots.length cA, .slice BC x.words.length cB], by omega, by go_num, ?_, .inr trivial⟩
          rw [List.take_add_one, List.getElem?_eq_getElem hlt, hxk]
          exact HRR.out
        case measure => simp [intOf]; omega
    · have hke : k = g.nodes.length := by omega
      subst hke
      rw [List.take_length] at HC
      have e0 := HC.out.res.cell 0
      have e1 := HC.out.res.cell 1
      have e2 := HC.out.res.frozen 0
      have e3 := HC.out.res.frozen 1
      have e4 := HC.out.res.lt
      simp only [List.getElem?_toArray, List.getElem?_cons_zero, List.getElem?_cons_succ] at e0 e1
      clear hout
      go_wp2
      (try simp only [Exit.inBlock, Exit.then])
      have hB2 := (HC.out.res.set_ 0 (.slice AR g.roots.length cR)).set_ 1 (.slice D' g.nodes.length d')
      refine bodyPost_ret (v := .agg #[.slice AR g.roots.length cR, .slice D' g.nodes.length d']) (results_cell_row rfl _ _ (w.heap.size + 1) 25 _ (0, 0) _ rfl hB2 Tryz.underlying25 rfl graphSize) rfl ?_
      have hm : Mod (fun k => k = w.heap.size + 1) wr ((wr.setCell ⟨w.heap.size + 1, 0, none⟩ (.slice AR g.roots.length cR)).setCell ⟨w.heap.size + 1, 1, none⟩ (.slice D' g.nodes.length d')) :=
        mod_set' (S := fun k => k = w.heap.size + 1) (mod_set' (S := fun k => k = w.heap.size + 1) (Mod.refl _ _) rfl _) rfl _
      refine ⟨o, AR, cR, D', d', xs, rfl, GM.mod ⟨HC.out.roots, HC.out.nodes⟩ hm (fun k _ e => by rw [e, HC.out.o2]; exact fun h => by cases h) (fun _ _ => rfl), HC.out.lo, mod_below HC.out.below hm HC.out.below.size (by omega)⟩

end Go.Proofs.YteminkohgagedaaGreat.Mo
