/- A book over graphs whose lists may be older than the book: one graph more, one list of numbers more; lent lists are rows. -/
import Derived.Test.YteminkohgagedaaGreatQBkGraphV
namespace Go.Proofs.YteminkohgagedaaGreat.BkNodes
open Go.RowKit Go.Proofs.YteminkohgagedaaGreat.Base Go.Proofs.YteminkohgagedaaGreat.Bk Go.Proofs.YteminkohgagedaaGreat.Gr
set_option linter.unusedVariables false
set_option linter.unusedSimpArgs false

theorem lentI_any (A : Option Addr) (l : List Int) (c : Nat) (w : World) (hr : Arr w ic 1 A l) (hl : l.length ≤ 100000) :
    Calls Tryz.prog 22 #[.slice A l.length c] w fun e w' => ∃ B m, e = .returned (.slice B l.length m) ∧ l.length + 1 ≤ m ∧
      w'.ownsRow w.heap.size 3 1 (.slice B (l.length + 1) m) (l.length + 1) (enc ic (l ++ [-77])) ∧ Below w.heap.size w w' := by
  obtain ⟨i0, hi0, hz0, hz1, hz2⟩ := info_parts1 intInfo
  go_enter Tryz.func22, Tryz.ntmps22
  go_wp2_with fail
  refine (BkInts.copy_own A l c w hr hl).mono ?_
  rintro e w1 ⟨v, rfl, hown, hb⟩
  have hz := hb.size
  obtain ⟨B, m, rfl, hm⟩ := own_form hown
  go_wp2_with (first
    | (at_builtin
       refine wpList_append_any _ rfl (.tmp 4) (.tmp 5) _ rfl w.heap.size 3 i0 _ 1 8 Tryz.underlying22 hi0 hz0 hz1 hz2 rfl (by omega) _ l.length (enc ic l) rfl
         (hown.alloc _) (some ⟨w1.heap.size, 0, none⟩) 1 1 [.int .i64 (-77)] rfl (Reads.new w1 _ rfl) (ic_one [-77]) (fun e => by cases e) (by simp only [maxLen]; omega) (by omega) (by simp; omega) ?_
       intro v2 w2 hown2 hg2 hat2
       obtain ⟨B2, m2, rfl, hm2⟩ := own_form hown2
       have hm3 : l.length ≤ m2 := by omega))
  go_ret
  refine ⟨B2, m2, rfl, by omega, by rw [enc_append]; exact hown2, ?_⟩
  refine (hb.trans ((Below.refl _ _).alloc hz _)).grown hg2 (by simp; omega) ?_
  intro k hk
  exact (own_block hown k hk).1
theorem arr_pre {α : Type} {w : World} {f : α → List Value} {s : Nat} {A : Option Addr} {l m : List α} (hf : ∀ x, (f x).length = s) (h : Arr w f s A (l ++ m)) : Arr w f s A l := by
  have h1 := Reads.take h (k := l.length) (by simp)
  rw [enc_append, List.take_append_of_le_length (by rw [enc_len hf]; omega), List.take_of_length_le (by rw [enc_len hf]; omega)] at h1
  exact h1
theorem staysI_any (A B : Option Addr) (l : List Int) (c m : Nat) (w : World) (hl : Arr w ic 1 A l) (hm : Arr w ic 1 B (l ++ [-77])) (hn : l.length ≤ 100000) (hc : l.length + 1 ≤ m) :
    Calls Tryz.prog 42 #[.slice B l.length m, .slice A l.length c] w fun e w' => e = .returned (.bool true) ∧ Below w.heap.size w w' := by
  have HS := Lib.hid (BkInts.same_yes B A l m c w (arr_pre ic_len hm) hl hn)
  have hlen : l.length < (l ++ [(-77 : Int)]).length := by simp
  have HC : Hid (Ints w B (l ++ [-77])) := Lib.hid ⟨hm, by simp; omega⟩
  clear hm hl
  have p1 : (0 : Int) ≤ (l.length : Int) + 1 := by omega
  have p2 : (l.length : Int) + 1 ≤ m := by omega
  go_enter Tryz.func42, Tryz.ntmps42
  go_wp2_with fail
  refine (HS.out).mono ?_
  rintro e w1 ⟨rfl, hb⟩
  obtain ⟨bd, rfl, c0⟩ := (HC.out.below hb).at_ l.length hlen
  simp only [List.getElem_append_right (Nat.le_refl _), Nat.sub_self, List.getElem_singleton] at c0
  go_wp2_with fail
  go_ret
  exact ⟨rfl, hb⟩

/-- What a lent list of nodes is: the row of one more. -/
def LentN (w : World) (lo : Nat) (B : Option Addr) (xs : List Nd) (m : Nat) : Prop :=
  ∃ (ps : List NC) (b : Option Addr) (k : Nat) (v : Value), xs.length + 1 ≤ m ∧ w.ownsRow lo 55 2 (.slice B (xs.length + 1) m) (xs.length + 1) (enc nf (ps ++ [(.slice b 1 k, v)])) ∧ Deeps w lo ps xs
theorem LentN.below {w w' : World} {lo : Nat} {B : Option Addr} {xs : List Nd} {m : Nat} (h : LentN w lo B xs m) (hb : Below w.heap.size w w') : LentN w' lo B xs m := by
  obtain ⟨ps, b, k, v, h0, h1, h2⟩ := h
  exact ⟨ps, b, k, v, h0, own_below h1 hb, h2.below hb⟩
set_option maxRecDepth 100000 in
set_option maxHeartbeats 4000000 in
theorem lentN_any (A : Option Addr) (xs : List Nd) (c : Nat) (w : World) (hA : Nodes w A xs) (hl : xs.length ≤ 100000) (hx : ∀ x ∈ xs, x.slots.length ≤ 100000 ∧ x.words.length ≤ 100000) :
    Calls Tryz.prog 23 #[.slice A xs.length c] w fun e w' => ∃ B m, e = .returned (.slice B xs.length m) ∧ LentN w' w.heap.size B xs m ∧ Below w.heap.size w w' := by
  obtain ⟨i0, hi0, hz0, hz1, hz2⟩ := info_parts1 nodeInfo
  go_enter Tryz.func23, Tryz.ntmps23
  go_wp2_with fail
  refine (copy_any A xs c w hA hl hx).mono ?_
  rintro e w1 ⟨B, m, ps, rfl, hown, hd, hb⟩
  have hz := hb.size
  have HD := Lib.hid hd
  clear hd
  go_wp2_with (first
    | (at_builtin
       go_loud (refine wpList_append_any _ rfl (.tmp 4) (.tmp 7) _ rfl w.heap.size 55 i0 _ 2 48 Tryz.underlying23 hi0 hz0 hz1 hz2 rfl (by omega) _ xs.length (enc nf ps) rfl ((hown.alloc _).alloc _) (some ⟨w1.heap.size + 1, 0, none⟩) 1 1 [.slice (some ⟨w1.heap.size, 0, none⟩) 1 1, .slice none 0 0] rfl (by have h := Reads.new (w1.alloc (.cells #[.int .i64 (-77)] 3)) (size := 2) (n := 1) (cs := #[.slice (some ⟨w1.heap.size, 0, none⟩) 1 1, .slice none 0 0]) 55 rfl; rw [World.size_alloc] at h; exact h) (by intro u hu; simp at hu; rcases hu with rfl | rfl <;> rfl) (fun e => by cases e) (by simp only [maxLen]; omega) (by omega) (by simp; omega) ?_)
       intro v2 w2 hown2 hg2 hat2
       obtain ⟨B2, m2, rfl, hm2⟩ := own_form hown2
       have hm3 : xs.length ≤ m2 := by omega))
  go_ret
  have hb2 : Below w.heap.size w w2 := by
    refine (hb.trans (((Below.refl _ _).alloc hz _).alloc (by simp; omega) _)).grown hg2 (by simp; omega) ?_
    intro k hk
    exact (own_block hown k hk).1
  refine ⟨B2, m2, rfl, ⟨ps, _, _, _, by omega, by rw [enc_append]; exact hown2, ?_⟩, hb2⟩
  have h1 := (HD.out.below (below_new w1 (.cells #[.int .i64 (-77)] 3))).below (below_new _ (.cells #[.slice (some ⟨w1.heap.size, 0, none⟩) 1 1, .slice none 0 0] 55))
  refine h1.mod (Mod.of_grown hg2) (fun b hS => .inr ?_)
  exact NotInt.of_own ((hown.alloc _).alloc _) (by decide) hS.symm

theorem staysN_any (A B : Option Addr) (xs : List Nd) (c m lo : Nat) (w : World) (hA : Nodes w A xs) (hm : LentN w lo B xs m) (hn : xs.length ≤ 100000) (hx : ∀ x ∈ xs, x.slots.length ≤ 100000 ∧ x.words.length ≤ 100000) :
    Calls Tryz.prog 43 #[.slice B xs.length m, .slice A xs.length c] w fun e w' => e = .returned (.bool true) ∧ Below w.heap.size w w' := by
  obtain ⟨ps, b, k, v, hc, ho, hd⟩ := hm
  have hpl : ps.length = xs.length := hd.1
  have hR : Arr w nf 2 B (ps ++ [(.slice b 1 k, v)]) := by
    have h := Reads.of_own ho
    show Reads w 2 B (ps ++ [((Value.slice b 1 k, v) : NC)]).length _
    simp only [List.length_append, List.length_singleton, hpl]
    exact h
  have HS := Lib.hid (same_yes B A xs m c w (nodes_of (arr_pre nf_len hR) hd hn) hA hn hx)
  have HC := Lib.hid hR
  have HPL := Lib.hid hpl
  clear hR ho hd hA hx hpl
  have p1 : (0 : Int) ≤ (xs.length : Int) + 1 := by omega
  have p2 : (xs.length : Int) + 1 ≤ m := by omega
  go_enter Tryz.func43, Tryz.ntmps43
  go_wp2_with fail
  refine (HS.out).mono ?_
  rintro e w1 ⟨rfl, hb⟩
  obtain ⟨bd, rfl, hc0⟩ := Arr.at_ (Arr.below HC.out hb) nf_len xs.length (by simp [HPL.out]) (by omega)
  have c0 := hc0 0 (Value.slice b 1 k) (by rw [List.getElem_append_right (by rw [HPL.out]; exact Nat.le_refl _)]; simp [nf])
  clear hc0
  simp only [Nat.add_zero] at c0
  go_wp2_with fail
  go_ret
  exact ⟨rfl, hb⟩

/-- What a lent list of numbers is. -/
def LentI (w : World) (lo : Nat) (B : Option Addr) (l : List Int) (m : Nat) : Prop := l.length + 1 ≤ m ∧ w.ownsRow lo 3 1 (.slice B (l.length + 1) m) (l.length + 1) (enc ic (l ++ [-77]))
theorem LentI.below {w w' : World} {lo : Nat} {B : Option Addr} {l : List Int} {m : Nat} (h : LentI w lo B l m) (hb : Below w.heap.size w w') : LentI w' lo B l m := ⟨h.1, own_below h.2 hb⟩
theorem LentI.low {w : World} {lo lo' : Nat} {B : Option Addr} {l : List Int} {m : Nat} (h : LentI w lo B l m) (hl : lo' ≤ lo) : LentI w lo' B l m := ⟨h.1, own_lower h.2 hl⟩
theorem LentN.low {w : World} {lo lo' : Nat} {B : Option Addr} {xs : List Nd} {m : Nat} (h : LentN w lo B xs m) (hl : lo' ≤ lo) : LentN w lo' B xs m := by
  obtain ⟨ps, b, k, v, h0, h1, h2⟩ := h
  exact ⟨ps, b, k, v, h0, own_lower h1 hl, h2.low hl⟩
theorem staysI_lent (A B : Option Addr) (l : List Int) (c m lo : Nat) (w : World) (hl : Arr w ic 1 A l) (hm : LentI w lo B l m) (hn : l.length ≤ 100000) :
    Calls Tryz.prog 42 #[.slice B l.length m, .slice A l.length c] w fun e w' => e = .returned (.bool true) ∧ Below w.heap.size w w' := by
  refine staysI_any A B l c m w hl ?_ hn hm.1
  have h := Reads.of_own hm.2
  show Reads w 1 B (l ++ [(-77 : Int)]).length _
  simp only [List.length_append, List.length_singleton]
  exact h
set_option maxRecDepth 100000 in
set_option maxHeartbeats 4000000 in
theorem staysG_any (A B C D : Option Addr) (g : Gr) (a b c d lo : Nat) (w : World) (hA : Ints w A g.roots) (hB : Nodes w B g.nodes) (hC : LentI w lo C g.roots c) (hD : LentN w lo D g.nodes d)
    (h1 : g.roots.length ≤ 100000) (h2 : g.nodes.length ≤ 100000) (hx : ∀ x ∈ g.nodes, x.slots.length ≤ 100000 ∧ x.words.length ≤ 100000) :
    Calls Tryz.prog 17 #[.agg #[.slice C g.roots.length c, .slice D g.nodes.length d], .agg #[.slice A g.roots.length a, .slice B g.nodes.length b]] w fun e w' => e = .returned (.bool true) ∧ Below w.heap.size w w' := by
  have HZ := Lib.hid (below_then (below_1 w (.cells #[.slice C g.roots.length c, .slice D g.nodes.length d] 25)) (below_1 _ (.cells #[.slice A g.roots.length a, .slice B g.nodes.length b] 25)))
  have K1 := Lib.hid (fun (W : World) (hb : Below w.heap.size w W) => staysI_lent A C g.roots a c lo W (Arr.below hA.1 hb) (hC.below hb) h1)
  have K2 := Lib.hid (fun (W : World) (hb : Below w.heap.size w W) => staysN_any B D g.nodes b d lo W (hB.below hb) (hD.below hb) h2 hx)
  clear hA hB hC hD hx
  go_enter Tryz.func17, Tryz.ntmps17
  have G0 := Lib.hid ((Blk.new w 25 #[.slice C g.roots.length c, .slice D g.nodes.length d]).alloc (.cells #[.slice A g.roots.length a, .slice B g.nodes.length b] 25))
  have G1 := Lib.hid (Blk.new (w.alloc (.cells #[.slice C g.roots.length c, .slice D g.nodes.length d] 25)) 25 #[.slice A g.roots.length a, .slice B g.nodes.length b])
  go_wp2_with fail
  refine (K1.out _ HZ.out).mono ?_
  rintro e w2 ⟨rfl, hb2⟩
  have x1 := (G0.out.below hb2 G0.out.lt).cell 1
  have y1 := (G1.out.below hb2 G1.out.lt).cell 1
  simp only [World.size_alloc] at y1
  have HB2 := Lib.hid (below_then HZ.out hb2)
  clear hb2
  go_wp2_with fail
  refine (K2.out _ HB2.out).mono ?_
  rintro e w3 ⟨rfl, hb3⟩
  have HB3 := Lib.hid (below_then HB2.out hb3)
  clear hb3
  go_wp2_with fail
  go_ret
  exact ⟨rfl, HB3.out⟩

theorem graphSize2 : (Tryz.prog.info? 25).map (·.size) = some 2 := by kernel_rfl
theorem lentI_mod {w w' : World} {X lo m : Nat} {cs : Array Value} {C : Option Addr} {l : List Int} (hX : Blk w X 25 cs) (h : LentI w lo C l m) (hm : Mod (fun b => some X = some b) w w') : LentI w' lo C l m :=
  ⟨h.1, own_mod h.2 hm (fun k hk hS => by
    injection hS with hS
    subst hS
    exact own_blk_ne h.2 hX (by decide) hk)⟩
theorem lentN_mod {w w' : World} {X lo m : Nat} {cs : Array Value} {D : Option Addr} {xs : List Nd} (hX : Blk w X 25 cs) (h : LentN w lo D xs m) (hm : Mod (fun b => some X = some b) w w') : LentN w' lo D xs m := by
  obtain ⟨ps, b, k, v, h0, h1, h2⟩ := h
  refine ⟨ps, b, k, v, h0, own_mod h1 hm (fun k hk hS => ?_), h2.mod hm (fun b hS => .inr ?_)⟩
  · injection hS with hS
    subst hS
    exact own_blk_ne h1 hX (by decide) hk
  · injection hS with hS
    subst hS
    exact NotInt.of_blk hX (by decide)

set_option maxRecDepth 100000 in
set_option maxHeartbeats 4000000 in
theorem lentG_any (A B : Option Addr) (g : Gr) (a b : Nat) (w : World) (hA : Ints w A g.roots) (hB : Nodes w B g.nodes) (h1 : g.roots.length ≤ 100000) (h2 : g.nodes.length ≤ 100000) (hx : ∀ x ∈ g.nodes, x.slots.length ≤ 100000 ∧ x.words.length ≤ 100000) :
    Calls Tryz.prog 7 #[.agg #[.slice A g.roots.length a, .slice B g.nodes.length b]] w fun e w' =>
      ∃ C c D d, e = .returned (.agg #[.slice C g.roots.length c, .slice D g.nodes.length d]) ∧ LentI w' w.heap.size C g.roots c ∧ LentN w' w.heap.size D g.nodes d ∧ Below w.heap.size w w' := by
  have HZ := Lib.hid (below_then (below_1 w (.cells #[.slice A g.roots.length a, .slice B g.nodes.length b] 25)) (below_1 _ (.cells #[.slice none 0 0, .slice none 0 0] 25)))
  have K1 := Lib.hid (fun (W : World) (hb : Below w.heap.size w W) => lentI_any A g.roots a W (Arr.below hA.1 hb) h1)
  have K2 := Lib.hid (fun (W : World) (hb : Below w.heap.size w W) => lentN_any B g.nodes b W (hB.below hb) h2 hx)
  have G0 := Lib.hid ((Blk.new w 25 #[.slice A g.roots.length a, .slice B g.nodes.length b]).alloc (.cells #[.slice none 0 0, .slice none 0 0] 25))
  have G1 := Lib.hid (Blk.new (w.alloc (.cells #[.slice A g.roots.length a, .slice B g.nodes.length b] 25)) 25 #[.slice none 0 0, .slice none 0 0])
  clear hA hB hx
  go_enter Tryz.func7, Tryz.ntmps7
  go_wp2_with fail
  have x0 := G0.out.cell 0
  have x1 := G0.out.cell 1
  have zl0 := G0.out.lt
  have zl1 := G1.out.lt
  go_region_law (first
    | ((try go_simp)
       go_at_call 23
       revert HI; intro HI
       refine (K2.out _ ?_).mono ?_
       (first | exact hD | exact hD.drew | exact hD.drew.drew | exact hD.drew.drew.drew)
       rintro e w3 ⟨D, d, rfl, hn, hb3⟩
       have HN := Lib.hid hn
       have HI2 := Lib.hid (HI.out.below hb3)
       have hD2 := below_then (show Below w.heap.size w _ by (first | exact hD | exact hD.drew | exact hD.drew.drew | exact hD.drew.drew.drew)) hb3
       have G3 := Lib.hid (Blk.below (by first | exact G2.out | exact G2.out.drewN 1 | exact G2.out.drewN 2) hb3 G2.out.lt)
       have y0 := G3.out.cell 0
       have y1 := G3.out.cell 1
       have f0 := G3.out.frozen 0
       have f1 := G3.out.frozen 1
       simp only [World.size_alloc] at y0 y1 f0 f1)
    | ((try go_simp)
       go_at_call 22
       refine (K1.out _ ?_).mono ?_
       (first | exact HZ.out | exact HZ.out.drew | exact HZ.out.drew.drew | exact HZ.out.drew.drew.drew)
       rintro e w2 ⟨C, c, rfl, hc, ho, hb2⟩
       have HI := Lib.hid (show LentI w2 _ C g.roots c from ⟨hc, ho⟩)
       have hD := below_then (show Below w.heap.size w _ by (first | exact HZ.out | exact HZ.out.drew | exact HZ.out.drew.drew | exact HZ.out.drew.drew.drew)) hb2
       have G2 := Lib.hid (Blk.below (by first | exact G1.out | exact G1.out.drewN 1 | exact G1.out.drewN 2 | exact G1.out.drewN 3) hb2 G1.out.lt)
       have x0 := (hb2.cell (cell_lt x0)).trans x0
       have x1 := (hb2.cell (cell_lt x1)).trans x1))
  all_goals
    go_wp2_with fail
    have hm := mod_set2 w3 (w.heap.size + 1) 0 (.slice C g.roots.length c) (.slice D g.nodes.length d)
    have hB := (G3.out.set_ 0 (.slice C g.roots.length c)).set_ 1 (.slice D g.nodes.length d)
    have G4 := G3.out
    simp only [World.size_alloc] at hB G4
    have hs1 : ∀ b, some (w.heap.size + 1) = some b → w.heap.size ≤ b := fun b h => by
      injection h with h
      omega
    refine bodyPost_ret (v := .agg #[.slice C g.roots.length c, .slice D g.nodes.length d]) (results_cell_row rfl _ _ (w.heap.size + 1) 25 _ (0, 0) _ rfl hB Tryz.underlying25 rfl graphSize2) rfl ?_
    exact ⟨C, c, D, d, rfl, (lentI_mod G4 HI2.out hm).low (by simp; omega), (lentN_mod G4 HN.out hm).low hD.size, bel_modg hD2 hm hs1⟩
end Go.Proofs.YteminkohgagedaaGreat.BkNodes
namespace Go.Proofs.YteminkohgagedaaGreat.BkNodes
open Go.RowKit Go.Proofs.YteminkohgagedaaGreat.Base Go.Proofs.YteminkohgagedaaGreat.Bk Go.Proofs.YteminkohgagedaaGreat.Gr
set_option linter.unusedVariables false
set_option linter.unusedSimpArgs false

/-- A graph by value whose rows are all its own, from lo on, as cells. -/
def DeepG (w : World) (lo : Nat) (A : Option Addr) (a : Nat) (D : Option Addr) (d : Nat) (ps : List NC) (g : Gr) : Prop :=
  w.ownsRow lo 3 1 (.slice A g.roots.length a) g.roots.length (enc ic g.roots) ∧ w.ownsRow lo 55 2 (.slice D g.nodes.length d) g.nodes.length (enc nf ps) ∧ Deeps w lo ps g.nodes
theorem DeepG.below {w w' : World} {lo : Nat} {A : Option Addr} {a : Nat} {D : Option Addr} {d : Nat} {ps : List NC} {g : Gr} (h : DeepG w lo A a D d ps g) (hb : Below w.heap.size w w') : DeepG w' lo A a D d ps g := ⟨own_below h.1 hb, own_below h.2.1 hb, h.2.2.below hb⟩
theorem DeepG.low {w : World} {lo lo' : Nat} {A : Option Addr} {a : Nat} {D : Option Addr} {d : Nat} {ps : List NC} {g : Gr} (h : DeepG w lo A a D d ps g) (hl : lo' ≤ lo) : DeepG w lo' A a D d ps g := ⟨own_lower h.1 hl, own_lower h.2.1 hl, h.2.2.low hl⟩
theorem DeepG.mod {S : Nat → Prop} {w w' : World} {lo : Nat} {A : Option Addr} {a : Nat} {D : Option Addr} {d : Nat} {ps : List NC} {g : Gr} (h : DeepG w lo A a D d ps g) (hm : Mod S w w') (hS : ∀ b, S b → b < lo) : DeepG w' lo A a D d ps g :=
  ⟨Bk.own_mod h.1 hm (fun k hk hs => by have h1 := (own_block h.1 k hk).1; have h2 := hS k hs; omega), Bk.own_mod h.2.1 hm (fun k hk hs => by have h1 := (own_block h.2.1 k hk).1; have h2 := hS k hs; omega), h.2.2.mod hm (fun b hb => .inl (hS b hb))⟩
theorem DeepG.ints {w : World} {lo : Nat} {A : Option Addr} {a : Nat} {D : Option Addr} {d : Nat} {ps : List NC} {g : Gr} (h : DeepG w lo A a D d ps g) (hl : g.roots.length ≤ 100000) : Ints w A g.roots := Ints.of_own h.1 (by omega)
theorem DeepG.nodes {w : World} {lo : Nat} {A : Option Addr} {a : Nat} {D : Option Addr} {d : Nat} {ps : List NC} {g : Gr} (h : DeepG w lo A a D d ps g) (hl : g.nodes.length ≤ 100000) : Nodes w D g.nodes := by
  refine nodes_of ?_ h.2.2 hl
  have h1 := Reads.of_own h.2.1
  have : ps.length = g.nodes.length := h.2.2.1
  show Reads w 2 D ps.length _
  rw [this]
  exact h1
/-- What the book holds of k graphs. -/
structure KOK (K : Kept) (k : Nat) : Prop where
  i : K.vI.length = k
  n : K.vN.length = k
  li : ∀ i, (K.cI i).length ≤ 90000
  ln : ∀ i, (K.cN i).length ≤ 90000
  d : ∀ i, ∀ x ∈ K.d i, x.slots.length ≤ 100000 ∧ x.words.length ≤ 100000
theorem KOK.nil : KOK keptNil 0 := ⟨rfl, rfl, fun i => by simp [keptNil], fun i => by simp [keptNil], fun i x hx => by simp [keptNil] at hx⟩
theorem book_graph {V : Nat → Prop} {w0 w : World} {X k lo : Nat} {K : Kept} {A D : Option Addr} {a d : Nat} {ps : List NC} {x : Gr} (h : BookG V w0 w X K) (hk : KOK K k) (hk2 : k < 250) (hd : DeepG w lo A a D d ps x) (hlo : ∀ b, InG K.vI K.vN b → b < lo) (hw0 : ∀ b, ((Value.slice A x.roots.length a).ownBlock = some b ∨ (Value.slice D x.nodes.length d).ownBlock = some b) → V b) (hr : x.roots.length ≤ 90000 ∧ x.nodes.length ≤ 90000) (hx : ∀ y ∈ x.nodes, y.slots.length ≤ 100000 ∧ y.words.length ≤ 100000) :
    Calls Tryz.prog 10 #[.pointer (some ⟨X, 0, none⟩), .agg #[.slice A x.roots.length a, .slice D x.nodes.length d]] w fun e w' => e = .returned (.tuple #[]) ∧ (∃ K', BookG V w0 w' X K' ∧ KOK K' (k + 1)) ∧ Kind w w' := by
  obtain ⟨o1, o2, o3⟩ := hd
  have hpl : x.nodes.length = ps.length := o3.1.symm
  rw [hpl] at o2 ⊢
  have b1 := fun b hb => (own_block o1 b hb).1
  have b2 := fun b hb => (own_block o2 b hb).1
  refine (graph_add h A D a d x.roots ps x.nodes (o3.low (Nat.zero_le _)) hx (own_lower o1 (Nat.zero_le _)) (own_lower o2 (Nat.zero_le _)) (fun b hb hi => by have := b1 b hb; have := hlo b hi; omega) (fun b hb hi => by have := b2 b hb; have := hlo b hi; omega) (fun b hb => hw0 b (.inl hb)) (fun b hb => hw0 b (.inr (by rw [hpl]; exact hb))) (by omega) (by omega) (by rw [hk.i]; exact hk2) (by rw [hk.n]; exact hk2)).mono ?_
  rintro e w' ⟨rfl, hb, hkd⟩
  refine ⟨rfl, ⟨_, hb, ⟨?_, ?_, fun i => ?_, fun i => ?_, fun i y hy => ?_⟩⟩, hkd⟩
  · simp [Kept.graph, hk.i]
  · simp [Kept.graph, hk.n]
  · simp only [Kept.graph, BkInts.more]
    split
    · exact hr.1
    · exact hk.li i
  · simp only [Kept.graph, more]
    split
    · omega
    · exact hk.ln i
  · simp only [Kept.graph, moreD] at hy
    split at hy
    · exact hx y hy
    · exact hk.d i y hy
theorem LentI.ints {w : World} {lo : Nat} {B : Option Addr} {l : List Int} {m : Nat} (h : LentI w lo B l m) (hl : l.length ≤ 100000) : Ints w B l := by
  refine ⟨?_, by omega⟩
  have hr := Reads.of_own h.2
  have h2 : Arr w ic 1 B (l ++ [-77]) := by
    show Reads w 1 B (l ++ [(-77 : Int)]).length _
    simp only [List.length_append, List.length_singleton]
    exact hr
  exact arr_pre ic_len h2
theorem LentN.nodes {w : World} {lo : Nat} {B : Option Addr} {xs : List Nd} {m : Nat} (h : LentN w lo B xs m) (hl : xs.length ≤ 100000) : Nodes w B xs := by
  obtain ⟨ps, b, k, v, hc, ho, hd⟩ := h
  have hpl : ps.length = xs.length := hd.1
  have hR : Arr w nf 2 B (ps ++ [(.slice b 1 k, v)]) := by
    have h := Reads.of_own ho
    show Reads w 2 B (ps ++ [((Value.slice b 1 k, v) : NC)]).length _
    simp only [List.length_append, List.length_singleton, hpl]
    exact h
  exact nodes_of (arr_pre nf_len hR) hd hl

/-- The first cells of a row are one. -/
theorem own_prefix {w : World} {lo e s n m c : Nat} {A : Option Addr} {xs ys : List Value} (h : w.ownsRow lo e s (.slice A n c) n (xs ++ ys)) (hx : xs.length = m * s) (hm : m ≤ n) : w.ownsRow lo e s (.slice A m c) m xs := by
  obtain ⟨h1, h2⟩ := h
  refine ⟨hx, ?_⟩
  rcases h2 with ⟨h2, h3⟩ | ⟨g, cap, cur, h2, hg, hh, hn, hc, hs, ht⟩
  · injection h2 with e1 e2 e3
    subst e1 e3
    have : m = 0 := by omega
    subst this
    exact .inl ⟨rfl, rfl⟩
  · injection h2 with e1 e2 e3
    subst e1 e3
    have hle : m * s ≤ n * s := Nat.mul_le_mul_right _ hm
    refine .inr ⟨g, c, cur, rfl, hg, hh, Nat.le_trans hm hn, hc, hs, ?_⟩
    have e : (cur.toList.take (n * s)).take (m * s) = xs := by
      rw [ht, List.take_append_of_le_length (by omega), List.take_of_length_le (by omega)]
    rw [List.take_take, Nat.min_eq_left hle] at e
    exact e
theorem lent_deep {w : World} {lo : Nat} {M N : Option Addr} {m n : Nat} {g : Gr} (h1 : LentI w lo M g.roots m) (h2 : LentN w lo N g.nodes n) : ∃ ps, DeepG w lo M m N n ps g := by
  obtain ⟨ps, b, k, v, hc, ho, hd⟩ := h2
  refine ⟨ps, ?_, ?_, hd⟩
  · have h := h1.2
    rw [enc_append] at h
    exact own_prefix h (enc_len ic_len _) (Nat.le_succ _)
  · rw [enc_append] at ho
    exact own_prefix ho (by rw [enc_len nf_len, hd.1]) (Nat.le_succ _)
end Go.Proofs.YteminkohgagedaaGreat.BkNodes
