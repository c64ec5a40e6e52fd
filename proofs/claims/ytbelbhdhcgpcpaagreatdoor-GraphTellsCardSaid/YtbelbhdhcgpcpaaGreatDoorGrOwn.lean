/- graph.own: a copy of a graph whose lists are all its own. -/
import Derived.Test.YtbelbhdhcgpcpaaGreatDoorBkNodes3
import Derived.Test.YtbelbhdhcgpcpaaGreatDoorGrTop
import Derived.Test.YtbelbhdhcgpcpaaGreatDoorGrBoxes
namespace Go.Proofs.YtbelbhdhcgpcpaaGreatDoor.BkNodes
open Go.RowKit Go.Proofs.YtbelbhdhcgpcpaaGreatDoor.Base Go.Proofs.YtbelbhdhcgpcpaaGreatDoor.Bk Go.Proofs.YtbelbhdhcgpcpaaGreatDoor.Gr
set_option linter.unusedVariables false
set_option linter.unusedSimpArgs false

theorem nodes_len0 {w : World} {A : Option Addr} {xs : List Nd} (h : Nodes w A xs) (hA : A = none) : xs.length = 0 := by
  rcases Nat.eq_zero_or_pos xs.length with h0 | h0
  · exact h0
  · obtain ⟨ad, e, _⟩ := h.2 0 h0
    rw [hA] at e; cases e
set_option maxRecDepth 100000 in
theorem clonen_any (A : Option Addr) (rs : List NC) (n c : Nat) (w : World) (hr : Reads w 2 A n (enc nf rs)) (ho : ∀ u ∈ enc nf rs, u.oneCell' = true) (hA : A = none → n = 0) (hl : n ≤ 100000) :
    Calls Tryz.prog 72 #[.slice A n c] w fun e w' => ∃ B d, e = .returned (.slice B n d) ∧ w'.ownsRow w.heap.size 45 2 (.slice B n d) n (enc nf rs) ∧ Below w.heap.size w w' := by
  obtain ⟨i0, hi0, hz0, hz1, hz2⟩ := info_parts1 BkNodes.nodeInfo
  have qT : ∀ (a : Option Addr) (n c : Nat) (w : World), (binOp .eql 23 (.slice a n c) (.slice none 0 0)).run Tryz.prog w = .ok (.bool a.isNone) w := fun a n c w => Lib.run_eql_slice_nil w _ _ _ _ _ _ _ Tryz.underlying23
  rcases A with _ | ad
  · have hn0 : n = 0 := hA rfl
    subst hn0
    have hrn : enc nf rs = [] := List.eq_nil_of_length_eq_zero (by rw [hr.1])
    rw [hrn]
    clear hr ho hA hrn
    go_enter Tryz.func72, Tryz.ntmps72
    go_wp2
    go_ret
    exact ⟨none, 0, rfl, own_nil _ _ _ _, Below.refl _ _⟩
  · have HR := Lib.hid hr
    have HO := Lib.hid ho
    clear hr ho hA
    go_enter Tryz.func72, Tryz.ntmps72
    go_wp2_with (refine wpList_append_any _ (by rfl) _ _ _ (by rfl) w.heap.size 45 i0 _ 2 48 Tryz.underlying23 hi0 hz0 hz1 hz2 rfl (by omega) _ 0 [] (by rfl) (own_new' w w.heap.size 45 2 0 #[] (Nat.le_refl _) rfl (by simp [maxLen])) _ n c (enc nf rs) (by rfl) (HR.out.below (below_new _ _)) HO.out (fun e => by cases e) (by simp only [maxLen]; omega) (by omega) (by simp) ?_; intro v4 w4 hown4 hg4 hat4)
    go_ret
    rw [Nat.zero_add, List.nil_append] at hown4
    obtain ⟨B, d, rfl, hd⟩ := own_form hown4
    refine ⟨B, d, rfl, hown4, ?_⟩
    refine (below_new w _).grown hg4 (by simp) ?_
    intro b hb
    simp [Value.ownBlock] at hb
    omega

/-- A graph by value whose rows are all its own, from lo on, as cells. -/
def DeepG (w : World) (lo : Nat) (A : Option Addr) (a : Nat) (D : Option Addr) (d : Nat) (ps : List NC) (g : Gr) : Prop :=
  w.ownsRow lo 3 1 (.slice A g.roots.length a) g.roots.length (enc ic g.roots) ∧ w.ownsRow lo 45 2 (.slice D g.nodes.length d) g.nodes.length (enc nf ps) ∧ Deeps w lo ps g.nodes
theorem DeepG.below {w w' : World} {lo : Nat} {A : Option Addr} {a : Nat} {D : Option Addr} {d : Nat} {ps : List NC} {g : Gr} (h : DeepG w lo A a D d ps g) (hb : Below w.heap.size w w') : DeepG w' lo A a D d ps g := ⟨own_below h.1 hb, own_below h.2.1 hb, h.2.2.below hb⟩
theorem DeepG.low {w : World} {lo lo' : Nat} {A : Option Addr} {a : Nat} {D : Option Addr} {d : Nat} {ps : List NC} {g : Gr} (h : DeepG w lo A a D d ps g) (hl : lo' ≤ lo) : DeepG w lo' A a D d ps g := ⟨own_lower h.1 hl, own_lower h.2.1 hl, h.2.2.low hl⟩
theorem DeepG.mod {S : Nat → Prop} {w w' : World} {lo : Nat} {A : Option Addr} {a : Nat} {D : Option Addr} {d : Nat} {ps : List NC} {g : Gr} (h : DeepG w lo A a D d ps g) (hm : Mod S w w') (hS : ∀ b, S b → b < lo) : DeepG w' lo A a D d ps g :=
  ⟨Bk.own_mod h.1 hm (fun k hk hs => by have h1 := (own_block h.1 k hk).1; have h2 := hS k hs; omega), Bk.own_mod h.2.1 hm (fun k hk hs => by have h1 := (own_block h.2.1 k hk).1; have h2 := hS k hs; omega), h.2.2.mod hm (fun b hb => .inl (hS b hb))⟩
theorem DeepG.ints {w : World} {lo : Nat} {A : Option Addr} {a : Nat} {D : Option Addr} {d : Nat} {ps : List NC} {g : Gr} (h : DeepG w lo A a D d ps g) (hl : g.roots.length ≤ 100000) : Ints w A g.roots := Ints.of_own h.1 (by omega)
theorem DeepG.nodes {w : World} {lo : Nat} {A : Option Addr} {a : Nat} {D : Option Addr} {d : Nat} {ps : List NC} {g : Gr} (h : DeepG w lo A a D d ps g) (hl : g.nodes.length ≤ 100000) : Nodes w D g.nodes := by
  refine nodes_of ?_ h.2.2 hl
  have h1 := Reads.of_own h.2.1
  have : ps.length = g.nodes.length := h.2.2.1
  show Reads w 2 D ps.length _
  rw [this]
  exact h1
theorem enc_pairs (n : Nat) : ∀ xs : List Value, xs.length = n * 2 → ∃ ps : List NC, ps.length = n ∧ enc nf ps = xs := by
  induction n with
  | zero => intro xs h; exact ⟨[], rfl, by have : xs = [] := List.eq_nil_of_length_eq_zero (by omega); rw [this]; rfl⟩
  | succ n ih =>
    intro xs h
    match xs, h with
    | a :: b :: l, h =>
      obtain ⟨ps, h1, h2⟩ := ih l (by simp only [List.length_cons] at h; omega)
      exact ⟨(a, b) :: ps, by simp [h1], by rw [← h2]; rfl⟩
    | [a], h => simp at h; omega
    | [], h => simp at h
theorem enc_at {ps : List NC} {i : Nat} {p : NC} (h : ps[i]? = some p) : (enc nf ps)[i * 2]? = some p.1 ∧ (enc nf ps)[i * 2 + 1]? = some p.2 := by
  have hi : i < ps.length := by
    rcases Nat.lt_or_ge i ps.length with h' | h'
    · exact h'
    · rw [List.getElem?_eq_none h'] at h; cases h
  have h0 := enc_get nf_len ps i hi 0 (by omega)
  have h1 := enc_get nf_len ps i hi 1 (by omega)
  rw [List.getElem?_eq_getElem hi] at h
  injection h with h
  rw [h] at h0 h1
  exact ⟨h0, h1⟩
theorem OwnG.deep {lo : Nat} {w : World} {v : Value} {g : Gr} (h : OwnG lo w v g) (hx : ∀ x ∈ g.nodes, x.slots.length ≤ 100000 ∧ x.words.length ≤ 100000) :
    ∃ A a D d ps, v = .agg #[.slice A g.roots.length a, .slice D g.nodes.length d] ∧ DeepG w lo A a D d ps g := by
  obtain ⟨A, a, D, d, xs, rfl, o1, o2, o3⟩ := h
  obtain ⟨ps, hpl, rfl⟩ := enc_pairs g.nodes.length xs (by rw [o2.1])
  refine ⟨A, a, D, d, ps, rfl, o1, o2, hpl, fun i p x hp hxi => ?_⟩
  have hi : i < g.nodes.length := by
    rcases Nat.lt_or_ge i g.nodes.length with h' | h'
    · exact h'
    · rw [List.getElem?_eq_none h'] at hxi; cases hxi
  have hxe : g.nodes[i] = x := by rw [List.getElem?_eq_getElem hi] at hxi; injection hxi
  obtain ⟨B, b, C, c, x1, x2, y1, y2⟩ := o3 i hi
  have hxx := hx _ (List.getElem_mem hi)
  rw [hxe] at x1 x2 y1 y2 hxx
  obtain ⟨p1, p2⟩ := enc_at hp
  rw [p1] at x1
  rw [p2] at x2
  injection x1 with x1
  injection x2 with x2
  exact ⟨⟨hxx.1, B, b, x1, y1⟩, ⟨hxx.2, C, c, x2, y2⟩⟩

/-- What own holds while it goes over the nodes. -/
structure OwnC (w wr : World) (X p2 : Nat) (A : Option Addr) (a : Nat) (D : Option Addr) (d : Nat) (ps rs : List NC) (g : Gr) (k : Nat) : Prop where
  row : wr.ownsRow w.heap.size 45 2 (.slice D g.nodes.length d) g.nodes.length (enc nf (ps ++ rs.drop k))
  deep : Deeps wr w.heap.size ps (g.nodes.take k)
  len : ps.length = k
  roots : wr.ownsRow w.heap.size 3 1 (.slice A g.roots.length a) g.roots.length (enc ic g.roots)
  out : Blk wr X 25 #[.slice A g.roots.length a, .slice D g.nodes.length d]
  res : Blk wr p2 25 #[.slice none 0 0, .slice none 0 0]
  below : Below w.heap.size w wr
  lo : w.heap.size ≤ X
  lo2 : w.heap.size ≤ p2
  ne : p2 ≠ X
theorem like_below0 {w w' : World} (h : Like w w') : Below w.heap.size w w' := below_like (Below.refl _ _) h
theorem own_start {w w2 W W3 : World} {A : Option Addr} {a : Nat} {D : Option Addr} {d : Nat} {rs : List NC} {g : Gr}
    (hr : w2.ownsRow w.heap.size 3 1 (.slice A g.roots.length a) g.roots.length (enc ic g.roots)) (hn : W.ownsRow w.heap.size 45 2 (.slice D g.nodes.length d) g.nodes.length (enc nf rs)) (hb : Below w2.heap.size w2 W)
    (hG : Blk W (w.heap.size + 1) 25 #[.slice none 0 0, .slice none 0 0]) (hw : Below w.heap.size w W)
    (hl : Like (W.alloc (.cells #[.slice A g.roots.length a, .slice D g.nodes.length d] 25)) W3) : OwnC w W3 W.heap.size (w.heap.size + 1) A a D d [] rs g 0 := by
  have h0 := below_like (below_new W (.cells #[.slice A g.roots.length a, .slice D g.nodes.length d] 25)) hl
  have hlt := hG.lt
  refine ⟨own_below hn h0, Deeps.nil _ _, rfl, own_below (own_below hr hb) h0, Blk.like (Blk.new _ _ _) hl, hG.below h0 hG.lt, hw.trans (h0.mono hw.size), hw.size, by omega, by omega⟩
theorem own_start2 {w w2 W W3 : World} {X : Nat} {A : Option Addr} {a : Nat} {D : Option Addr} {d : Nat} {rs : List NC} {g : Gr}
    (hr : w2.ownsRow w.heap.size 3 1 (.slice A g.roots.length a) g.roots.length (enc ic g.roots)) (hn : W.ownsRow w.heap.size 45 2 (.slice D g.nodes.length d) g.nodes.length (enc nf rs)) (hb : Below w2.heap.size w2 W)
    (hG : Blk W (w.heap.size + 1) 25 #[.slice none 0 0, .slice none 0 0]) (hw : Below w.heap.size w W) (hX : Blk W X 25 #[.slice none 0 0, .slice none 0 0]) (hX1 : w.heap.size + 1 < X)
    (hl : Like ((W.setCell ⟨X, 0, none⟩ (.slice A g.roots.length a)).setCell ⟨X, 1, none⟩ (.slice D g.nodes.length d)) W3) : OwnC w W3 X (w.heap.size + 1) A a D d [] rs g 0 := by
  have hm : Mod (fun b => some X = some b) W W3 := Mod.like (mod_set2 W X 0 (.slice A g.roots.length a) (.slice D g.nodes.length d)) hl
  have hbX := (hX.set_ 0 (.slice A g.roots.length a)).set_ 1 (.slice D g.nodes.length d)
  have hX' := Blk.like hbX hl
  have hne : ∀ {e s n : Nat} {u : Value} {xs : List Value}, W.ownsRow w.heap.size e s u n xs → e ≠ 25 → W3.ownsRow w.heap.size e s u n xs := fun {e s n u xs} ho he =>
    Bk.own_mod ho hm (fun k hk e' => by injection e' with e'; subst e'; exact own_blk_ne ho hX he hk)
  refine ⟨hne hn (by decide), Deeps.nil _ _, rfl, hne (own_below hr hb) (by decide), hX', hG.mod hm (fun e => by injection e with e; omega), ?_, by omega, by omega, by omega⟩
  exact ⟨hm.os.trans hw.os, hm.tape.trans hw.tape, hm.output.trans hw.output, Nat.le_trans hw.size hm.size, fun i hi => (hm.block i (Nat.lt_of_lt_of_le hi hw.size) (fun e => by injection e with e; omega)).trans (hw.block i hi)⟩
theorem own_turn {w wr w6 : World} {X p2 : Nat} {A : Option Addr} {a : Nat} {D : Option Addr} {d : Nat} {ps rs : List NC} {g : Gr} {k q : Nat} {B5 B6 : Option Addr} {d5 d6 : Nat} {y : NC} {x : Nd}
    (h : OwnC w wr X p2 A a D d ps rs g k) (hb : Below wr.heap.size wr w6) (hq : (Value.slice D g.nodes.length d).ownBlock = some q) (hd : rs.drop k = y :: rs.drop (k + 1)) (hk : g.nodes.take (k + 1) = g.nodes.take k ++ [x]) (hx : x.slots.length ≤ 100000 ∧ x.words.length ≤ 100000)
    (h5 : w6.ownsRow w.heap.size 3 1 (.slice B5 x.slots.length d5) x.slots.length (enc ic x.slots)) (h6 : w6.ownsRow w.heap.size 3 1 (.slice B6 x.words.length d6) x.words.length (enc ic x.words)) :
    OwnC w ((w6.setCell ⟨q, k * 2, none⟩ (.slice B5 x.slots.length d5)).setCell ⟨q, k * 2 + 1, none⟩ (.slice B6 x.words.length d6)) X p2 A a D d (ps ++ [((.slice B5 x.slots.length d5, .slice B6 x.words.length d6) : NC)]) rs g (k + 1) := by
  have hel : (enc nf ps).length = k * 2 := by rw [enc_len nf_len, h.len]
  have ho6 := own_below h.row hb
  rw [hd, enc_append] at ho6
  have hge : w.heap.size ≤ q := (own_block h.row q hq).1
  obtain ⟨y1, y2⟩ := y
  have hen : enc nf ps ++ enc nf ((y1, y2) :: rs.drop (k + 1)) = enc nf ps ++ y1 :: y2 :: enc nf (rs.drop (k + 1)) := rfl
  rw [hen] at ho6
  have hni : NotInt w6 q := NotInt.of_own ho6 (by decide) hq
  have hs1 := Bk.own_set (q := k * 2) (u := .slice B5 x.slots.length d5) ho6 hq (by rw [List.length_append, hel]; simp)
  rw [set_mid _ _ _ _ _ hel] at hs1
  have hs2 := Bk.own_set (q := k * 2 + 1) (u := .slice B6 x.words.length d6) hs1 hq (by rw [List.length_append, hel]; simp)
  have hal : (enc nf ps ++ [Value.slice B5 x.slots.length d5]).length = k * 2 + 1 := by rw [List.length_append, hel]; rfl
  rw [show enc nf ps ++ Value.slice B5 x.slots.length d5 :: y2 :: enc nf (rs.drop (k + 1)) = (enc nf ps ++ [Value.slice B5 x.slots.length d5]) ++ y2 :: enc nf (rs.drop (k + 1)) from by simp, set_mid _ _ _ _ _ hal] at hs2
  have hm := mod_set2 w6 q (k * 2) (.slice B5 x.slots.length d5) (.slice B6 x.words.length d6)
  have hS : ∀ b, some q = some b → b < w.heap.size ∨ NotInt w6 b := fun b e => by injection e with e; subst e; exact .inr hni
  have hnX : ∀ {b : Nat} {cs : Array Value}, Blk w6 b 25 cs → ¬ (some q = some b) := fun {b cs} hB e => by
    injection e with e
    subst e
    exact own_blk_ne ho6 hB (by decide) hq
  have o6 := h.out.below hb h.out.lt
  have r6 := h.res.below hb h.res.lt
  refine ⟨?_, ?_, by simp [h.len], ?_, o6.mod hm (hnX o6), r6.mod hm (hnX r6), ?_, h.lo, h.lo2, h.ne⟩
  · rw [List.append_assoc, enc_append]
    simpa [enc, nf] using hs2
  · rw [hk]
    exact Deeps.mod ((h.deep.below hb).app (Deeps.one ⟨⟨hx.1, B5, d5, rfl, h5⟩, ⟨hx.2, B6, d6, rfl, h6⟩⟩)) hm hS
  · exact Bk.own_mod (own_below h.roots hb) hm (fun b hb' e => by injection e with e; subst e; exact own_type (own_below h.roots hb) ho6 (by decide) _ hb' hq)
  · exact ((h.below.trans (hb.mono h.below.size)).setCell hge _).setCell hge _

set_option maxRecDepth 100000 in
set_option maxHeartbeats 4000000 in
theorem own_any (A D : Option Addr) (g : Gr) (c d : Nat) (w : World) (hA : Ints w A g.roots) (hD : Nodes w D g.nodes) (hr : g.roots.length ≤ 100000) (hn : g.nodes.length ≤ 100000) (hx : ∀ x ∈ g.nodes, x.slots.length ≤ 100000 ∧ x.words.length ≤ 100000) :
    Calls Tryz.prog 26 #[.agg #[.slice A g.roots.length c, .slice D g.nodes.length d]] w fun e w' => ∃ A' a' D' d' ps, e = .returned (.agg #[.slice A' g.roots.length a', .slice D' g.nodes.length d']) ∧ DeepG w' w.heap.size A' a' D' d' ps g ∧ Below w.heap.size w w' := by
  have hb0 := box_zero w #[.slice A g.roots.length c, .slice D g.nodes.length d] 25 (.cells #[.slice none 0 0, .slice none 0 0] 25)
  have HZ := Lib.hid hb0
  obtain ⟨rs, hrr, hrl, hrs⟩ := raws hD
  have hr' : Reads w 2 D g.nodes.length (enc nf rs) := by rw [← hrl]; exact hrr
  have ho := nf_shal hrl hrs
  have K1 := Lib.hid (fun (W : World) (hb : Below w.heap.size w W) => clone_any A g.roots c W (hA.below hb))
  have K2 := Lib.hid (fun (W : World) (hb : Below w.heap.size w W) => clonen_any D rs g.nodes.length d W (hr'.below hb) ho (nodes_len0 hD) hn)
  have HX := Lib.hid hx
  have HRS := Lib.hid hrs
  have HRL := Lib.hid hrl
  have G0 := Lib.hid ((Blk.new w 25 #[.slice A g.roots.length c, .slice D g.nodes.length d]).alloc (.cells #[.slice none 0 0, .slice none 0 0] 25))
  have hG1 := Blk.new (w.alloc (.cells #[.slice A g.roots.length c, .slice D g.nodes.length d] 25)) 25 #[.slice none 0 0, .slice none 0 0]
  rw [World.size_alloc] at hG1
  have G1 := Lib.hid hG1
  clear hA hD hx hb0 hr' ho hrl hrs hrr hG1
  go_enter Tryz.func26, Tryz.ntmps26
  go_wp2_with fail
  have x0 := G0.out.cell 0
  have x1 := G0.out.cell 1
  have zl0 := G0.out.lt
  have zl1 := G1.out.lt
  go_upto_region 2 with fail
  go_cut [3] (fun u3 wx => ∃ (X : Nat) (A' : Option Addr) (a' : Nat) (D' : Option Addr) (d' : Nat), u3 = .pointer (some ⟨X, 0, none⟩) ∧ OwnC w wx X (w.heap.size + 1) A' a' D' d' [] rs g 0)
  case first =>
    go_region_law (first
      | ((try go_simp)
         go_at_call 72
         revert HI; intro HI
         refine (K2.out _ ?_).mono ?_
         (first | exact hD | exact hD.drew | exact hD.drew.drew | exact hD.drew.drew.drew | exact (hD.alloc hD.size _) | exact (hD.alloc hD.size _).drew | exact (hD.alloc hD.size _).drew.drew | exact (hD.alloc hD.size _).drew.drew.drew)
         rintro e w3 ⟨D3, d3, rfl, hn3, hb3⟩
         have hD2 := below_then (show Below w.heap.size w _ by (first | exact hD | exact hD.drew | exact hD.drew.drew | exact hD.drew.drew.drew | exact (hD.alloc hD.size _) | exact (hD.alloc hD.size _).drew | exact (hD.alloc hD.size _).drew.drew | exact (hD.alloc hD.size _).drew.drew.drew)) hb3
         have HN := Lib.hid (show w3.ownsRow w.heap.size _ _ _ _ _ from own_lower hn3 (Nat.le_trans hD.size (by simp)))
         have G3 := Lib.hid (Blk.below (by (first | exact G2.out | exact G2.out.drewN 1 | exact G2.out.drewN 2 | exact G2.out.drewN 3 | exact G2.out.alloc _ | exact (G2.out.alloc _).drewN 1 | exact (G2.out.alloc _).drewN 2 | exact (G2.out.alloc _).drewN 3)) hb3 (Nat.lt_of_lt_of_le G2.out.lt (by simp)))
         have HB3 := Lib.hid (show Below w2.heap.size w2 w3 from (show Below w2.heap.size w2 _ by (first | exact Below.refl _ _ | exact (Below.refl _ _).drew | exact (Below.refl _ _).drew.drew | exact below_new _ _ | exact (below_new _ _).drew | exact (below_new _ _).drew.drew)).trans (hb3.mono (by simp)))
         have zz3 : w.heap.size + 1 < w3.heap.size := G3.out.lt
         have zz4 : w.heap.size < w3.heap.size := by omega
         (first
           | (have GX3 := Lib.hid (show Blk w3 (w.heap.size + 1 + 1) 25 #[.slice none 0 0, .slice none 0 0] from Blk.below (by (first | exact GX2.out | exact GX2.out.drewN 1 | exact GX2.out.drewN 2 | exact GX2.out.drewN 3 | exact GX2.out.alloc _ | exact (GX2.out.alloc _).drewN 1 | exact (GX2.out.alloc _).drewN 2 | exact (GX2.out.alloc _).drewN 3)) hb3 (Nat.lt_of_lt_of_le GX2.out.lt (by simp)))
              have ex0 := GX3.out.cell 0
              have ex1 := GX3.out.cell 1
              have ef0 := GX3.out.frozen 0
              have ef1 := GX3.out.frozen 1
              have ez := GX3.out.lt)
           | (have GX3 := Lib.hid (show Blk w3 w2.heap.size 25 #[.slice none 0 0, .slice none 0 0] from Blk.below (by (first | exact Blk.new _ _ _ | exact (Blk.new _ _ _).drewN 1 | exact (Blk.new _ _ _).drewN 2 | exact (Blk.new _ _ _).drewN 3)) hb3 (by simp))
              have ex0 := GX3.out.cell 0
              have ex1 := GX3.out.cell 1
              have ef0 := GX3.out.frozen 0
              have ef1 := GX3.out.frozen 1
              have ez := GX3.out.lt)
           | skip))
      | ((try go_simp)
         go_at_call 71
         refine (K1.out _ ?_).mono ?_
         (first | exact HZ.out | exact HZ.out.drew | exact HZ.out.drew.drew | exact HZ.out.drew.drew.drew | exact (HZ.out.alloc HZ.out.size _) | exact (HZ.out.alloc HZ.out.size _).drew | exact (HZ.out.alloc HZ.out.size _).drew.drew | exact (HZ.out.alloc HZ.out.size _).drew.drew.drew)
         rintro e w2 ⟨vC, rfl, hi2, hb2⟩
         obtain ⟨C2, c2, rfl, hc2⟩ := own_form hi2
         have HI := Lib.hid (show w2.ownsRow w.heap.size _ _ _ _ _ from own_lower hi2 (show Below w.heap.size w _ by (first | exact HZ.out | exact HZ.out.drew | exact HZ.out.drew.drew | exact HZ.out.drew.drew.drew | exact (HZ.out.alloc HZ.out.size _) | exact (HZ.out.alloc HZ.out.size _).drew | exact (HZ.out.alloc HZ.out.size _).drew.drew | exact (HZ.out.alloc HZ.out.size _).drew.drew.drew)).size)
         have hD := below_then (show Below w.heap.size w _ by (first | exact HZ.out | exact HZ.out.drew | exact HZ.out.drew.drew | exact HZ.out.drew.drew.drew | exact (HZ.out.alloc HZ.out.size _) | exact (HZ.out.alloc HZ.out.size _).drew | exact (HZ.out.alloc HZ.out.size _).drew.drew | exact (HZ.out.alloc HZ.out.size _).drew.drew.drew)) hb2
         have G2 := Lib.hid (Blk.below (by (first | exact G1.out | exact G1.out.drewN 1 | exact G1.out.drewN 2 | exact G1.out.drewN 3 | exact G1.out.alloc _ | exact (G1.out.alloc _).drewN 1 | exact (G1.out.alloc _).drewN 2 | exact (G1.out.alloc _).drewN 3)) hb2 (Nat.lt_of_lt_of_le G1.out.lt (by simp)))
         have zz1 : w.heap.size + 1 < w2.heap.size := G2.out.lt
         have zz2 : w.heap.size < w2.heap.size := by omega
         have G02 := Lib.hid (Blk.below (by (first | exact G0.out | exact G0.out.drewN 1 | exact G0.out.drewN 2 | exact G0.out.drewN 3 | exact G0.out.alloc _ | exact (G0.out.alloc _).drewN 1 | exact (G0.out.alloc _).drewN 2 | exact (G0.out.alloc _).drewN 3)) hb2 (Nat.lt_of_lt_of_le G0.out.lt (by simp)))
         have x0 := G02.out.cell 0
         have x1 := G02.out.cell 1
         simp only [List.getElem?_toArray, List.getElem?_cons_zero, List.getElem?_cons_succ] at x0 x1
         (first
           | (have GX2 := Lib.hid (show Blk w2 (w.heap.size + 1 + 1) 25 #[.slice none 0 0, .slice none 0 0] from Blk.below (by (have hh := Blk.new ((w.alloc (.cells #[.slice A g.roots.length c, .slice D g.nodes.length d] 25)).alloc (.cells #[.slice none 0 0, .slice none 0 0] 25)) 25 #[.slice none 0 0, .slice none 0 0]; simp only [World.size_alloc] at hh; first | exact hh | exact hh.drewN 1 | exact hh.drewN 2)) hb2 (by simp)))
           | skip)))
    all_goals
      (try simp only [List.getElem?_toArray, List.getElem?_cons_zero, List.getElem?_cons_succ] at ex0 ex1)
      go_wp2_with fail
      go_meet
      (first
        | exact ⟨_, _, _, _, _, rfl, own_start HI.out HN.out HB3.out G3.out hD2 (by (first | exact like_self _ | exact like_drew (like_self _) | exact like_drew (like_drew (like_self _))))⟩
        | exact ⟨_, _, _, _, _, rfl, own_start2 HI.out HN.out HB3.out G3.out hD2 GX3.out (by have := hD.size; omega) (by (first | exact like_self _ | exact like_drew (like_self _) | exact like_drew (like_drew (like_self _))))⟩)
  case rest =>
    obtain ⟨X, A', a', D', d', rfl, hC⟩ := hcut
    have HC := Lib.hid hC
    have c0 := hC.out.cell 1
    have z0 := hC.out.lt
    simp only [List.getElem?_toArray, List.getElem?_cons_zero, List.getElem?_cons_succ] at c0
    clear hC x0 x1 zl0 zl1 G0 G1 HZ K2
    have KC := Lib.hid (fun (B : Option Addr) (l : List Int) (m : Nat) (W : World) (hI : Ints W B l) => clone_any B l m W hI)
    go_wp2_with fail
    go_loopw [16] (fun i wr => ∃ (k : Nat) (ps : List NC), k ≤ g.nodes.length ∧ i = .int .i64 (k : Int) ∧ Hid (OwnC w wr X (w.heap.size + 1) A' a' D' d' ps rs g k)) (fun i _ => g.nodes.length - (intOf i).toNat)
    case atStart => exact ⟨0, [], Nat.zero_le _, rfl, HC⟩
    case round =>
      obtain ⟨k, ps, hk, rfl, HO⟩ := hrel
      clear c0 z0 HC
      by_cases hlt : k < g.nodes.length
      · obtain ⟨p, hp, hsh⟩ := HRS.out k hlt
        have hsh2 := hsh.below HO.out.below
        obtain ⟨A1, c1, A2, c2, rfl, i1, i2⟩ := hsh2
        have hxk := HX.out _ (List.getElem_mem hlt)
        have HTK := Lib.hid (List.take_succ_eq_append_getElem hlt)
        generalize g.nodes[k] = x at i1 i2 hxk HTK hp
        have hrk : k < rs.length := by rw [HRL.out]; exact hlt
        have hdrop : rs.drop k = (.slice A1 x.slots.length c1, .slice A2 x.words.length c2) :: rs.drop (k + 1) := by
          rw [List.drop_eq_getElem_cons hrk]
          rw [List.getElem?_eq_getElem hrk] at hp
          injection hp with hp
          rw [hp]
        have hown := HO.out.row
        rw [hdrop] at hown
        have hen : enc nf (ps ++ (.slice A1 x.slots.length c1, .slice A2 x.words.length c2) :: rs.drop (k + 1)) = enc nf ps ++ .slice A1 x.slots.length c1 :: .slice A2 x.words.length c2 :: enc nf (rs.drop (k + 1)) := by
          rw [enc_append]; rfl
        rw [hen] at hown
        have hel : (enc nf ps).length = k * 2 := by rw [enc_len nf_len, HO.out.len]
        obtain ⟨q, f1, ⟨q2, f2⟩, f3, f4, f5⟩ := own_cell (q := k * 2) hown (by rw [List.getElem?_append_right (by omega), hel, Nat.sub_self]; rfl)
        injection f2 with f2 _ f2c
        subst f2
        subst f2c
        obtain ⟨_, f1', -, -, f6, f7⟩ := own_cell (q := k * 2 + 1) hown (by rw [List.getElem?_append_right (by omega), hel, show k * 2 + 1 - k * 2 = 1 by omega]; rfl)
        rw [f1] at f1'; injection f1' with f1'; subst f1'
        have HF1 := Lib.hid f1
        have HDR := Lib.hid hdrop
        have o1 := HO.out.out.cell 1
        have oz := HO.out.out.lt
        simp only [List.getElem?_toArray, List.getElem?_cons_zero, List.getElem?_cons_succ] at o1
        have C := Lib.hid (show ∀ W, Below wr.heap.size wr W → (W.cell? ⟨X, 1, none⟩ = some (.slice (some ⟨q, 0, none⟩) g.nodes.length d') ∧ X < W.heap.size) ∧ (W.cell? ⟨q, k * 2, none⟩ = some (.slice A1 x.slots.length c1) ∧ W.cell? ⟨q, k * 2 + 1, none⟩ = some (.slice A2 x.words.length c2)) ∧ W.frozen? ⟨q, k * 2, none⟩ = false ∧ W.frozen? ⟨q, k * 2 + 1, none⟩ = false ∧ q < W.heap.size from fun W hb =>
          ⟨⟨(hb.cell (p := ⟨X, 1, none⟩) oz).trans o1, Nat.lt_of_lt_of_le oz hb.size⟩, ⟨(hb.cell (p := ⟨q, k * 2, none⟩) f3).trans f4, (hb.cell (p := ⟨q, k * 2 + 1, none⟩) f3).trans f6⟩, (hb.frozen (p := ⟨q, k * 2, none⟩) f3).trans f5, (hb.frozen (p := ⟨q, k * 2 + 1, none⟩) f3).trans f7, Nat.lt_of_lt_of_le f3 hb.size⟩)
        have HI1 := Lib.hid i1
        have HI2 := Lib.hid i2
        have hb6 := below_new wr (.cells #[.slice A1 x.slots.length c1, .slice A2 x.words.length c2] 45)
        have HB6 := Lib.hid hb6
        have HN6 := Lib.hid (Blk.new wr 45 #[.slice A1 x.slots.length c1, .slice A2 x.words.length c2])
        clear hown hel hen hdrop f1 i1 i2 hp hsh hrk hb6
        go_wp2_with fail
        generalize hW6 : wr.alloc (.cells #[.slice A1 x.slots.length c1, .slice A2 x.words.length c2] 45) = W6 at HB6 HN6 ⊢
        have HW6 := Lib.hid hW6
        obtain ⟨⟨s1, s2⟩, ⟨s3, s4⟩, s5, s6, s7⟩ := C.out _ HB6.out
        have n0 := HN6.out.cell 0
        have n1 := HN6.out.cell 1
        have n2 := HN6.out.lt
        simp only [List.getElem?_toArray, List.getElem?_cons_zero, List.getElem?_cons_succ] at n0 n1
        clear hW6 o1 oz f3 f4 f5 f6 f7
        go_region_law (first
          | ((try go_simp)
             go_at_call 71
             revert HO5
             intro HO5
             refine (KC.out A2 x.words c2 _ (HI2.out.below HD5.out)).mono ?_
             rintro e w6 ⟨v6, rfl, ho6, hb6⟩
             obtain ⟨B6, d6, rfl, hd6⟩ := own_form ho6
             have HD6 := Lib.hid (HD5.out.trans (hb6.mono HD5.out.size))
             have HO6 := Lib.hid ho6
             have HO56 := Lib.hid (own_below HO5.out hb6)
             obtain ⟨⟨s1, s2⟩, ⟨s3, s4⟩, s5, s6, s7⟩ := C.out _ HD6.out
             clear ho6 hb6)
          | ((try go_simp)
             go_at_call 71
             refine (KC.out A1 x.slots c1 _ (HI1.out.below HB6.out.drew)).mono ?_
             rintro e w5 ⟨v5, rfl, ho5, hb5⟩
             obtain ⟨B5, d5, rfl, hd5⟩ := own_form ho5
             have HD5 := Lib.hid (HB6.out.drew.trans (hb5.mono HB6.out.size))
             have HO5 := Lib.hid ho5
             obtain ⟨⟨s1, s2⟩, ⟨s3, s4⟩, s5, s6, s7⟩ := C.out _ HD5.out
             have HN5 := HN6.out.drewN 1
             have HN5 := HN5.below hb5 HN5.lt
             have n0 := HN5.cell 0
             have n1 := HN5.cell 1
             have n2 := HN5.lt
             simp only [List.getElem?_toArray, List.getElem?_cons_zero, List.getElem?_cons_succ] at n0 n1
             clear ho5 hb5 HN5))
        all_goals
          have hsz := HO.out.below.size
          have hsz5 := HD5.out.size
          have hsz6 := HB6.out.size
          have HOT := Lib.hid (own_turn HO.out HD6.out HF1.out HDR.out HTK.out hxk (own_lower HO56.out (Nat.le_trans hsz hsz6)) (own_lower HO6.out (Nat.le_trans hsz hsz5)))
          clear hsz hsz5 hsz6
          go_wp2_with fail
          go_roundw
          case rel => exact ⟨k + 1, _, by omega, by go_num, HOT⟩
          case measure => simp [intOf]; omega
      · have hke : k = g.nodes.length := by omega
        subst hke
        have e0 := HO.out.res.cell 0
        have e1 := HO.out.res.cell 1
        have e2 := HO.out.res.frozen 0
        have e3 := HO.out.res.frozen 1
        have e4 := HO.out.res.lt
        have o0 := HO.out.out.cell 0
        have o1 := HO.out.out.cell 1
        have oz := HO.out.out.lt
        simp only [List.getElem?_toArray, List.getElem?_cons_zero, List.getElem?_cons_succ] at e0 e1 o0 o1
        go_wp2_with fail
        (try simp only [Exit.inBlock, Exit.then])
        have hB2 := (HO.out.res.set_ 0 (.slice A' g.roots.length a')).set_ 1 (.slice D' g.nodes.length d')
        refine bodyPost_ret (v := .agg #[.slice A' g.roots.length a', .slice D' g.nodes.length d']) (results_cell_row rfl _ _ (w.heap.size + 1) 25 _ (0, 0) _ rfl hB2 Tryz.underlying25 rfl graphSize) rfl ?_
        have hm := mod_set2 wr (w.heap.size + 1) 0 (.slice A' g.roots.length a') (.slice D' g.nodes.length d')
        have hne : ∀ {e s n : Nat} {u : Value} {xs : List Value}, wr.ownsRow w.heap.size e s u n xs → e ≠ 25 → _root_.Go.World.ownsRow ((wr.setCell ⟨w.heap.size + 1, 0, none⟩ (.slice A' g.roots.length a')).setCell ⟨w.heap.size + 1, 1, none⟩ (.slice D' g.nodes.length d')) w.heap.size e s u n xs := fun {e s n u xs} ho he =>
          Bk.own_mod ho hm (fun k hk e' => by injection e' with e'; subst e'; exact own_blk_ne ho HO.out.res he hk)
        have hrow := HO.out.row
        have hdeep := HO.out.deep
        rw [List.drop_eq_nil_of_le (by rw [HRL.out]; exact Nat.le_refl _), List.append_nil] at hrow
        rw [List.take_length] at hdeep
        refine ⟨A', a', D', d', ps, rfl, ⟨hne HO.out.roots (by decide), hne hrow (by decide), hdeep.mod hm (fun b e => .inr (by injection e with e; subst e; exact NotInt.of_blk HO.out.res (by decide)))⟩, ?_⟩
        exact (HO.out.below.setCell HO.out.lo2 _).setCell HO.out.lo2 _
end Go.Proofs.YtbelbhdhcgpcpaaGreatDoor.BkNodes
