/- flittinglaw21.ModelTells: for every input its function answers true. -/
import Derived.Test.YteminkohgagedaaGreatQRfLaw
import Derived.Test.YteminkohgagedaaGreatQMoTopZ
import Derived.Test.YteminkohgagedaaGreatQGrEightR
import Derived.Test.YteminkohgagedaaGreatQGrRefRight
import Derived.Test.YteminkohgagedaaGreatQBkDeepV
import Derived.Test.YteminkohgagedaaGreatQBookIns
namespace Go.Proofs.YteminkohgagedaaGreat.Rf
open Go.RowKit Go.Proofs.YteminkohgagedaaGreat.Base Go.Proofs.YteminkohgagedaaGreat.Gr Go.Proofs.YteminkohgagedaaGreat.Ver Go.Proofs.YteminkohgagedaaGreat.Mo
set_option linter.unusedVariables false
set_option linter.unusedSimpArgs false

/-! ### words -/
set_option maxRecDepth 100000 in
set_option maxHeartbeats 4000000 in
theorem result_same (e a f : Int) (A B : Option Addr) (l : List Int) (c d : Nat) (w : World) (hA : Ints w A l) (hB : Ints w B l) (hl : l.length ≤ 1000) :
    Calls Tryz.prog 15 #[.agg #[.int .i64 e, .int .i64 a, .int .i64 f, .slice A l.length c], .agg #[.int .i64 e, .int .i64 a, .int .i64 f, .slice B l.length d]] w fun en w' => en = .returned (.bool true) ∧ Below w.heap.size w w' := by
  have hb := below_then (below_1 w (.cells #[.int .i64 e, .int .i64 a, .int .i64 f, .slice A l.length c] 42)) (below_1 _ (.cells #[.int .i64 e, .int .i64 a, .int .i64 f, .slice B l.length d] 42))
  have HB := Lib.hid hb
  have K := Mo.same_any A B l l c d _ (hA.below hb) (hB.below hb) (by omega)
  rw [decide_eq_true rfl] at K
  have HK := Lib.hid K
  clear hA hB hb K
  go_enter Tryz.func15, Tryz.ntmps15
  go_wp2_with (first | (go_at_call 40; refine HK.out.mono ?_; rintro e w8 ⟨rfl, hb8⟩))
  go_ret
  exact ⟨rfl, below_then HB.out hb8⟩
/-- Bounds that all graphs of the law keep. -/
def RoomT (g : Gr) : Prop := g.roots.length ≤ 90000 ∧ g.nodes.length ≤ 90000 ∧ ∀ x ∈ g.nodes, x.slots.length ≤ 90000 ∧ x.words.length ≤ 90000
theorem room_small {g : Gr} (h : Small g) : RoomT g := ⟨by have := h.2.1; omega, by have := h.1; omega, fun x hx => by have := h.2.2 x hx; omega⟩
theorem room_right {g : Gr} (h : right g = true) : RoomT g := by
  have hs := sound_right h
  exact ⟨by have := hs.roots; omega, by have := hs.size; omega, fun x hx => by have := sound_small hs x hx; omega⟩
theorem room_run {g : Gr} (h : RoomT g) {F : Nat} (hF : F ≤ 900) (l : List Ins) : RoomT (runM g F l).gr := by
  unfold runM
  split
  · rename_i hr
    rcases chk_zero l with hc | hc
    · rw [if_pos hc]
      have hok := (chk_ok hc).2.2.1
      have hw := (exec_well hok F 1000 (Mo.start g g) (start_well hr)).last
      have hs := sound_number hw
      exact ⟨by have := hs.roots; simp only; omega, by have := hs.size; simp only; omega, fun x hx => by have := sound_small hs x hx; omega⟩
    · rw [if_neg (by omega)]
      exact h
  · exact h
theorem outs_run (g : Gr) (F : Nat) (l : List Ins) : (runM g F l).outs.length ≤ 1000 := by
  unfold runM
  split
  · rename_i hr
    rcases chk_zero l with hc | hc
    · rw [if_pos hc]
      exact (exec_well (chk_ok hc).2.2.1 F 1000 (Mo.start g g) (start_well hr)).outs
    · rw [if_neg (by omega)]
      simp
  · simp
/-- Behind the raw graph, or Eight of it. -/
def TG (w wx : World) : Prop := ∃ A' a' B' b' g', Blk wx w.heap.size 25 #[.slice A' g'.roots.length a', .slice B' g'.nodes.length b'] ∧ Ints wx A' g'.roots ∧ Nodes wx B' g'.nodes ∧ RoomT g' ∧ Below w.heap.size w wx
theorem enc_pairs : ∀ (n : Nat) (xs : List Value), xs.length = n * 2 → ∃ ps : List BkNodes.NC, ps.length = n ∧ enc BkNodes.nf ps = xs := by
  intro n
  induction n with
  | zero => intro xs h; exact ⟨[], rfl, by have : xs = [] := List.eq_nil_of_length_eq_zero (by omega); rw [this]; rfl⟩
  | succ n ih =>
    intro xs h
    match xs, h with
    | a :: b :: l, h =>
      obtain ⟨ps, h1, h2⟩ := ih l (by simp only [List.length_cons] at h; omega)
      exact ⟨(a, b) :: ps, by simp [h1], by rw [← h2]; rfl⟩
    | [a], h => simp at h; omega
    | [], h => simp at h
theorem enc_at {ps : List BkNodes.NC} {i : Nat} {p : BkNodes.NC} (h : ps[i]? = some p) : (enc BkNodes.nf ps)[i * 2]? = some p.1 ∧ (enc BkNodes.nf ps)[i * 2 + 1]? = some p.2 := by
  have hi : i < ps.length := by
    rcases Nat.lt_or_ge i ps.length with h' | h'
    · exact h'
    · rw [List.getElem?_eq_none h'] at h; cases h
  have h0 := enc_get BkNodes.nf_len ps i hi 0 (by omega)
  have h1 := enc_get BkNodes.nf_len ps i hi 1 (by omega)
  rw [List.getElem?_eq_getElem hi] at h
  injection h with h
  rw [h] at h0 h1
  exact ⟨h0, h1⟩
theorem own_deep {lo : Nat} {w : World} {v : Value} {g : Gr} (h : OwnG lo w v g) (hx : ∀ x ∈ g.nodes, x.slots.length ≤ 90000 ∧ x.words.length ≤ 90000) :
    ∃ A a D d ps, v = .agg #[.slice A g.roots.length a, .slice D g.nodes.length d] ∧ BkNodes.DeepG w lo A a D d ps g := by
  obtain ⟨A, a, D, d, xs, rfl, o1, o2, o3⟩ := h
  obtain ⟨ps, hpl, rfl⟩ := enc_pairs g.nodes.length xs (by rw [o2.1])
  refine ⟨A, a, D, d, ps, rfl, o1, o2, hpl, fun i p x hp hxi => ?_⟩
  have hi : i < g.nodes.length := by
    rcases Nat.lt_or_ge i g.nodes.length with h' | h'
    · exact h'
    · rw [List.getElem?_eq_none h'] at hxi; cases hxi
  have hxe : g.nodes[i] = x := by rw [List.getElem?_eq_getElem hi] at hxi; injection hxi
  obtain ⟨B, b, C, c, x1, x2, y1, y2⟩ := o3 i hi
  have hxx := hx _ (List.getElem_mem hi)
  rw [hxe] at x1 x2 y1 y2 hxx
  obtain ⟨p1, p2⟩ := enc_at hp
  rw [p1] at x1
  rw [p2] at x2
  injection x1 with x1
  injection x2 with x2
  exact ⟨⟨by have := hxx.1; omega, B, b, x1, y1⟩, ⟨by have := hxx.2; omega, C, c, x2, y2⟩⟩
section
variable {w w' : World} {X lo : Nat} {cs : Array Value}
theorem lentI_book {m : Nat} {C : Option Addr} {l : List Int} (hX : Blk w X 39 cs) (h : BkNodes.LentI w lo C l m) (hm : Mod (fun b => b = X) w w') : BkNodes.LentI w' lo C l m :=
  ⟨h.1, Gr.own_mod h.2 hm (fun k hk e => own_blk_ne h.2 hX (by decide) (e ▸ hk))⟩
theorem lentN_book {m : Nat} {D : Option Addr} {xs : List Nd} (hX : Blk w X 39 cs) (h : BkNodes.LentN w lo D xs m) (hm : Mod (fun b => b = X) w w') : BkNodes.LentN w' lo D xs m := by
  obtain ⟨ps, b, k, v, h0, h1, h2⟩ := h
  exact ⟨ps, b, k, v, h0, Gr.own_mod h1 hm (fun k hk e => own_blk_ne h1 hX (by decide) (e ▸ hk)), h2.mod hm (fun b e => .inr (by rw [e]; exact BkNodes.NotInt.of_blk hX (by decide)))⟩
theorem deep_book {A D : Option Addr} {a d : Nat} {ps : List BkNodes.NC} {g : Gr} (hX : Blk w X 39 cs) (h : BkNodes.DeepG w lo A a D d ps g) (hm : Mod (fun b => b = X) w w') : BkNodes.DeepG w' lo A a D d ps g :=
  ⟨Gr.own_mod h.1 hm (fun k hk e => own_blk_ne h.1 hX (by decide) (e ▸ hk)), Gr.own_mod h.2.1 hm (fun k hk e => own_blk_ne h.2.1 hX (by decide) (e ▸ hk)), h.2.2.mod hm (fun b e => .inr (by rw [e]; exact BkNodes.NotInt.of_blk hX (by decide)))⟩
end
theorem codes_lent {w : World} {lo m : Nat} {M : Option Addr} {l : List Ins} (h : w.ownsRow lo 58 4 (.slice M (l.length + 1) m) (l.length + 1) (lentCells l)) : Arr w Ins.cells 4 M (l ++ [⟨-77, 0, 0, 0⟩]) := by
  have h1 := Reads.of_own h
  show Reads w 4 M (l ++ [(⟨-77, 0, 0, 0⟩ : Ins)]).length _
  simp only [List.length_append, List.length_singleton]
  exact h1

/-- What stands while the answers are looked at. -/
structure TSt (wx : World) (p0 pm pr : Nat) (A' B' C D A5 D5 AO M AL : Option Addr) (a' b' c d a5 d5 cO m : Nat) (g' : Gr) (X : Out) (l : List Ins) (lo : Nat) : Prop where
  bg : Blk wx p0 25 #[.slice A' g'.roots.length a', .slice B' g'.nodes.length b']
  bm : Blk wx pm 25 #[.slice C g'.roots.length c, .slice D g'.nodes.length d]
  br : Blk wx pr 42 #[.int .i64 X.e, .int .i64 X.at_, .int .i64 X.left, .slice AO X.outs.length cO]
  bo : Blk wx (pr + 1) 25 #[.slice A5 X.gr.roots.length a5, .slice D5 X.gr.nodes.length d5]
  g1 : Ints wx A' g'.roots
  g2 : Nodes wx B' g'.nodes
  m1 : BkNodes.LentI wx lo C g'.roots c
  m2 : BkNodes.LentN wx lo D g'.nodes d
  n : wx.ownsRow 0 58 4 (.slice M (l.length + 1) m) (l.length + 1) (lentCells l)
  l : Arr wx Ins.cells 4 AL l
  o : Ints wx AO X.outs
  x1 : Ints wx A5 X.gr.roots
  x2 : Nodes wx D5 X.gr.nodes
theorem TSt.below {w w' : World} {p0 pm pr : Nat} {A' B' C D A5 D5 AO M AL : Option Addr} {a' b' c d a5 d5 cO m : Nat} {g' : Gr} {X : Out} {l : List Ins} {lo : Nat} (h : TSt w p0 pm pr A' B' C D A5 D5 AO M AL a' b' c d a5 d5 cO m g' X l lo) (hb : Below w.heap.size w w') :
    TSt w' p0 pm pr A' B' C D A5 D5 AO M AL a' b' c d a5 d5 cO m g' X l lo :=
  ⟨h.bg.below hb h.bg.lt, h.bm.below hb h.bm.lt, h.br.below hb h.br.lt, h.bo.below hb h.bo.lt, h.g1.below hb, h.g2.below hb, h.m1.below hb, h.m2.below hb, own_below h.n hb, h.l.below hb, h.o.below hb, h.x1.below hb, h.x2.below hb⟩

section
variable {w : World} {p0 pm pr : Nat} {A' B' C D A5 D5 AO M AL : Option Addr} {a' b' c d a5 d5 cO m : Nat} {g' : Gr} {X : Out} {l : List Ins} {lo : Nat}
theorem TSt.see_g (h : TSt w p0 pm pr A' B' C D A5 D5 AO M AL a' b' c d a5 d5 cO m g' X l lo) : w.cell? ⟨p0, 0, none⟩ = some (.slice A' g'.roots.length a') ∧ w.cell? ⟨p0, 1, none⟩ = some (.slice B' g'.nodes.length b') ∧ p0 < w.heap.size := ⟨h.bg.cell 0, h.bg.cell 1, h.bg.lt⟩
theorem TSt.see_m (h : TSt w p0 pm pr A' B' C D A5 D5 AO M AL a' b' c d a5 d5 cO m g' X l lo) : w.cell? ⟨pm, 0, none⟩ = some (.slice C g'.roots.length c) ∧ w.cell? ⟨pm, 1, none⟩ = some (.slice D g'.nodes.length d) ∧ pm < w.heap.size := ⟨h.bm.cell 0, h.bm.cell 1, h.bm.lt⟩
theorem TSt.see_o (h : TSt w p0 pm pr A' B' C D A5 D5 AO M AL a' b' c d a5 d5 cO m g' X l lo) : w.cell? ⟨pr + 1, 0, none⟩ = some (.slice A5 X.gr.roots.length a5) ∧ w.cell? ⟨pr + 1, 1, none⟩ = some (.slice D5 X.gr.nodes.length d5) ∧ pr + 1 < w.heap.size := ⟨h.bo.cell 0, h.bo.cell 1, h.bo.lt⟩
theorem TSt.see_e (h : TSt w p0 pm pr A' B' C D A5 D5 AO M AL a' b' c d a5 d5 cO m g' X l lo) : w.cell? ⟨pr, 0, none⟩ = some (.int .i64 X.e) ∧ pr < w.heap.size := ⟨h.br.cell 0, h.br.lt⟩
theorem TSt.see_r (h : TSt w p0 pm pr A' B' C D A5 D5 AO M AL a' b' c d a5 d5 cO m g' X l lo) : w.cell? ⟨pr, 0, none⟩ = some (.int .i64 X.e) ∧ w.cell? ⟨pr, 1, none⟩ = some (.int .i64 X.at_) ∧ w.cell? ⟨pr, 2, none⟩ = some (.int .i64 X.left) ∧ w.cell? ⟨pr, 3, none⟩ = some (.slice AO X.outs.length cO) ∧ pr < w.heap.size := ⟨h.br.cell 0, h.br.cell 1, h.br.cell 2, h.br.cell 3, h.br.lt⟩
end
theorem own_cap {w : World} {base e size n c : Nat} {A : Option Addr} {xs : List Value} (h : w.ownsRow base e size (.slice A n c) n xs) : n ≤ c := by
  obtain ⟨A2, c2, e1, h1⟩ := own_form h
  injection e1 with _ _ e1
  rw [e1]
  exact h1
def w7low (w wc W7 : World) : Prop := Below w.heap.size w wc ∧ Below wc.heap.size wc W7

/-! ### the walk -/
set_option maxRecDepth 100000 in
set_option maxHeartbeats 16000000 in
theorem tells_walk (A B : Option Addr) (g : Gr) (a b : Nat) (fu : Int) (AL : Option Addr) (l : List Ins) (cl : Nat) (raw : Bool) (w : World) (hA : Ints w A g.roots) (hB : Nodes w B g.nodes) (hL : Arr w Ins.cells 4 AL l) (hcl : l.length ≤ cl) :
    Calls Tryz.prog 3 #[.agg #[.slice A g.roots.length a, .slice B g.nodes.length b], .int .i64 fu, .slice AL l.length cl, .bool raw] w fun e w' => e = .returned (.bool true) ∧ Below w.heap.size w w' := by
  have HA := Lib.hid hA
  have HD := Lib.hid hB
  have HL := Lib.hid hL
  have HG := Lib.hid (Blk.new w 25 #[.slice A g.roots.length a, .slice B g.nodes.length b])
  have HB := Lib.hid (below_1 w (.cells #[.slice A g.roots.length a, .slice B g.nodes.length b] 25))
  clear hA hB hL
  go_enter Tryz.func3, Tryz.ntmps3
  go_wp2_with fail
  refine (light_any A B g a b _ (HA.out.below HB.out) (HD.out.below HB.out)).mono ?_
  rintro e w1 ⟨⟨q, rfl, hq⟩, hb1⟩
  have HB1 := Lib.hid (below_then HB.out hb1)
  have HG1 := Lib.hid (HG.out.below hb1 HG.out.lt)
  have HS := Lib.hid hq
  have K1 := Lib.hid (alive_any w1)
  clear hq hb1 HG HB
  by_cases hgo : q = true ∧ fu ≤ 400 ∧ l.length ≤ 250
  case neg =>
    generalize hll : l.length = ll at hgo ⊢
    have hcase : q = false ∨ (q = true ∧ 400 < fu) ∨ (q = true ∧ fu ≤ 400 ∧ 250 < (ll : Int)) := by
      cases q with
      | false => exact .inl rfl
      | true =>
        right
        simp only [true_and] at hgo ⊢
        omega
    clear hgo hll
    rcases hcase with h1 | ⟨h1, h2⟩ | ⟨h1, h2, h3⟩
    all_goals
      subst h1
      go_wp2_with (first | (go_at_call 5; refine K1.out.mono ?_; rintro e w2 ⟨rfl, hb2⟩; have HB2 := Lib.hid (below_then HB1.out hb2); clear hb2))
      go_ret
      exact ⟨rfl, HB2.out⟩
  obtain ⟨rfl, h4, hl250⟩ := hgo
  have p2 : decide (fu > 400) = false := decide_eq_false (by omega)
  have p3 : decide ((l.length : Int) > 250) = false := decide_eq_false (by omega)
  go_wp2_with fail
  refine K1.out.mono ?_
  rintro e w2 ⟨rfl, hb2⟩
  have HB2 := Lib.hid (below_then HB1.out hb2)
  have HG2 := Lib.hid (HG1.out.below hb2 HG1.out.lt)
  clear hb2 K1 HG1 HB1
  have c0 := HG2.out.cell 0
  have c1 := HG2.out.cell 1
  have zg := HG2.out.lt
  simp only [List.getElem?_toArray, List.getElem?_cons_zero, List.getElem?_cons_succ] at c0 c1
  go_upto_if 35 with fail
  go_cut [] (fun wx => Hid (TG w wx))
  case first =>
    cases raw
    · go_wp2_with fail
      refine (eight_any A B g a b w2 (HS.out trivial) (HA.out.below HB2.out) (HD.out.below HB2.out)).mono ?_
      rintro e w3 ⟨v, rfl, hV, hb3⟩
      have HR8 := Lib.hid (eight_right (HS.out trivial))
      have HG3 := Lib.hid (HG2.out.below hb3 HG2.out.lt)
      have HV := Lib.hid hV
      have HB3 := Lib.hid (below_then HB2.out hb3)
      generalize eight g = h at hV HV HR8
      obtain ⟨A3, a3, D3, d3, rfl, -, -⟩ := hV.now
      have x0 := HG3.out.cell 0
      have x1 := HG3.out.cell 1
      have f0 := HG3.out.frozen 0
      have f1 := HG3.out.frozen 1
      have x2 := HG3.out.lt
      simp only [List.getElem?_toArray, List.getElem?_cons_zero, List.getElem?_cons_succ] at x0 x1
      clear c0 c1 hb3 hV
      go_wp2_with fail
      go_meet
      have HV3 := HV.out (fun b => b = w.heap.size) ((w3.setCell ⟨w.heap.size, 0, none⟩ (.slice A3 h.roots.length a3)).setCell ⟨w.heap.size, 1, none⟩ (.slice D3 h.nodes.length d3)) (mod_set' (S := fun b => b = w.heap.size) (mod_set' (S := fun b => b = w.heap.size) (Mod.refl _ _) rfl _) rfl _) (by rintro b rfl; exact zg)
      obtain ⟨A4, a4, D4, d4, e4, q1, q2⟩ := HV3
      injection e4 with e4
      obtain ⟨e5, e6⟩ : (Value.slice A3 h.roots.length a3 = Value.slice A4 h.roots.length a4) ∧ (Value.slice D3 h.nodes.length d3 = Value.slice D4 h.nodes.length d4) := by simpa using e4
      injection e5 with e5 _ e5'
      injection e6 with e6 _ e6'
      subst e5 e5' e6 e6'
      exact Lib.hid ⟨A3, a3, D3, d3, h, (HG3.out.set_ 0 (.slice A3 h.roots.length a3)).set_ 1 (.slice D3 h.nodes.length d3), q1, q2, room_right HR8.out, (HB3.out.setCell (Nat.le_refl _) _).setCell (Nat.le_refl _) _⟩
    · go_wp2_with fail
      go_meet
      exact Lib.hid ⟨A, a, B, b, g, HG2.out, HA.out.below HB2.out, HD.out.below HB2.out, room_small (HS.out trivial), HB2.out⟩
  case rest =>
    obtain ⟨A', a', B', b', g', hG, hI, hN, hR, hB⟩ := hcut.out
    clear HG2 HB2 HS HA HD c0 c1 zg hcut
    obtain ⟨F, hfu⟩ : ∃ F : Nat, max fu 0 = (F : Int) := ⟨(max fu 0).toNat, by omega⟩
    have hF : F ≤ 900 := by omega
    have HFU := Lib.hid hfu
    clear hfu
    have HB0 := Lib.hid hB
    have HG0 := Lib.hid hG
    have HI0 := Lib.hid hI
    have HN0 := Lib.hid hN
    have HR := Lib.hid hR
    have x0 := hG.cell 0
    have x1 := hG.cell 1
    have zx := hG.lt
    simp only [List.getElem?_toArray, List.getElem?_cons_zero, List.getElem?_cons_succ] at x0 x1
    have KL := Lib.hid (BkNodes.lentG_any A' B' g' a' b' wc hI hN (by have := hR.1; omega) (by have := hR.2.1; omega) (fun x hx => by have := hR.2.2 x hx; omega))
    clear hG hI hN hR hB
    go_wp2_with fail
    refine KL.out.mono ?_
    rintro e w2 ⟨C, c, D, d, rfl, hC, hD, hb2⟩
    have HC2 := Lib.hid hC
    have HD2 := Lib.hid hD
    have HB2 := Lib.hid hb2
    clear KL hC hD hb2 x0 x1 zx
    go_wp2_with fail
    refine (Ver.lent_any AL l cl w2 (HL.out.below (below_then HB0.out HB2.out)) (by omega)).mono ?_
    rintro e w3 ⟨M, m, rfl, hm, hrow, hb3⟩
    have hw3 : Below wc.heap.size wc w3 := below_then HB2.out hb3
    obtain ⟨W5, hW5⟩ : ∃ W5, (w3.alloc (.cells #[.slice C g'.roots.length c, .slice D g'.nodes.length d] 25)).alloc (.cells #[.slice none 0 0, .slice none 0 0, .slice none 0 0, .slice none 0 0, .slice none 0 0, .slice none 0 0, .slice none 0 0, .slice none 0 0, .slice none 0 0, .slice none 0 0, .slice none 0 0, .slice none 0 0] 39) = W5 := ⟨_, rfl⟩
    have h35 : Below w3.heap.size w3 W5 := by rw [← hW5]; exact below_then (below_1 _ _) (below_1 _ _)
    have hbm : Blk W5 w3.heap.size 25 #[.slice C g'.roots.length c, .slice D g'.nodes.length d] := by
      rw [← hW5]
      exact (Blk.new w3 _ _).alloc _
    have hbk : Blk W5 (w3.heap.size + 1) 39 BkNodes.bookNil := by
      rw [← hW5]
      have := Blk.new (w3.alloc (.cells #[.slice C g'.roots.length c, .slice D g'.nodes.length d] 25)) 39 BkNodes.bookNil
      rwa [World.size_alloc] at this
    have hs5 : W5.heap.size = w3.heap.size + 1 + 1 := by rw [← hW5]; simp
    have h05 : Below wc.heap.size wc W5 := below_then hw3 h35
    have HC5 := Lib.hid ((HC2.out.below hb3).below h35)
    have HD5 := Lib.hid ((HD2.out.below hb3).below h35)
    have HM5 := Lib.hid (own_below hrow h35)
    have HBM := Lib.hid hbm
    have HBK := Lib.hid hbk
    have HS5 := Lib.hid hs5
    have H05 := Lib.hid h05
    obtain ⟨pm, hpm⟩ : ∃ pm, w3.heap.size = pm := ⟨_, rfl⟩
    rw [hpm] at HBM HBK HS5
    have HPM := Lib.hid (And.intro hpm (show wc.heap.size ≤ pm by rw [← hpm]; exact hw3.size))
    have y0 := HBM.out.cell 0
    have y1 := HBM.out.cell 1
    have zy := HBM.out.lt
    simp only [List.getElem?_toArray, List.getElem?_cons_zero, List.getElem?_cons_succ] at y0 y1
    have KRUN := Lib.hid (run_wide C D M g' l c d m fu F (by omega) HFU.out W5 (HC5.out.ints (by have := HR.out.1; omega)) (HD5.out.nodes (by have := HR.out.2.1; omega)) (arr_prefix (codes_lent HM5.out)))
    obtain ⟨X, hX⟩ : ∃ X, runM g' F l = X := ⟨_, rfl⟩
    rw [hX] at KRUN
    have HX := Lib.hid hX
    have HXR := Lib.hid (show RoomT X.gr from hX ▸ room_run HR.out hF l)
    have HXO := Lib.hid (show X.outs.length ≤ 1000 from hX ▸ outs_run g' F l)
    clear hbm hbk hs5 h35 h05 hb3 hw3 hrow HC2 HD2 HB2 hX
    go_wp2_with fail
    refine KRUN.out.mono ?_
    rintro e w6 ⟨AO, cO, v, rfl, hO, hV, hb6, hcap, hown, halt⟩
    have hdeep : ∃ A5 a5 D5 d5 ps lo, v = .agg #[.slice A5 X.gr.roots.length a5, .slice D5 X.gr.nodes.length d5] ∧ BkNodes.DeepG w6 lo A5 a5 D5 d5 ps X.gr ∧ wc.heap.size ≤ lo ∧ ∀ ad, AO = some ad → ad.block < lo := by
      rcases halt with ⟨lo, q1, q2, q3⟩ | ⟨rfl, q2, q3⟩
      · obtain ⟨A5, a5, D5, d5, ps, e1, e2⟩ := own_deep q2 HXR.out.2.2
        exact ⟨A5, a5, D5, d5, ps, lo, e1, e2, Nat.le_trans H05.out.size q1, q3⟩
      · obtain ⟨ps, e2⟩ := BkNodes.lent_deep (HC5.out.below hb6) (HD5.out.below hb6)
        rw [q3]
        exact ⟨C, c, D, d, ps, _, rfl, e2, Nat.le_refl _, fun ad e => by rw [q2] at e; cases e⟩
    obtain ⟨A5, a5, D5, d5, ps, lo, rfl, hdp, hlo, hao⟩ := hdeep
    obtain ⟨W7, hW7⟩ : ∃ W7, (w6.alloc (.cells #[.int .i64 X.e, .int .i64 X.at_, .int .i64 X.left, .slice AO X.outs.length cO] 42)).alloc (.cells #[.slice A5 X.gr.roots.length a5, .slice D5 X.gr.nodes.length d5] 25) = W7 := ⟨_, rfl⟩
    have h67 : Below w6.heap.size w6 W7 := by rw [← hW7]; exact below_then (below_1 _ _) (below_1 _ _)
    have hbr : Blk W7 w6.heap.size 42 #[.int .i64 X.e, .int .i64 X.at_, .int .i64 X.left, .slice AO X.outs.length cO] := by
      rw [← hW7]
      exact (Blk.new w6 _ _).alloc _
    have hbo : Blk W7 (w6.heap.size + 1) 25 #[.slice A5 X.gr.roots.length a5, .slice D5 X.gr.nodes.length d5] := by
      rw [← hW7]
      have := Blk.new (w6.alloc (.cells #[.int .i64 X.e, .int .i64 X.at_, .int .i64 X.left, .slice AO X.outs.length cO] 42)) 25 #[.slice A5 X.gr.roots.length a5, .slice D5 X.gr.nodes.length d5]
      rwa [World.size_alloc] at this
    obtain ⟨pr, hpr⟩ : ∃ pr, w6.heap.size = pr := ⟨_, rfl⟩
    have h57 := below_then hb6 h67
    have hpr2 : pm + 1 < pr := by have := hb6.size; have := HS5.out; omega
    rw [hpr] at hbr hbo
    have hbk7 := HBK.out.below h57 HBK.out.lt
    have hdp7 := hdp.below h67
    have hown7 := own_below hown h67
    have HBG := Lib.hid (BkNodes.BookG.start (V := fun b => wc.heap.size ≤ b) hbk7)
    have hpl : ps.length = X.gr.nodes.length := hdp7.2.2.1
    have KG : Hid (Calls Tryz.prog 10 #[.pointer (some ⟨pm + 1, 0, none⟩), .agg #[.slice A5 X.gr.roots.length a5, .slice D5 X.gr.nodes.length d5]] W7 fun e w' => e = .returned (.tuple #[]) ∧
        BkNodes.BookG (fun b => wc.heap.size ≤ b) W7 w' (pm + 1) (BkNodes.keptNil.graph (.slice A5 X.gr.roots.length a5) (.slice D5 X.gr.nodes.length d5) X.gr.roots ps X.gr.nodes) ∧ BkNodes.Kind W7 w') := Lib.hid (by
      obtain ⟨o1, o2, o3⟩ := hdp7
      have b1 := fun b hb => (own_block o1 b hb).1
      have b2 := fun b hb => (own_block o2 b hb).1
      rw [← hpl] at o2 b2
      have k := BkNodes.graph_add HBG.out A5 D5 a5 d5 X.gr.roots ps X.gr.nodes (o3.low (Nat.zero_le _)) (fun x hx => by have := HXR.out.2.2 x hx; omega) (own_lower o1 (Nat.zero_le _)) (own_lower o2 (Nat.zero_le _))
        (fun b hb hi => by rcases hi with ⟨v, hv, _⟩ | ⟨v, hv, _⟩ <;> simp [BkNodes.keptNil] at hv) (fun b hb hi => by rcases hi with ⟨v, hv, _⟩ | ⟨v, hv, _⟩ <;> simp [BkNodes.keptNil] at hv)
        (fun b hb => Nat.le_trans hlo (b1 b hb)) (fun b hb => Nat.le_trans hlo (b2 b hb)) (by have := HXR.out.1; omega) (by have := HXR.out.2.1; omega) (by simp [BkNodes.keptNil]) (by simp [BkNodes.keptNil])
      rw [hpl] at k
      exact k)
    have HBR := Lib.hid hbr
    have HBO := Lib.hid hbo
    have HBK7 := Lib.hid hbk7
    have HDP := Lib.hid hdp7
    have HOWN := Lib.hid hown7
    have H57 := Lib.hid h57
    have HLO := Lib.hid (And.intro hlo hao)
    have HPR := Lib.hid (And.intro hpr hpr2)
    have r0 := hbo.cell 0
    have r1 := hbo.cell 1
    have zr := hbo.lt
    simp only [List.getElem?_toArray, List.getElem?_cons_zero, List.getElem?_cons_succ] at r0 r1
    clear hO hV hb6 hcap hown halt hdp hlo hao h67 hbr hbo h57 hpr2 hbk7 hdp7 hown7 hpl y0 y1 zy KRUN HBK
    go_wp2_with fail
    refine KG.out.mono ?_
    rintro e w8 ⟨rfl, hbk8, -⟩
    have hm8 := hbk8.behind
    have hrow8 := Gr.own_mod HOWN.out hm8 (fun k hk e => own_blk_ne HOWN.out HBK7.out (by decide) (e ▸ hk))
    have hbr8 := HBR.out.mod hm8 (show ¬ pr = pm + 1 by have := HPR.out.2; omega)
    have s3 := hbr8.cell 3
    have s4 := hbr8.lt
    simp only [List.getElem?_toArray, List.getElem?_cons_zero, List.getElem?_cons_succ] at s3
    have KI := Lib.hid (BkNodes.ints_add hbk8 AO cO X.outs (own_lower hrow8 (Nat.zero_le _)) (fun b hb hi => by
      obtain ⟨ad, e1, e2⟩ := block_iff hb
      have h1 := HLO.out.2 ad e1
      obtain ⟨o1, o2, o3⟩ := HDP.out
      rcases hi with ⟨v, hv, hvb⟩ | ⟨v, hv, hvb⟩
      · simp only [BkNodes.Kept.graph, BkNodes.keptNil, List.nil_append, List.mem_singleton] at hv
        subst hv
        have := (own_block o1 b hvb).1
        omega
      · simp only [BkNodes.Kept.graph, BkNodes.keptNil, List.nil_append, List.mem_singleton] at hv
        subst hv
        have := (own_block o2 b hvb).1
        omega) (fun b hb => Nat.le_trans H05.out.size (own_block hrow8 b hb).1) (by have := HXO.out; omega) (by simp [BkNodes.Kept.graph, BkNodes.keptNil]))
    clear hm8 hrow8 hbr8 hbk8 r0 r1 zr KG HBG
    go_wp2_with fail
    refine KI.out.mono ?_
    rintro e w9 ⟨rfl, hbk9, -⟩
    have hm9 := hbk9.behind
    have h07 := below_then H05.out H57.out
    have h09 : Below wc.heap.size wc w9 := Gr.mod_below h07 hm9 h07.size (fun b hb e => by have := HPM.out.2; omega)
    have hpl : ps.length = X.gr.nodes.length := HDP.out.2.2.1
    have KAP := Lib.hid (fun (W : World) (hb : Below w9.heap.size w9 W) => BkNodes.bookg_apart (hbk9.below hb) (by simp [BkNodes.Kept.graph, BkNodes.keptNil]) (by simp [BkNodes.Kept.graph, BkNodes.keptNil]) (fun i => by
      simp only [BkNodes.Kept.graph, BkNodes.keptNil, BkInts.more]
      have h1 := HXO.out
      have h2 := HXR.out.1
      split
      · omega
      · split
        · exact h2
        · simp) (fun i => by
      simp only [BkNodes.Kept.graph, BkNodes.keptNil, BkNodes.more]
      have h2 := HXR.out.2.1
      split
      · omega
      · simp) (fun i x hx => by
      simp only [BkNodes.Kept.graph, BkNodes.keptNil, BkNodes.moreD] at hx
      split at hx
      · have := HXR.out.2.2 x hx
        omega
      · simp at hx))
    have HBW9 := Lib.hid (below_then HB0.out h09)
    have hdp9 := deep_book HBK7.out HDP.out hm9
    have hpr := HPR.out.2
    have HT9 : Hid (TSt w9 w.heap.size pm pr A' B' C D A5 D5 AO M AL a' b' c d a5 d5 cO m g' X l wc.heap.size) := Lib.hid
      ⟨HG0.out.below h09 HG0.out.lt, (HBM.out.below H57.out HBM.out.lt).mod hm9 (show ¬ pm = pm + 1 by omega), HBR.out.mod hm9 (show ¬ pr = pm + 1 by omega), HBO.out.mod hm9 (show ¬ pr + 1 = pm + 1 by omega), HI0.out.below h09, HN0.out.below h09,
        lentI_book HBK7.out (HC5.out.below H57.out) hm9, lentN_book HBK7.out (HD5.out.below H57.out) hm9,
        Gr.own_mod (own_lower (own_below HM5.out H57.out) (Nat.zero_le _)) hm9 (fun k hk e => own_blk_ne (own_below HM5.out H57.out) HBK7.out (by decide) (e ▸ hk)),
        HL.out.below (below_then HB0.out h09),
        Ints.of_own (Gr.own_mod HOWN.out hm9 (fun k hk e => own_blk_ne HOWN.out HBK7.out (by decide) (e ▸ hk))) (by have := HXO.out; omega),
        hdp9.ints (by have := HXR.out.1; omega), hdp9.nodes (by have := HXR.out.2.1; omega)⟩
    have HW9 := Lib.hid (show w.heap.size ≤ w9.heap.size from HBW9.out.size)
    have HWC := Lib.hid (show w.heap.size ≤ pm ∧ w.heap.size ≤ wc.heap.size from ⟨Nat.le_trans HB0.out.size HPM.out.2, HB0.out.size⟩)
    have HMW := Lib.hid (show w7low w wc W7 from ⟨HB0.out, h07⟩)
    clear hbk9 hm9 h07 h09 hdp9 hpr hpl s3 s4 KI HG0 HI0 HN0 HBM HC5 HD5 HM5 HBR HBO HBK7 HDP HOWN HL HLO
    obtain ⟨x0, x1, zx⟩ := HT9.out.see_g
    have KR := Lib.hid (rright_any A' B' g' a' b' w9 HT9.out.g1 HT9.out.g2)
    go_wp2_with fail
    refine KR.out.mono ?_
    rintro e w10 ⟨rfl, hb10⟩
    have HB10 := Lib.hid hb10
    have HT10 := Lib.hid (HT9.out.below hb10)
    clear hb10 x0 x1 zx KR HT9
    cases hr : right g' with
    | false =>
      obtain ⟨n1, -, -, n4⟩ := not_right hr F l
      rw [HX.out] at n1
      obtain ⟨x0, x1, zx⟩ := HT10.out.see_m
      obtain ⟨y0, zy⟩ := HT10.out.see_e
      rw [n1] at y0
      have KP := peak_wide C D M g' l c d m fu F (by omega) HFU.out w10 (HT10.out.m1.ints (by have := HR.out.1; omega)) (HT10.out.m2.nodes (by have := HR.out.2.1; omega)) (arr_prefix (codes_lent HT10.out.n))
      rw [n4] at KP
      have KP := Lib.hid KP
      clear n1 n4
      go_wp2_with (first | (go_at_call 13; refine KP.out.mono ?_; rintro e w11 ⟨rfl, hb11⟩))
      go_ret
      exact ⟨rfl, below_then HBW9.out (below_then HB10.out hb11)⟩
    | true =>
      have HRT := Lib.hid hr
      clear hr
      obtain ⟨h1, h2, h3, h4, h5, h6⟩ := all_same HRT.out F l
      rw [HX.out] at h1 h2 h3 h4 h5
      have KRR := rrun_any (w := w10) (c := a') (d := b') (cl := cl) HT10.out.g1 HT10.out.g2 HRT.out HT10.out.l fu F hF HFU.out
      obtain ⟨Y, hY⟩ : ∃ Y, rrunM g' F l = Y := ⟨_, rfl⟩
      rw [hY] at h1 h2 h3 h4 h5 h6 KRR
      have HKRR := Lib.hid KRR
      have H5 := Lib.hid (And.intro h1 (And.intro h2 (And.intro h3 (And.intro h4 h5))))
      have H6 := Lib.hid h6
      obtain ⟨x0, x1, zx⟩ := HT10.out.see_g
      clear KRR hY h1 h2 h3 h4 h5 h6
      go_wp2_with fail
      refine HKRR.out.mono ?_
      rintro e w11 ⟨AR, cR, vR, rfl, hIR, hVR, hb11⟩
      obtain ⟨A7, a7, D7, d7, rfl, q1, q2⟩ := hVR
      obtain ⟨h1, h2, h3, h4, h5⟩ := H5.out
      rw [← h4] at hIR
      rw [← h5] at q1 q2
      rw [← h1, ← h2, ← h3, ← h4, ← h5]
      clear h1 h2 h3 h4 h5 H5 x0 x1 zx HKRR
      obtain ⟨W12, hW12⟩ : ∃ W12, (w11.alloc (.cells #[.int .i64 X.e, .int .i64 X.at_, .int .i64 X.left, .slice AR X.outs.length cR] 42)).alloc (.cells #[.slice A7 X.gr.roots.length a7, .slice D7 X.gr.nodes.length d7] 25) = W12 := ⟨_, rfl⟩
      have hbx : Below w11.heap.size w11 W12 := by rw [← hW12]; exact below_then (below_1 _ _) (below_1 _ _)
      have hbq : Blk W12 w11.heap.size 42 #[.int .i64 X.e, .int .i64 X.at_, .int .i64 X.left, .slice AR X.outs.length cR] := by
        rw [← hW12]
        exact (Blk.new w11 _ _).alloc _
      have hbw : Blk W12 (w11.heap.size + 1) 25 #[.slice A7 X.gr.roots.length a7, .slice D7 X.gr.nodes.length d7] := by
        rw [← hW12]
        have := Blk.new (w11.alloc (.cells #[.int .i64 X.e, .int .i64 X.at_, .int .i64 X.left, .slice AR X.outs.length cR] 42)) 25 #[.slice A7 X.gr.roots.length a7, .slice D7 X.gr.nodes.length d7]
        rwa [World.size_alloc] at this
      obtain ⟨pq, hpq⟩ : ∃ pq, w11.heap.size = pq := ⟨_, rfl⟩
      rw [hpq] at hbq hbw
      have HT12 := Lib.hid ((HT10.out.below hb11).below hbx)
      have HB12 := Lib.hid (below_then HB10.out (below_then hb11 hbx))
      have HBW := Lib.hid hbw
      have HI12 := Lib.hid (q1.below hbx)
      have HN12 := Lib.hid (q2.below hbx)
      have KS := Lib.hid (result_same X.e X.at_ X.left AO AR X.outs cO cR W12 HT12.out.o (hIR.below hbx) HXO.out)
      have u0 := hbq.cell 0
      have u1 := hbq.cell 1
      have u2 := hbq.cell 2
      have u3 := hbq.cell 3
      have zu := hbq.lt
      obtain ⟨y0, y1, y2, y3, zy⟩ := HT12.out.see_r
      simp only [List.getElem?_toArray, List.getElem?_cons_zero, List.getElem?_cons_succ] at u0 u1 u2 u3
      clear hIR q1 q2 hb11 hbx hbq hbw HT10 HB10
      go_wp2_with fail
      refine KS.out.mono ?_
      rintro e w13 ⟨rfl, hb13⟩
      have HT13 := Lib.hid (HT12.out.below hb13)
      have HB13 := Lib.hid (below_then HB12.out hb13)
      have hbw13 := HBW.out.below hb13 HBW.out.lt
      have KA := refalike_any A5 D5 A7 D7 X.gr X.gr a5 d5 a7 d7 w13 HT13.out.x1 HT13.out.x2 (HI12.out.below hb13) (HN12.out.below hb13)
      rw [decide_eq_true rfl] at KA
      have HKA := Lib.hid KA
      have t0 := hbw13.cell 0
      have t1 := hbw13.cell 1
      have zt := hbw13.lt
      obtain ⟨s0, s1, zs⟩ := HT13.out.see_o
      simp only [List.getElem?_toArray, List.getElem?_cons_zero, List.getElem?_cons_succ] at t0 t1
      clear KA KS hb13 hbw13 HT12 HB12 HBW HI12 HN12 u0 u1 u2 u3 zu y0 y1 y2 y3 zy hW12 hpq
      go_wp2_with fail
      refine HKA.out.mono ?_
      rintro e w14 ⟨rfl, hb14⟩
      have HT14 := Lib.hid (HT13.out.below hb14)
      have HB14 := Lib.hid (below_then HB13.out hb14)
      have KP := peak_wide C D M g' l c d m fu F (by omega) HFU.out w14 (HT14.out.m1.ints (by have := HR.out.1; omega)) (HT14.out.m2.nodes (by have := HR.out.2.1; omega)) (arr_prefix (codes_lent HT14.out.n))
      rw [H6.out] at KP
      have HKP := Lib.hid KP
      obtain ⟨x0, x1, zx⟩ := HT14.out.see_m
      clear KP hb14 HT13 HB13 HKA t0 t1 zt s0 s1 zs
      go_wp2_with fail
      refine HKP.out.mono ?_
      rintro e w15 ⟨rfl, hb15⟩
      have HT15 := Lib.hid (HT14.out.below hb15)
      have HB15 := Lib.hid (below_then HB14.out hb15)
      have KSG := Lib.hid (BkNodes.staysG_any A' B' C D g' a' b' c d wc.heap.size w15 HT15.out.g1 HT15.out.g2 HT15.out.m1 HT15.out.m2 (by have := HR.out.1; omega) (by have := HR.out.2.1; omega) (fun x hx => by have := HR.out.2.2 x hx; omega))
      obtain ⟨y0, y1, zy⟩ := HT15.out.see_m
      obtain ⟨u0, u1, zu⟩ := HT15.out.see_g
      clear hb15 HT14 HB14 HKP x0 x1 zx
      go_wp2_with fail
      refine KSG.out.mono ?_
      rintro e w16 ⟨rfl, hb16⟩
      have HT16 := Lib.hid (HT15.out.below hb16)
      have HB16 := Lib.hid (below_then HB15.out hb16)
      have KSC := Lib.hid (Ver.stays_any AL M l cl m w16 HT16.out.l (codes_lent HT16.out.n) (by omega) (own_cap HT16.out.n))
      clear hb16 HT15 HB15 KSG y0 y1 zy u0 u1 zu
      go_wp2_with fail
      refine KSC.out.mono ?_
      rintro e w17 ⟨rfl, hb17⟩
      have HB17 := Lib.hid (below_then HB16.out hb17)
      have KA2 := Lib.hid (KAP.out w17 HB17.out)
      clear hb17 HT16 HB16 KSC KAP
      go_wp2_with fail
      refine KA2.out.mono ?_
      rintro e w18 ⟨rfl, hm18⟩
      have HM18 := Lib.hid hm18
      clear hm18
      go_wp2_with fail
      go_ret
      refine ⟨rfl, Gr.mod_below (HMW.out.1.trans (HMW.out.2.mono HMW.out.1.size)) HM18.out (Nat.le_trans HMW.out.1.size HMW.out.2.size) (fun b hb e => ?_)⟩
      have h1 := HWC.out.1
      have h2 := HWC.out.2
      rcases e with e | e <;> omega
end Go.Proofs.YteminkohgagedaaGreat.Rf
