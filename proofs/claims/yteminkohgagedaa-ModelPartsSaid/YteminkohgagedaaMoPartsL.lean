/- Plain law: a graph that is numbered otherwise has the same results; what was not committed changes nothing. -/
import Derived.Test.YteminkohgagedaaMoIso3
import Derived.Test.YteminkohgagedaaMoPeakL
namespace Go.Proofs.Yteminkohgagedaa.Mo
open Go.RowKit Go.Proofs.Yteminkohgagedaa.Base Go.Proofs.Yteminkohgagedaa.Gr Go.Proofs.Yteminkohgagedaa.Ver
set_option linter.unusedVariables false
set_option linter.unusedSimpArgs false

theorem Al.all {P : Int → Int → Prop} : ∀ {l m : List Int}, Al P l m → ∀ b ∈ m, ∃ a, P a b
  | [], [], _, b, hb => by cases hb
  | a :: l, c :: m, h, b, hb => by
    rcases List.mem_cons.1 hb with rfl | hb
    · exact ⟨a, h.1⟩
    · exact Al.all h.2 b hb
  | [], c :: m, h, _, _ => h.elim
  | a :: l, [], h, _, _ => h.elim
/-- The numbered form may be, too. -/
theorem number_fits {g : Gr} (hg : right g = true) : right (number g) = true := by
  obtain ⟨p1, p2, p3, p4⟩ := right_parts hg
  have w := well_right hg
  have I := init_iso w
  obtain ⟨a1, a2, a3, a4, a5, a6⟩ := ordF_all w
  have hle := ord_len a1
  have hin : ∀ {a b : Int}, Init g a b → 0 ≤ b ∧ b ≤ (number g).nodes.length := fun {a b} h => by
    by_cases h0 : a = 0
    · have := (I.nz h).1 h0; omega
    · have := I.rng h h0; omega
  have hroots := I.roots
  have hlen := hroots.len
  unfold right
  simp only [Bool.and_eq_true, decide_eq_true_eq, List.all_eq_true]
  refine ⟨⟨⟨by omega, by omega⟩, ?_⟩, ?_⟩
  · rw [named_iff]
    intro b hb
    obtain ⟨a, ha⟩ := hroots.all b hb
    exact hin ha
  · intro x hx
    obtain ⟨j, hj, rfl⟩ := List.getElem_of_mem hx
    have hj' : j < (ordF g).length := by omega
    have hm : (ordF g)[j] ∈ ordF g := List.getElem_mem hj'
    have hr := a1.2 _ hm
    have hnodes := canon_nodes w (g.nodes.length + 1) 0 (meet [] g.roots).1 (ord_meet (ord_nil _) p3) (Nat.zero_le _) (by omega)
    rw [List.drop_zero] at hnodes
    have e : (number g).nodes = (ordF g).map fun b => (⟨(nodeAt g b).slots.map (placeOf (ordF g)), (nodeAt g b).words⟩ : Nd) := hnodes
    have ex : (number g).nodes[j] = ⟨(nodeAt g (ordF g)[j]).slots.map (placeOf (ordF g)), (nodeAt g (ordF g)[j]).words⟩ := by simp only [e, List.getElem_map]
    have hx0 := ndOk_iff.1 (nodeAt_ok w hr.1 hr.2)
    have hi : Init g (ordF g)[j] (placeOf (ordF g) (ordF g)[j]) := .inr ⟨hm, rfl⟩
    have hz : (0 : Int) ∉ ordF g := fun h => by have := a1.2 0 h; omega
    rw [ex, ndOk_iff]
    refine ⟨by rw [List.length_map]; exact hx0.1, hx0.2.1, hx0.2.2.1, ?_⟩
    rw [named_iff]
    intro b hb
    obtain ⟨v, hv, rfl⟩ := List.mem_map.1 hb
    by_cases h0 : v = 0
    · subst h0
      rw [placeOf_zero.2 hz]
      omega
    · exact hin (.inr ⟨a3 _ hm v hv h0, rfl⟩)
/-- What the statement says. -/
theorem parts_law {g : Gr} (hg : right g = true) (F : Nat) (l : List Ins) :
    (runM g F l).e = (runM (number g) F l).e ∧ (runM g F l).at_ = (runM (number g) F l).at_ ∧ (runM g F l).left = (runM (number g) F l).left ∧ (runM g F l).outs = (runM (number g) F l).outs ∧
    ((runM g F l).e = 10 → (runM g F l).gr = g) ∧ ((runM g F l).e ≠ 10 → (runM g F l).gr = (runM (number g) F l).gr ∧ ((∀ x ∈ l, x.op ≠ 14) → (runM g F l).gr = number g)) := by
  have hn := number_fits hg
  rcases chk_zero l with hc | hc
  · have er : ∀ {k : Gr}, right k = true → runM k F l = ⟨(exec l F (start k k)).e, (exec l F (start k k)).at_, (exec l F (start k k)).left, (exec l F (start k k)).σ.outs, number (exec l F (start k k)).σ.last⟩ := fun {k} hk => by
      rw [runM, if_pos hk, if_pos hc]
    have hsi : SI (start g g) (start (number g) (number g)) := by
      have I := init_iso (well_right hg)
      exact ⟨_, _, I, I, ⟨I.zero, I.zero, I.zero, I.zero, trivial⟩, rfl, rfl, rfl⟩
    obtain ⟨e1, e2, e3, P, Q, h1, h2, h3, h4, h5, h6⟩ := exec_iso l F hsi
    have w1 := exec_well (chk_ok hc).2.2.1 F 1000 (start g g) (start_well hg)
    have w2 := exec_well (chk_ok hc).2.2.1 F 1000 (start (number g) (number g)) (start_well hn)
    have hnum := h2.number ⟨w1.last.named, w1.last.nodes⟩ ⟨w2.last.named, w2.last.nodes⟩
    rw [er hg, er hn]
    refine ⟨e1, by show ((exec l F (start g g)).at_ : Int) = _; rw [e2], by show ((exec l F (start g g)).left : Int) = _; rw [e3], h6, fun h => absurd h (exec_e _ _ _), fun _ => ⟨hnum, fun hl => ?_⟩⟩
    show number (exec l F (start g g)).σ.last = number g
    rw [exec_last l hl]
    rfl
  · have er : ∀ {k : Gr}, right k = true → runM k F l = ⟨(chk l).2, (chk l).1, F, [], k⟩ := fun {k} hk => by
      rw [runM, if_pos hk, if_neg (by omega)]
    rw [er hg, er hn]
    exact ⟨rfl, rfl, rfl, rfl, fun _ => rfl, fun h => absurd hc h⟩
theorem number_twice {g : Gr} (hg : right g = true) : number (number g) = number g := ((init_iso (well_right hg)).number (well_right hg) (well_right (number_fits hg))).symm

end Go.Proofs.Yteminkohgagedaa.Mo
