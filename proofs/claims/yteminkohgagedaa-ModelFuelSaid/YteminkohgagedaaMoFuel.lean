/- Plain: less fuel does what the first instructions do. -/
import Derived.Test.YteminkohgagedaaMoLaws
namespace Go.Proofs.Yteminkohgagedaa.Mo
open Go.RowKit Go.Proofs.Yteminkohgagedaa.Base Go.Proofs.Yteminkohgagedaa.Gr Go.Proofs.Yteminkohgagedaa.Ver
set_option linter.unusedVariables false
set_option linter.unusedSimpArgs false

theorem atE_ne (a i : Int) (l : List Int) : atE a i l ≠ 11 := by
  unfold atE
  split
  · decide
  · split <;> decide
theorem step_ind (P : Int × St → Prop) (x : Ins) (σ : St) (h0 : ∀ σ' : St, σ'.outs = σ.outs → P (0, σ')) (hO : ∀ v, P (0, { σ with outs := σ.outs ++ [v] })) (hE : ∀ a i l, atE a i l ≠ 0 → P (atE a i l, σ)) (h7 : P (7, σ)) : P (step x σ) := by
  unfold step
  by_cases e1 : x.op = 1
  · rw [if_pos e1]; exact h0 _ rfl
  rw [if_neg e1]
  by_cases e2 : x.op = 2
  · rw [if_pos e2]; exact h0 _ rfl
  rw [if_neg e2]
  by_cases e3 : x.op = 3
  · rw [if_pos e3]; exact h0 _ rfl
  rw [if_neg e3]
  by_cases e4 : x.op = 4
  · rw [if_pos e4]; exact h0 _ rfl
  rw [if_neg e4]
  by_cases e5 : x.op = 5
  · rw [if_pos e5]; exact h0 _ rfl
  rw [if_neg e5]
  by_cases e6 : x.op = 6
  · rw [if_pos e6]; exact h0 _ (by split <;> rfl)
  rw [if_neg e6]
  by_cases e7 : x.op = 7
  · rw [if_pos e7]; exact h0 _ rfl
  rw [if_neg e7]
  by_cases e8 : x.op = 8
  · rw [if_pos e8]
    by_cases hq : atE (gt σ.refs x.b) x.c (nd σ.now (gt σ.refs x.b)).slots = 0
    · rw [if_pos hq]; exact h0 _ rfl
    · rw [if_neg hq]; exact hE _ _ _ hq
  rw [if_neg e8]
  by_cases e9 : x.op = 9
  · rw [if_pos e9]
    by_cases hq : atE (gt σ.refs x.a) x.c (nd σ.now (gt σ.refs x.a)).slots = 0
    · rw [if_pos hq]; exact h0 _ rfl
    · rw [if_neg hq]; exact hE _ _ _ hq
  rw [if_neg e9]
  by_cases e10 : x.op = 10
  · rw [if_pos e10]
    by_cases hq : atE (gt σ.refs x.b) x.c (nd σ.now (gt σ.refs x.b)).words = 0
    · rw [if_pos hq]; exact h0 _ rfl
    · rw [if_neg hq]; exact hE _ _ _ hq
  rw [if_neg e10]
  by_cases e11 : x.op = 11
  · rw [if_pos e11]
    by_cases hq : atE (gt σ.refs x.a) x.c (nd σ.now (gt σ.refs x.a)).words = 0
    · rw [if_pos hq]; exact h0 _ rfl
    · rw [if_neg hq]; exact hE _ _ _ hq
  rw [if_neg e11]
  by_cases e12 : x.op = 12
  · rw [if_pos e12]; exact h0 _ rfl
  rw [if_neg e12]
  by_cases e13 : x.op = 13
  · rw [if_pos e13]; exact h0 _ rfl
  rw [if_neg e13]
  by_cases e14 : x.op = 14
  · rw [if_pos e14]; exact h0 _ rfl
  rw [if_neg e14]
  by_cases e15 : x.op = 15
  · rw [if_pos e15]; exact h0 _ rfl
  rw [if_neg e15]
  by_cases e16 : x.op = 16
  · rw [if_pos e16]
    by_cases hq : σ.outs.length < 1000
    · rw [if_pos hq]; exact hO _
    · rw [if_neg hq]; exact h0 _ rfl
  rw [if_neg e16]
  by_cases e17 : x.op = 17
  · rw [if_pos e17]; exact h0 _ rfl
  rw [if_neg e17]
  by_cases e18 : x.op = 18
  · rw [if_pos e18]; exact h0 _ rfl
  rw [if_neg e18]
  by_cases e19 : x.op = 19
  · rw [if_pos e19]; exact h0 _ rfl
  rw [if_neg e19]
  by_cases e20 : x.op = 20
  · rw [if_pos e20]; exact h0 _ rfl
  rw [if_neg e20]
  by_cases e21 : x.op = 21
  · rw [if_pos e21]
    by_cases hq : gt σ.refs x.b = 0
    · rw [if_pos hq]; exact h7
    · rw [if_neg hq]; exact h0 _ rfl
  rw [if_neg e21]
  by_cases hq : gt σ.refs x.b = 0
  · rw [if_pos hq]; exact h7
  · rw [if_neg hq]; exact h0 _ rfl
theorem step_ne (x : Ins) (σ : St) : (step x σ).1 ≠ 11 := step_ind (fun p => p.1 ≠ 11) x σ (fun _ _ => (show (0 : Int) ≠ 11 by decide)) (fun _ => (show (0 : Int) ≠ 11 by decide)) (fun a i l _ => atE_ne a i l) (show (7 : Int) ≠ 11 by decide)
theorem step_outs (x : Ins) (σ : St) : σ.outs <+: (step x σ).2.outs := step_ind (fun p => σ.outs <+: p.2.outs) x σ (fun σ' h => by show σ.outs <+: σ'.outs; rw [h]; exact List.prefix_refl _) (fun _ => List.prefix_append _ _) (fun _ _ _ _ => List.prefix_refl _) (List.prefix_refl _)
theorem exec_outs (l : List Ins) (n : Nat) (σ : St) : σ.outs <+: (exec l n σ).σ.outs := by
  induction n generalizing σ with
  | zero => unfold exec; split <;> exact List.prefix_refl _
  | succ n ih =>
    unfold exec
    split
    · split
      · exact List.prefix_refl _
      · split
        · exact (step_outs (insAt l σ.pc) { σ with pc := σ.pc + 1 }).trans (ih _)
        · exact step_outs (insAt l σ.pc) { σ with pc := σ.pc + 1 }
    · exact List.prefix_refl _
theorem exec_left (l : List Ins) (n : Nat) (σ : St) : (exec l n σ).left ≤ n := by
  induction n generalizing σ with
  | zero => unfold exec; split <;> exact Nat.le_refl _
  | succ n ih =>
    unfold exec
    split
    · split
      · exact Nat.le_succ _
      · split
        · exact Nat.le_trans (ih _) (Nat.le_succ _)
        · exact Nat.le_succ _
    · exact Nat.le_refl _
/-- Enough fuel: more of it changes nothing. -/
theorem exec_more (l : List Ins) (n d : Nat) (σ : St) (h : (exec l n σ).e ≠ 11) : (exec l (n + d) σ).e = (exec l n σ).e ∧ (exec l (n + d) σ).at_ = (exec l n σ).at_ ∧ (exec l (n + d) σ).left = (exec l n σ).left + d ∧ (exec l (n + d) σ).σ.outs = (exec l n σ).σ.outs := by
  induction n generalizing σ with
  | zero =>
    by_cases hp : σ.pc < l.length
    · exact absurd (by rw [exec_fuel hp]) h
    · rw [exec_out hp, exec_out hp]
      exact ⟨rfl, rfl, by simp, rfl⟩
  | succ n ih =>
    by_cases hp : σ.pc < l.length
    · rw [show n + 1 + d = (n + d) + 1 by omega]
      by_cases h0 : (insAt l σ.pc).op = 0
      · rw [exec_halt hp h0, exec_halt hp h0]
        exact ⟨rfl, rfl, rfl, rfl⟩
      · by_cases h1 : (step (insAt l σ.pc) { σ with pc := σ.pc + 1 }).1 = 0
        · rw [exec_go hp h0 h1] at h
          rw [exec_go hp h0 h1, exec_go hp h0 h1]
          exact ih _ h
        · rw [exec_err hp h0 h1, exec_err hp h0 h1]
          exact ⟨rfl, rfl, rfl, rfl⟩
    · rw [exec_out hp, exec_out hp]
      exact ⟨rfl, rfl, rfl, rfl⟩
/-- Out of fuel: none is left, and what was told is told with more, too. -/
theorem exec_short (l : List Ins) (n d : Nat) (σ : St) (h : (exec l n σ).e = 11) : (exec l n σ).left = 0 ∧ (exec l n σ).σ.outs <+: (exec l (n + d) σ).σ.outs := by
  induction n generalizing σ with
  | zero =>
    by_cases hp : σ.pc < l.length
    · rw [exec_fuel hp]
      exact ⟨rfl, exec_outs l _ σ⟩
    · rw [exec_out hp] at h
      exact absurd (show (0 : Int) = 11 from h) (by decide)
  | succ n ih =>
    by_cases hp : σ.pc < l.length
    · rw [show n + 1 + d = (n + d) + 1 by omega]
      by_cases h0 : (insAt l σ.pc).op = 0
      · rw [exec_halt hp h0] at h
        exact absurd (show (0 : Int) = 11 from h) (by decide)
      · by_cases h1 : (step (insAt l σ.pc) { σ with pc := σ.pc + 1 }).1 = 0
        · rw [exec_go hp h0 h1] at h
          rw [exec_go hp h0 h1, exec_go hp h0 h1]
          exact ih _ h
        · rw [exec_err hp h0 h1] at h
          exact absurd h (step_ne _ _)
    · rw [exec_out hp] at h
      exact absurd (show (0 : Int) = 11 from h) (by decide)
theorem chk_e (l : List Ins) : (chk l).2 = 0 ∨ (chk l).2 = 10 := by
  unfold chk
  repeat' split
  all_goals simp
theorem runM_outs (l : List Ins) (F : Nat) : (runM emptyG F l).outs.length ≤ 1000 := by
  unfold runM
  rw [if_pos right_empty]
  by_cases hc : (chk l).2 = 0
  · rw [if_pos hc]
    exact (exec_well (chk_ok hc).2.2.1 F 1000 (start emptyG emptyG) (start_well right_empty)).outs
  · rw [if_neg hc]
    exact Nat.zero_le _
/-- The law. -/
theorem fuel_law (l : List Ins) (a b : Nat) (h : a ≤ b) :
    ((runM emptyG a l).e ≠ 11 → (runM emptyG a l).e = (runM emptyG b l).e ∧ (runM emptyG a l).at_ = (runM emptyG b l).at_ ∧ (runM emptyG a l).outs = (runM emptyG b l).outs ∧ ((runM emptyG a l).e = 10 ∨ (b : Int) - (runM emptyG b l).left = (a : Int) - (runM emptyG a l).left)) ∧
    ((runM emptyG a l).e = 11 → (runM emptyG a l).left = 0 ∧ (runM emptyG a l).outs.length ≤ (runM emptyG b l).outs.length ∧ (runM emptyG a l).outs = (runM emptyG b l).outs.take (runM emptyG a l).outs.length) := by
  obtain ⟨d, rfl⟩ : ∃ d, b = a + d := ⟨b - a, by omega⟩
  unfold runM
  rw [if_pos right_empty, if_pos right_empty]
  rcases chk_e l with hc | hc
  · rw [if_pos hc, if_pos hc]
    refine ⟨fun he => ?_, fun he => ?_⟩
    · obtain ⟨h1, h2, h3, h4⟩ := exec_more l a d (start emptyG emptyG) he
      refine ⟨h1.symm, by rw [h2], h4.symm, .inr ?_⟩
      show ((a + d : Nat) : Int) - ((exec l (a + d) (start emptyG emptyG)).left : Int) = (a : Int) - ((exec l a (start emptyG emptyG)).left : Int)
      omega
    · obtain ⟨h1, h2⟩ := exec_short l a d (start emptyG emptyG) he
      exact ⟨by rw [h1]; rfl, h2.length_le, (List.prefix_iff_eq_take.1 h2)⟩
  · have hn : ¬ (chk l).2 = 0 := by rw [hc]; decide
    rw [if_neg hn, if_neg hn]
    refine ⟨fun _ => ⟨rfl, rfl, rfl, .inl hc⟩, fun he => ?_⟩
    rw [show (chk l).2 = 11 from he] at hc
    exact absurd hc (by decide)

end Go.Proofs.Yteminkohgagedaa.Mo
