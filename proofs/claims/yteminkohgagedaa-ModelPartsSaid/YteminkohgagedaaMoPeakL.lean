/- Plain law: the most cells at once are never fewer than what is reached at the beginning, or what counts at the end. -/
import Derived.Test.YteminkohgagedaaMoPeakW
import Derived.Test.YteminkohgagedaaGrOrd
namespace Go.Proofs.Yteminkohgagedaa.Mo
open Go.RowKit Go.Proofs.Yteminkohgagedaa.Base Go.Proofs.Yteminkohgagedaa.Gr Go.Proofs.Yteminkohgagedaa.Ver
set_option linter.unusedVariables false
set_option linter.unusedSimpArgs false

theorem step_last (x : Ins) (σ : St) : (step x σ).2.last = σ.last ∨ (step x σ).2.last = (step x σ).2.now := by
  by_cases e1 : x.op = 1
  · rw [step_1 σ e1]
    first | exact .inl rfl | exact .inr rfl | (split <;> exact .inl rfl) | (dsimp only; split <;> exact .inl rfl)
  by_cases e2 : x.op = 2
  · rw [step_2 σ e2]
    first | exact .inl rfl | exact .inr rfl | (split <;> exact .inl rfl) | (dsimp only; split <;> exact .inl rfl)
  by_cases e3 : x.op = 3
  · rw [step_3 σ e3]
    first | exact .inl rfl | exact .inr rfl | (split <;> exact .inl rfl) | (dsimp only; split <;> exact .inl rfl)
  by_cases e4 : x.op = 4
  · rw [step_4 σ e4]
    first | exact .inl rfl | exact .inr rfl | (split <;> exact .inl rfl) | (dsimp only; split <;> exact .inl rfl)
  by_cases e5 : x.op = 5
  · rw [step_5 σ e5]
    first | exact .inl rfl | exact .inr rfl | (split <;> exact .inl rfl) | (dsimp only; split <;> exact .inl rfl)
  by_cases e6 : x.op = 6
  · rw [step_6 σ e6]
    first | exact .inl rfl | exact .inr rfl | (split <;> exact .inl rfl) | (dsimp only; split <;> exact .inl rfl)
  by_cases e7 : x.op = 7
  · rw [step_7 σ e7]
    first | exact .inl rfl | exact .inr rfl | (split <;> exact .inl rfl) | (dsimp only; split <;> exact .inl rfl)
  by_cases e8 : x.op = 8
  · rw [step_8 σ e8]
    first | exact .inl rfl | exact .inr rfl | (split <;> exact .inl rfl) | (dsimp only; split <;> exact .inl rfl)
  by_cases e9 : x.op = 9
  · rw [step_9 σ e9]
    first | exact .inl rfl | exact .inr rfl | (split <;> exact .inl rfl) | (dsimp only; split <;> exact .inl rfl)
  by_cases e10 : x.op = 10
  · rw [step_10 σ e10]
    first | exact .inl rfl | exact .inr rfl | (split <;> exact .inl rfl) | (dsimp only; split <;> exact .inl rfl)
  by_cases e11 : x.op = 11
  · rw [step_11 σ e11]
    first | exact .inl rfl | exact .inr rfl | (split <;> exact .inl rfl) | (dsimp only; split <;> exact .inl rfl)
  by_cases e12 : x.op = 12
  · rw [step_12 σ e12]
    first | exact .inl rfl | exact .inr rfl | (split <;> exact .inl rfl) | (dsimp only; split <;> exact .inl rfl)
  by_cases e13 : x.op = 13
  · rw [step_13 σ e13]
    first | exact .inl rfl | exact .inr rfl | (split <;> exact .inl rfl) | (dsimp only; split <;> exact .inl rfl)
  by_cases e14 : x.op = 14
  · rw [step_14 σ e14]
    first | exact .inl rfl | exact .inr rfl | (split <;> exact .inl rfl) | (dsimp only; split <;> exact .inl rfl)
  by_cases e15 : x.op = 15
  · rw [step_15 σ e15]
    first | exact .inl rfl | exact .inr rfl | (split <;> exact .inl rfl) | (dsimp only; split <;> exact .inl rfl)
  by_cases e16 : x.op = 16
  · rw [step_16 σ e16]
    first | exact .inl rfl | exact .inr rfl | (split <;> exact .inl rfl) | (dsimp only; split <;> exact .inl rfl)
  by_cases e17 : x.op = 17
  · rw [step_17 σ e17]
    first | exact .inl rfl | exact .inr rfl | (split <;> exact .inl rfl) | (dsimp only; split <;> exact .inl rfl)
  by_cases e18 : x.op = 18
  · rw [step_18 σ e18]
    first | exact .inl rfl | exact .inr rfl | (split <;> exact .inl rfl) | (dsimp only; split <;> exact .inl rfl)
  by_cases e19 : x.op = 19
  · rw [step_19 σ e19]
    first | exact .inl rfl | exact .inr rfl | (split <;> exact .inl rfl) | (dsimp only; split <;> exact .inl rfl)
  by_cases e20 : x.op = 20
  · rw [step_20 σ e20]
    first | exact .inl rfl | exact .inr rfl | (split <;> exact .inl rfl) | (dsimp only; split <;> exact .inl rfl)
  by_cases e21 : x.op = 21
  · rw [step_21 σ e21]
    first | exact .inl rfl | exact .inr rfl | (split <;> exact .inl rfl) | (dsimp only; split <;> exact .inl rfl)
  unfold step
  rw [if_neg e1, if_neg e2, if_neg e3, if_neg e4, if_neg e5, if_neg e6, if_neg e7, if_neg e8, if_neg e9, if_neg e10, if_neg e11, if_neg e12, if_neg e13, if_neg e14, if_neg e15, if_neg e16, if_neg e17, if_neg e18, if_neg e19, if_neg e20, if_neg e21]
  first | exact .inl rfl | exact .inr rfl | (split <;> exact .inl rfl) | (dsimp only; split <;> exact .inl rfl)
theorem step_e (x : Ins) (σ : St) : (step x σ).1 = 0 ∨ (step x σ).1 = 7 ∨ (step x σ).1 = 8 := by
  have ha : ∀ a i l, atE a i l = 0 ∨ atE a i l = 7 ∨ atE a i l = 8 := fun a i l => by
    unfold atE
    repeat' split
    all_goals simp
  by_cases e1 : x.op = 1
  · rw [step_1 σ e1]
    first | exact .inl rfl | (split; exact .inl rfl; exact ha _ _ _) | (split; exact .inr (.inl rfl); exact .inl rfl)
  by_cases e2 : x.op = 2
  · rw [step_2 σ e2]
    first | exact .inl rfl | (split; exact .inl rfl; exact ha _ _ _) | (split; exact .inr (.inl rfl); exact .inl rfl)
  by_cases e3 : x.op = 3
  · rw [step_3 σ e3]
    first | exact .inl rfl | (split; exact .inl rfl; exact ha _ _ _) | (split; exact .inr (.inl rfl); exact .inl rfl)
  by_cases e4 : x.op = 4
  · rw [step_4 σ e4]
    first | exact .inl rfl | (split; exact .inl rfl; exact ha _ _ _) | (split; exact .inr (.inl rfl); exact .inl rfl)
  by_cases e5 : x.op = 5
  · rw [step_5 σ e5]
    first | exact .inl rfl | (split; exact .inl rfl; exact ha _ _ _) | (split; exact .inr (.inl rfl); exact .inl rfl)
  by_cases e6 : x.op = 6
  · rw [step_6 σ e6]
    first | exact .inl rfl | (split; exact .inl rfl; exact ha _ _ _) | (split; exact .inr (.inl rfl); exact .inl rfl)
  by_cases e7 : x.op = 7
  · rw [step_7 σ e7]
    first | exact .inl rfl | (split; exact .inl rfl; exact ha _ _ _) | (split; exact .inr (.inl rfl); exact .inl rfl)
  by_cases e8 : x.op = 8
  · rw [step_8 σ e8]
    first | exact .inl rfl | (split; exact .inl rfl; exact ha _ _ _) | (split; exact .inr (.inl rfl); exact .inl rfl)
  by_cases e9 : x.op = 9
  · rw [step_9 σ e9]
    first | exact .inl rfl | (split; exact .inl rfl; exact ha _ _ _) | (split; exact .inr (.inl rfl); exact .inl rfl)
  by_cases e10 : x.op = 10
  · rw [step_10 σ e10]
    first | exact .inl rfl | (split; exact .inl rfl; exact ha _ _ _) | (split; exact .inr (.inl rfl); exact .inl rfl)
  by_cases e11 : x.op = 11
  · rw [step_11 σ e11]
    first | exact .inl rfl | (split; exact .inl rfl; exact ha _ _ _) | (split; exact .inr (.inl rfl); exact .inl rfl)
  by_cases e12 : x.op = 12
  · rw [step_12 σ e12]
    first | exact .inl rfl | (split; exact .inl rfl; exact ha _ _ _) | (split; exact .inr (.inl rfl); exact .inl rfl)
  by_cases e13 : x.op = 13
  · rw [step_13 σ e13]
    first | exact .inl rfl | (split; exact .inl rfl; exact ha _ _ _) | (split; exact .inr (.inl rfl); exact .inl rfl)
  by_cases e14 : x.op = 14
  · rw [step_14 σ e14]
    first | exact .inl rfl | (split; exact .inl rfl; exact ha _ _ _) | (split; exact .inr (.inl rfl); exact .inl rfl)
  by_cases e15 : x.op = 15
  · rw [step_15 σ e15]
    first | exact .inl rfl | (split; exact .inl rfl; exact ha _ _ _) | (split; exact .inr (.inl rfl); exact .inl rfl)
  by_cases e16 : x.op = 16
  · rw [step_16 σ e16]
    first | exact .inl rfl | (split; exact .inl rfl; exact ha _ _ _) | (split; exact .inr (.inl rfl); exact .inl rfl)
  by_cases e17 : x.op = 17
  · rw [step_17 σ e17]
    first | exact .inl rfl | (split; exact .inl rfl; exact ha _ _ _) | (split; exact .inr (.inl rfl); exact .inl rfl)
  by_cases e18 : x.op = 18
  · rw [step_18 σ e18]
    first | exact .inl rfl | (split; exact .inl rfl; exact ha _ _ _) | (split; exact .inr (.inl rfl); exact .inl rfl)
  by_cases e19 : x.op = 19
  · rw [step_19 σ e19]
    first | exact .inl rfl | (split; exact .inl rfl; exact ha _ _ _) | (split; exact .inr (.inl rfl); exact .inl rfl)
  by_cases e20 : x.op = 20
  · rw [step_20 σ e20]
    first | exact .inl rfl | (split; exact .inl rfl; exact ha _ _ _) | (split; exact .inr (.inl rfl); exact .inl rfl)
  by_cases e21 : x.op = 21
  · rw [step_21 σ e21]
    first | exact .inl rfl | (split; exact .inl rfl; exact ha _ _ _) | (split; exact .inr (.inl rfl); exact .inl rfl)
  unfold step
  rw [if_neg e1, if_neg e2, if_neg e3, if_neg e4, if_neg e5, if_neg e6, if_neg e7, if_neg e8, if_neg e9, if_neg e10, if_neg e11, if_neg e12, if_neg e13, if_neg e14, if_neg e15, if_neg e16, if_neg e17, if_neg e18, if_neg e19, if_neg e20, if_neg e21]
  first | exact .inl rfl | (split; exact .inl rfl; exact ha _ _ _) | (split; exact .inr (.inl rfl); exact .inl rfl)
theorem exec_e (l : List Ins) (n : Nat) (σ : St) : (exec l n σ).e ≠ 10 := by
  induction n generalizing σ with
  | zero => unfold exec; split <;> simp
  | succ n ih =>
    unfold exec
    split
    · split
      · simp
      · split
        · exact ih _
        · have := step_e (insAt l σ.pc) { σ with pc := σ.pc + 1 }
          show (step (insAt l σ.pc) { σ with pc := σ.pc + 1 }).1 ≠ 10
          omega
    · simp
theorem reach_now {N : Nat} {σ : St} (h : Well N σ) : cells (number σ.now).nodes ≤ reach σ.now σ.refs := by
  unfold reach
  refine reach_more ⟨h.now.named, h.now.nodes⟩ ⟨?_, h.now.nodes⟩ rfl (fun a ha _ => List.mem_append.2 (.inl ha))
  rw [named_iff]
  intro a ha
  rcases List.mem_append.1 ha with h1 | h1
  · exact named_iff.1 h.now.named a h1
  · exact named_iff.1 h.refsN a h1
theorem peak_ge {l : List Ins} (hl : ∀ x ∈ l, x.ok l.length = true) (n N m : Nat) (σ : St) (h : Well N σ) (hm : cells (number σ.last).nodes ≤ m) :
    m ≤ peakGo l n σ m ∧ cells (number (exec l n σ).σ.last).nodes ≤ peakGo l n σ m := by
  induction n generalizing N m σ with
  | zero =>
    rw [peakGo]
    unfold exec
    split <;> exact ⟨Nat.le_refl _, hm⟩
  | succ n ih =>
    by_cases hp : σ.pc < l.length
    · by_cases h0 : (insAt l σ.pc).op = 0
      · rw [peak_halt hp h0]
        unfold exec
        rw [if_pos hp, if_pos h0]
        exact ⟨Nat.le_refl _, hm⟩
      · have hw := step_well (insAt_ok hl hp) (h.pc (σ.pc + 1))
        have hr := reach_now hw
        have hlast : cells (number (step (insAt l σ.pc) { σ with pc := σ.pc + 1 }).2.last).nodes ≤ max m (reach (step (insAt l σ.pc) { σ with pc := σ.pc + 1 }).2.now (step (insAt l σ.pc) { σ with pc := σ.pc + 1 }).2.refs) := by
          rcases step_last (insAt l σ.pc) { σ with pc := σ.pc + 1 } with e | e
          · rw [e]; exact Nat.le_trans hm (Nat.le_max_left _ _)
          · rw [e]; exact Nat.le_trans hr (Nat.le_max_right _ _)
        by_cases h1 : (step (insAt l σ.pc) { σ with pc := σ.pc + 1 }).1 = 0
        · rw [peak_go hp h0 h1]
          have e : (exec l (n + 1) σ).σ = (exec l n (step (insAt l σ.pc) { σ with pc := σ.pc + 1 }).2).σ := by
            conv => lhs; unfold exec
            rw [if_pos hp, if_neg h0, if_pos h1]
          rw [e]
          have := ih (N + 1) _ _ hw hlast
          exact ⟨Nat.le_trans (Nat.le_max_left _ _) this.1, this.2⟩
        · rw [peak_err hp h0 h1]
          have e : (exec l (n + 1) σ).σ = (step (insAt l σ.pc) { σ with pc := σ.pc + 1 }).2 := by
            conv => lhs; unfold exec
            rw [if_pos hp, if_neg h0, if_neg h1]
          rw [e]
          exact ⟨Nat.le_max_left _ _, hlast⟩
    · rw [peak_out hp]
      unfold exec
      rw [if_neg hp]
      exact ⟨Nat.le_refl _, hm⟩
theorem chk_zero (l : List Ins) : (chk l).2 = 0 ∨ (chk l).2 = 10 := by
  unfold chk
  repeat' split
  all_goals simp
/-- What the statement says. -/
theorem peak_law {g : Gr} (hg : right g = true) (F : Nat) (l : List Ins) :
    ((runM g F l).e = 10 → peakM g F l = 0) ∧ ((runM g F l).e ≠ 10 → cells (number g).nodes ≤ peakM g F l ∧ cells (runM g F l).gr.nodes ≤ peakM g F l) := by
  rcases chk_zero l with hc | hc
  · have er : runM g F l = ⟨(exec l F (start g g)).e, (exec l F (start g g)).at_, (exec l F (start g g)).left, (exec l F (start g g)).σ.outs, number (exec l F (start g g)).σ.last⟩ := by
      rw [runM, if_pos hg, if_pos hc]
    have ep : peakM g F l = peakGo l F (start g g) (reach g []) := by rw [peakM, if_pos ⟨hc, hg⟩]
    have hreach : reach g [] = cells (number g).nodes := by
      unfold reach
      rw [List.append_nil]
    refine ⟨fun h => absurd h (by rw [er]; exact exec_e _ _ _), fun _ => ?_⟩
    have := peak_ge (chk_ok hc).2.2.1 F 1000 (reach g []) (start g g) (start_well hg) (by rw [hreach]; exact Nat.le_refl _)
    rw [er, ep]
    refine ⟨?_, this.2⟩
    rw [← hreach]; exact this.1
  · have er : runM g F l = ⟨(chk l).2, (chk l).1, F, [], g⟩ := by rw [runM, if_pos hg, if_neg (by omega)]
    have ep : peakM g F l = 0 := by rw [peakM, if_neg (by omega)]
    exact ⟨fun _ => ep, fun h => absurd (by rw [er]; exact hc) h⟩

end Go.Proofs.Yteminkohgagedaa.Mo
