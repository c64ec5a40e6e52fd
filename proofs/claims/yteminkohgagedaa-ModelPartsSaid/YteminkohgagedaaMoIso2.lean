/- Plain: two machines over graphs that differ in their numbers alone do the same. Printed by gen_moiso2.py, a program of this session. -/
import Derived.Test.YteminkohgagedaaMoIso
import Derived.Test.YteminkohgagedaaMoExec
namespace Go.Proofs.Yteminkohgagedaa.Mo
open Go.RowKit Go.Proofs.Yteminkohgagedaa.Base Go.Proofs.Yteminkohgagedaa.Gr Go.Proofs.Yteminkohgagedaa.Ver
set_option linter.unusedVariables false
set_option linter.unusedSimpArgs false

/-- Two machines that differ in the numbers of nodes alone. -/
def SI (σ τ : St) : Prop := ∃ P Q : Int → Int → Prop, Iso P σ.now τ.now ∧ Iso Q σ.last τ.last ∧ Al P σ.refs τ.refs ∧ σ.nums = τ.nums ∧ σ.pc = τ.pc ∧ σ.outs = τ.outs
theorem SI.pc_ {σ τ : St} (h : SI σ τ) (k : Nat) : SI { σ with pc := k } { τ with pc := k } := by
  obtain ⟨P, Q, h1, h2, h3, h4, h5, h6⟩ := h
  exact ⟨P, Q, h1, h2, h3, h4, rfl, h6⟩
def Alike2 (a b : Int × St) : Prop := a.1 = b.1 ∧ SI a.2 b.2
theorem step_iso {σ τ : St} (x : Ins) (h : SI σ τ) : Alike2 (step x σ) (step x τ) := by
  obtain ⟨P, Q, I, L, hr, hn, hp, ho⟩ := h
  have hg := fun i => hr.gt I.zero i
  have keep : SI σ τ := ⟨P, Q, I, L, hr, hn, hp, ho⟩
  have num : ∀ i v, SI { σ with nums := pu σ.nums i v } { τ with nums := pu τ.nums i v } := fun i v => ⟨P, Q, I, L, hr, by show pu σ.nums i v = pu τ.nums i v; rw [hn], hp, ho⟩
  have ref : ∀ i a b, P a b → SI { σ with refs := pu σ.refs i a } { τ with refs := pu τ.refs i b } := fun i a b hab => ⟨P, Q, I, L, hr.pu hab i, hn, hp, ho⟩
  by_cases e1 : x.op = 1
  · rw [step_1 σ e1, step_1 τ e1]
    exact ⟨rfl, num _ _⟩
  by_cases e2 : x.op = 2
  · rw [step_2 σ e2, step_2 τ e2]
    rw [hn]; exact ⟨rfl, by have := num x.a (rnd (gt τ.nums x.b + gt τ.nums x.c)); rw [hn] at this; exact this⟩
  by_cases e3 : x.op = 3
  · rw [step_3 σ e3, step_3 τ e3]
    rw [hn]; exact ⟨rfl, by have := num x.a (rnd (gt τ.nums x.b - gt τ.nums x.c)); rw [hn] at this; exact this⟩
  by_cases e4 : x.op = 4
  · rw [step_4 σ e4, step_4 τ e4]
    rw [hn]; exact ⟨rfl, by have := num x.a (rnd (gt τ.nums x.b * gt τ.nums x.c)); rw [hn] at this; exact this⟩
  by_cases e5 : x.op = 5
  · rw [step_5 σ e5, step_5 τ e5]
    exact ⟨rfl, keep.pc_ _⟩
  by_cases e6 : x.op = 6
  · rw [step_6 σ e6, step_6 τ e6]
    have e : gt σ.nums x.a = gt τ.nums x.a := by rw [hn]
    rw [e]
    by_cases h0 : gt τ.nums x.a = 0
    · rw [if_pos h0, if_pos h0]; exact ⟨rfl, keep.pc_ _⟩
    · rw [if_neg h0, if_neg h0]; exact ⟨rfl, keep⟩
  by_cases e7 : x.op = 7
  · rw [step_7 σ e7, step_7 τ e7]
    exact ⟨rfl, _, Q, I.made _ _, L, (hr.mono (fun _ _ h => .inl h)).pu (.inr ⟨rfl, rfl⟩) _, hn, hp, ho⟩
  by_cases e8 : x.op = 8
  · rw [step_8 σ e8, step_8 τ e8]
    rw [I.atS (hg x.b)]
    by_cases h0 : atE (gt τ.refs x.b) x.c (nd τ.now (gt τ.refs x.b)).slots = 0
    · rw [if_pos h0, if_pos h0]
      have hz : gt σ.refs x.b ≠ 0 := fun e => by rw [(I.nz (hg x.b)).1 e] at h0; simp [atE] at h0
      exact ⟨rfl, ref _ _ _ ((I.slots (hg x.b) hz).gt I.zero _)⟩
    · rw [if_neg h0, if_neg h0]; exact ⟨rfl, keep⟩
  by_cases e9 : x.op = 9
  · rw [step_9 σ e9, step_9 τ e9]
    rw [I.atS (hg x.a)]
    by_cases h0 : atE (gt τ.refs x.a) x.c (nd τ.now (gt τ.refs x.a)).slots = 0
    · rw [if_pos h0, if_pos h0]
      have hz : gt σ.refs x.a ≠ 0 := fun e => by rw [(I.nz (hg x.a)).1 e] at h0; simp [atE] at h0
      exact ⟨rfl, P, Q, I.setSlot (hg x.a) hz (hg x.b) _, L, hr, hn, hp, ho⟩
    · rw [if_neg h0, if_neg h0]; exact ⟨rfl, keep⟩
  by_cases e10 : x.op = 10
  · rw [step_10 σ e10, step_10 τ e10]
    rw [I.atW (hg x.b)]
    by_cases h0 : atE (gt τ.refs x.b) x.c (nd τ.now (gt τ.refs x.b)).words = 0
    · rw [if_pos h0, if_pos h0]
      have hz : gt σ.refs x.b ≠ 0 := fun e => by rw [(I.nz (hg x.b)).1 e] at h0; simp [atE] at h0
      rw [I.words (hg x.b) hz]
      exact ⟨rfl, num _ _⟩
    · rw [if_neg h0, if_neg h0]; exact ⟨rfl, keep⟩
  by_cases e11 : x.op = 11
  · rw [step_11 σ e11, step_11 τ e11]
    have e : gt σ.nums x.b = gt τ.nums x.b := by rw [hn]
    rw [I.atW (hg x.a), e]
    by_cases h0 : atE (gt τ.refs x.a) x.c (nd τ.now (gt τ.refs x.a)).words = 0
    · rw [if_pos h0, if_pos h0]
      have hz : gt σ.refs x.a ≠ 0 := fun e => by rw [(I.nz (hg x.a)).1 e] at h0; simp [atE] at h0
      exact ⟨rfl, P, Q, I.setWord (hg x.a) hz _ _, L, hr, hn, hp, ho⟩
    · rw [if_neg h0, if_neg h0]; exact ⟨rfl, keep⟩
  by_cases e12 : x.op = 12
  · rw [step_12 σ e12, step_12 τ e12]
    exact ⟨rfl, ref _ _ _ (I.roots.gt I.zero _)⟩
  by_cases e13 : x.op = 13
  · rw [step_13 σ e13, step_13 τ e13]
    exact ⟨rfl, P, Q, I.root (hg x.a) _, L, hr, hn, hp, ho⟩
  by_cases e14 : x.op = 14
  · rw [step_14 σ e14, step_14 τ e14]
    exact ⟨rfl, P, P, I, I, hr, hn, hp, ho⟩
  by_cases e15 : x.op = 15
  · rw [step_15 σ e15, step_15 τ e15]
    exact ⟨rfl, Q, Q, L, L, ⟨L.zero, L.zero, L.zero, L.zero, trivial⟩, hn, hp, ho⟩
  by_cases e16 : x.op = 16
  · rw [step_16 σ e16, step_16 τ e16]
    have e : gt σ.nums x.a = gt τ.nums x.a := by rw [hn]
    have e2 : (σ.outs.length < 1000) = (τ.outs.length < 1000) := by rw [ho]
    rw [e]
    by_cases h0 : τ.outs.length < 1000
    · rw [if_pos h0, if_pos (by rw [e2]; exact h0)]
      exact ⟨rfl, P, Q, I, L, hr, hn, hp, by show σ.outs ++ [_] = τ.outs ++ [_]; rw [ho]⟩
    · rw [if_neg h0, if_neg (by rw [e2]; exact h0)]; exact ⟨rfl, keep⟩
  by_cases e17 : x.op = 17
  · rw [step_17 σ e17, step_17 τ e17]
    exact ⟨rfl, by have e : decide (gt σ.refs x.b = 0) = decide (gt τ.refs x.b = 0) := decide_eq_decide.2 (I.nz (hg x.b)); rw [e]; exact num _ _⟩
  by_cases e18 : x.op = 18
  · rw [step_18 σ e18, step_18 τ e18]
    exact ⟨rfl, by have e : decide (gt σ.refs x.b = gt σ.refs x.c) = decide (gt τ.refs x.b = gt τ.refs x.c) := decide_eq_decide.2 (I.eq (hg x.b) (hg x.c)); rw [e]; exact num _ _⟩
  by_cases e19 : x.op = 19
  · rw [step_19 σ e19, step_19 τ e19]
    exact ⟨rfl, ref _ _ _ I.zero⟩
  by_cases e20 : x.op = 20
  · rw [step_20 σ e20, step_20 τ e20]
    exact ⟨rfl, ref _ _ _ (hg x.b)⟩
  by_cases e21 : x.op = 21
  · rw [step_21 σ e21, step_21 τ e21]
    by_cases h0 : gt σ.refs x.b = 0
    · rw [if_pos h0, if_pos ((I.nz (hg x.b)).1 h0)]; exact ⟨rfl, keep⟩
    · rw [if_neg h0, if_neg (fun e => h0 ((I.nz (hg x.b)).2 e)), I.slotsLen (hg x.b) h0]; exact ⟨rfl, num _ _⟩
  have e22 : ∀ ρ : St, step x ρ = (if gt ρ.refs x.b = 0 then (7, ρ) else (0, { ρ with nums := pu ρ.nums x.a ((nd ρ.now (gt ρ.refs x.b)).words.length) })) := fun ρ => by
    unfold step
    rw [if_neg e1, if_neg e2, if_neg e3, if_neg e4, if_neg e5, if_neg e6, if_neg e7, if_neg e8, if_neg e9, if_neg e10, if_neg e11, if_neg e12, if_neg e13, if_neg e14, if_neg e15, if_neg e16, if_neg e17, if_neg e18, if_neg e19, if_neg e20, if_neg e21]
  rw [e22 σ, e22 τ]
  by_cases h0 : gt σ.refs x.b = 0
  · rw [if_pos h0, if_pos ((I.nz (hg x.b)).1 h0)]; exact ⟨rfl, keep⟩
  · rw [if_neg h0, if_neg (fun e => h0 ((I.nz (hg x.b)).2 e)), I.words (hg x.b) h0]; exact ⟨rfl, num _ _⟩

theorem exec_iso (l : List Ins) (n : Nat) {σ τ : St} (h : SI σ τ) : (exec l n σ).e = (exec l n τ).e ∧ (exec l n σ).at_ = (exec l n τ).at_ ∧ (exec l n σ).left = (exec l n τ).left ∧ SI (exec l n σ).σ (exec l n τ).σ := by
  induction n generalizing σ τ with
  | zero =>
    have hp : σ.pc = τ.pc := by obtain ⟨P, Q, h1, h2, h3, h4, h5, h6⟩ := h; exact h5
    unfold exec
    rw [hp]
    by_cases h1 : τ.pc < l.length
    · rw [if_pos h1, if_pos h1]; exact ⟨rfl, rfl, rfl, h⟩
    · rw [if_neg h1, if_neg h1]; exact ⟨rfl, rfl, rfl, h⟩
  | succ n ih =>
    have hp : σ.pc = τ.pc := by obtain ⟨P, Q, h1, h2, h3, h4, h5, h6⟩ := h; exact h5
    unfold exec
    rw [hp]
    by_cases h1 : τ.pc < l.length
    · rw [if_pos h1, if_pos h1]
      by_cases h2 : (insAt l τ.pc).op = 0
      · rw [if_pos h2, if_pos h2]; exact ⟨rfl, rfl, rfl, h.pc_ _⟩
      · rw [if_neg h2, if_neg h2]
        obtain ⟨e1, e2⟩ := step_iso (insAt l τ.pc) (h.pc_ (τ.pc + 1))
        rw [e1]
        by_cases h3 : (step (insAt l τ.pc) { τ with pc := τ.pc + 1 }).1 = 0
        · rw [if_pos h3, if_pos h3]
          exact ih e2
        · rw [if_neg h3, if_neg h3]
          exact ⟨rfl, rfl, rfl, e2⟩
    · rw [if_neg h1, if_neg h1]; exact ⟨rfl, rfl, rfl, h⟩
/-- What was not committed does not count. -/
theorem exec_last (l : List Ins) (hl : ∀ x ∈ l, x.op ≠ 14) (n : Nat) (σ : St) : (exec l n σ).σ.last = σ.last := by
  have hs : ∀ (x : Ins) (ρ : St), x.op ≠ 14 → (step x ρ).2.last = ρ.last := by
    intro x ρ h14
    by_cases e1 : x.op = 1
    · rw [step_1 ρ e1]
      all_goals first | rfl | (split <;> rfl) | (dsimp only; split <;> rfl)
    by_cases e2 : x.op = 2
    · rw [step_2 ρ e2]
      all_goals first | rfl | (split <;> rfl) | (dsimp only; split <;> rfl)
    by_cases e3 : x.op = 3
    · rw [step_3 ρ e3]
      all_goals first | rfl | (split <;> rfl) | (dsimp only; split <;> rfl)
    by_cases e4 : x.op = 4
    · rw [step_4 ρ e4]
      all_goals first | rfl | (split <;> rfl) | (dsimp only; split <;> rfl)
    by_cases e5 : x.op = 5
    · rw [step_5 ρ e5]
      all_goals first | rfl | (split <;> rfl) | (dsimp only; split <;> rfl)
    by_cases e6 : x.op = 6
    · rw [step_6 ρ e6]
      all_goals first | rfl | (split <;> rfl) | (dsimp only; split <;> rfl)
    by_cases e7 : x.op = 7
    · rw [step_7 ρ e7]
      all_goals first | rfl | (split <;> rfl) | (dsimp only; split <;> rfl)
    by_cases e8 : x.op = 8
    · rw [step_8 ρ e8]
      all_goals first | rfl | (split <;> rfl) | (dsimp only; split <;> rfl)
    by_cases e9 : x.op = 9
    · rw [step_9 ρ e9]
      all_goals first | rfl | (split <;> rfl) | (dsimp only; split <;> rfl)
    by_cases e10 : x.op = 10
    · rw [step_10 ρ e10]
      all_goals first | rfl | (split <;> rfl) | (dsimp only; split <;> rfl)
    by_cases e11 : x.op = 11
    · rw [step_11 ρ e11]
      all_goals first | rfl | (split <;> rfl) | (dsimp only; split <;> rfl)
    by_cases e12 : x.op = 12
    · rw [step_12 ρ e12]
      all_goals first | rfl | (split <;> rfl) | (dsimp only; split <;> rfl)
    by_cases e13 : x.op = 13
    · rw [step_13 ρ e13]
      all_goals first | rfl | (split <;> rfl) | (dsimp only; split <;> rfl)
    have e14 := h14
    by_cases e15 : x.op = 15
    · rw [step_15 ρ e15]
      all_goals first | rfl | (split <;> rfl) | (dsimp only; split <;> rfl)
    by_cases e16 : x.op = 16
    · rw [step_16 ρ e16]
      all_goals first | rfl | (split <;> rfl) | (dsimp only; split <;> rfl)
    by_cases e17 : x.op = 17
    · rw [step_17 ρ e17]
      all_goals first | rfl | (split <;> rfl) | (dsimp only; split <;> rfl)
    by_cases e18 : x.op = 18
    · rw [step_18 ρ e18]
      all_goals first | rfl | (split <;> rfl) | (dsimp only; split <;> rfl)
    by_cases e19 : x.op = 19
    · rw [step_19 ρ e19]
      all_goals first | rfl | (split <;> rfl) | (dsimp only; split <;> rfl)
    by_cases e20 : x.op = 20
    · rw [step_20 ρ e20]
      all_goals first | rfl | (split <;> rfl) | (dsimp only; split <;> rfl)
    by_cases e21 : x.op = 21
    · rw [step_21 ρ e21]
      all_goals first | rfl | (split <;> rfl) | (dsimp only; split <;> rfl)
    unfold step
    rw [if_neg e1, if_neg e2, if_neg e3, if_neg e4, if_neg e5, if_neg e6, if_neg e7, if_neg e8, if_neg e9, if_neg e10, if_neg e11, if_neg e12, if_neg e13, if_neg e14, if_neg e15, if_neg e16, if_neg e17, if_neg e18, if_neg e19, if_neg e20, if_neg e21]
    split <;> rfl
  induction n generalizing σ with
  | zero => unfold exec; split <;> rfl
  | succ n ih =>
    unfold exec
    split
    next hp =>
      have hx : (insAt l σ.pc).op ≠ 14 := by
        unfold insAt
        rw [List.getD_eq_getElem?_getD, List.getElem?_eq_getElem hp]
        exact hl _ (List.getElem_mem hp)
      split
      · rfl
      · split
        · rw [ih, hs _ _ hx]
        · exact hs _ _ hx
    · rfl
end Go.Proofs.Yteminkohgagedaa.Mo
