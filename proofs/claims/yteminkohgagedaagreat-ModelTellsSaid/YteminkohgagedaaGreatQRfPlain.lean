/- Plain: the reference's machine and the model's tell the same, and leave graphs that differ in their numbers alone. -/
import Derived.Test.YteminkohgagedaaGreatQRfSound
import Derived.Test.YteminkohgagedaaGreatQMoExecP
namespace Go.Proofs.YteminkohgagedaaGreat.Rf
open Go.RowKit Go.Proofs.YteminkohgagedaaGreat.Base Go.Proofs.YteminkohgagedaaGreat.Gr Go.Proofs.YteminkohgagedaaGreat.Ver Go.Proofs.YteminkohgagedaaGreat.Mo
set_option linter.unusedVariables false
set_option linter.unusedSimpArgs false

section
variable {P Q : Int → Int → Prop} {g h k : Gr}
theorem Al.comp : ∀ {l m n : List Int}, Al P l m → Al Q m n → Al (fun a c => ∃ b, P a b ∧ Q b c) l n
  | [], [], [], _, _ => trivial
  | a :: l, b :: m, c :: n, h, k => ⟨⟨b, h.1, k.1⟩, Al.comp h.2 k.2⟩
  | [], b :: m, _, h, _ => h.elim
  | a :: l, [], _, h, _ => h.elim
  | _, [], c :: n, _, k => k.elim
  | _, b :: m, [], _, k => k.elim
theorem Iso.comp (I : Iso P g h) (J : Iso Q h k) : Iso (fun a c => ∃ b, P a b ∧ Q b c) g k := by
  refine ⟨⟨0, I.zero, J.zero⟩, ?_, ?_, ?_, ?_, ?_, Al.comp I.roots J.roots⟩
  · rintro a b c ⟨x, h1, h2⟩ ⟨y, h3, h4⟩
    have := I.fn h1 h3
    subst this
    exact J.fn h2 h4
  · rintro a b c ⟨x, h1, h2⟩ ⟨y, h3, h4⟩
    have := J.inj h2 h4
    subst this
    exact I.inj h1 h3
  · rintro a b ⟨x, h1, h2⟩ h0
    have hx : x ≠ 0 := fun e => h0 ((I.nz h1).2 e)
    exact ⟨(I.rng h1 h0).1, (I.rng h1 h0).2.1, (J.rng h2 hx).2.2⟩
  · rintro a b ⟨x, h1, h2⟩ h0
    have hx : x ≠ 0 := fun e => h0 ((I.nz h1).2 e)
    exact Al.comp (I.slots h1 h0) (J.slots h2 hx)
  · rintro a b ⟨x, h1, h2⟩ h0
    have hx : x ≠ 0 := fun e => h0 ((I.nz h1).2 e)
    exact (I.words h1 h0).trans (J.words h2 hx)
theorem Al.app : ∀ {l m l' m' : List Int}, Al P l m → Al P l' m' → Al P (l ++ l') (m ++ m')
  | [], [], _, _, _, k => k
  | a :: l, b :: m, _, _, h, k => ⟨h.1, Al.app h.2 k⟩
  | [], b :: m, _, _, h, _ => h.elim
  | a :: l, [], _, _, h, _ => h.elim
theorem Iso.more (I : Iso P g h) {l m : List Int} (hl : Al P l m) : Iso P ⟨g.roots ++ l, g.nodes⟩ ⟨h.roots ++ m, h.nodes⟩ := ⟨I.zero, I.fn, I.inj, I.rng, I.slots, I.words, Al.app I.roots hl⟩
end
theorem well_more {N : Nat} {g : Gr} (h : Sound N g) {l : List Int} (hl : named l g.nodes.length = true) : wellG ⟨g.roots ++ l, g.nodes⟩ := by
  refine ⟨?_, h.nodes⟩
  have h1 := h.named
  unfold named at *
  rw [List.all_append, h1, hl]
  rfl
theorem reach_iso {N M : Nat} {σ τ : St} (hs : SI σ τ) (hσ : Well N σ) (hτ : Well M τ) : reach σ.now σ.refs = reach τ.now τ.refs := by
  obtain ⟨P, Q, I, L, hr, _⟩ := hs
  unfold reach
  rw [(Iso.more I hr).number (well_more hσ.now hσ.refsN) (well_more hτ.now hτ.refsN)]
/-- The reference's step, beside the model's. -/
theorem rstep_iso {M : Nat} {σ τ : St} (x : Ins) (h : SI σ τ) (hτ : Well M τ) : Alike2 (Mo.step x σ) (rstep x τ) := by
  by_cases e : x.op = 14
  · have e1 : rstep x τ = (0, { τ with last := number τ.now }) := if_pos e
    rw [e1, step_14 σ e]
    obtain ⟨P, Q, I, L, hr, hn, hp, ho⟩ := h
    exact ⟨rfl, P, _, I, Iso.comp I (init_iso (well_sound hτ.now)), hr, hn, hp, ho⟩
  · have e1 : rstep x τ = Mo.step x τ := if_neg e
    rw [e1]
    exact step_iso x h
/-- What the reference's program comes to, and the most cells at once. -/
def rexec (l : List Ins) : Nat → St → Nat → Res × Nat
  | 0, σ, m => (if σ.pc < l.length then ⟨11, σ.pc, 0, σ⟩ else ⟨0, l.length, 0, σ⟩, m)
  | n + 1, σ, m =>
    if σ.pc < l.length then
      if (insAt l σ.pc).op = 0 then (⟨0, σ.pc, n, { σ with pc := σ.pc + 1 }⟩, m)
      else if (rstep (insAt l σ.pc) { σ with pc := σ.pc + 1 }).1 = 0 then rexec l n (rstep (insAt l σ.pc) { σ with pc := σ.pc + 1 }).2 (max m (reach (rstep (insAt l σ.pc) { σ with pc := σ.pc + 1 }).2.now (rstep (insAt l σ.pc) { σ with pc := σ.pc + 1 }).2.refs))
      else (⟨(rstep (insAt l σ.pc) { σ with pc := σ.pc + 1 }).1, σ.pc, n, (rstep (insAt l σ.pc) { σ with pc := σ.pc + 1 }).2⟩, m)
    else (⟨0, l.length, n + 1, σ⟩, m)

theorem step_err {x : Ins} {σ : St} (h : (Mo.step x σ).1 ≠ 0) : (Mo.step x σ).2 = σ := by
  by_cases e1 : x.op = 1
  · rw [step_1 σ e1] at h ⊢
    first
      | exact absurd rfl h
      | ((try dsimp only at h ⊢); split at h <;> first | exact absurd rfl h | (rename_i q; rw [if_neg q]) | (rename_i q; rw [if_pos q]))
  by_cases e2 : x.op = 2
  · rw [step_2 σ e2] at h ⊢
    first
      | exact absurd rfl h
      | ((try dsimp only at h ⊢); split at h <;> first | exact absurd rfl h | (rename_i q; rw [if_neg q]) | (rename_i q; rw [if_pos q]))
  by_cases e3 : x.op = 3
  · rw [step_3 σ e3] at h ⊢
    first
      | exact absurd rfl h
      | ((try dsimp only at h ⊢); split at h <;> first | exact absurd rfl h | (rename_i q; rw [if_neg q]) | (rename_i q; rw [if_pos q]))
  by_cases e4 : x.op = 4
  · rw [step_4 σ e4] at h ⊢
    first
      | exact absurd rfl h
      | ((try dsimp only at h ⊢); split at h <;> first | exact absurd rfl h | (rename_i q; rw [if_neg q]) | (rename_i q; rw [if_pos q]))
  by_cases e5 : x.op = 5
  · rw [step_5 σ e5] at h ⊢
    first
      | exact absurd rfl h
      | ((try dsimp only at h ⊢); split at h <;> first | exact absurd rfl h | (rename_i q; rw [if_neg q]) | (rename_i q; rw [if_pos q]))
  by_cases e6 : x.op = 6
  · rw [step_6 σ e6] at h ⊢
    first
      | exact absurd rfl h
      | ((try dsimp only at h ⊢); split at h <;> first | exact absurd rfl h | (rename_i q; rw [if_neg q]) | (rename_i q; rw [if_pos q]))
  by_cases e7 : x.op = 7
  · rw [step_7 σ e7] at h ⊢
    first
      | exact absurd rfl h
      | ((try dsimp only at h ⊢); split at h <;> first | exact absurd rfl h | (rename_i q; rw [if_neg q]) | (rename_i q; rw [if_pos q]))
  by_cases e8 : x.op = 8
  · rw [step_8 σ e8] at h ⊢
    first
      | exact absurd rfl h
      | ((try dsimp only at h ⊢); split at h <;> first | exact absurd rfl h | (rename_i q; rw [if_neg q]) | (rename_i q; rw [if_pos q]))
  by_cases e9 : x.op = 9
  · rw [step_9 σ e9] at h ⊢
    first
      | exact absurd rfl h
      | ((try dsimp only at h ⊢); split at h <;> first | exact absurd rfl h | (rename_i q; rw [if_neg q]) | (rename_i q; rw [if_pos q]))
  by_cases e10 : x.op = 10
  · rw [step_10 σ e10] at h ⊢
    first
      | exact absurd rfl h
      | ((try dsimp only at h ⊢); split at h <;> first | exact absurd rfl h | (rename_i q; rw [if_neg q]) | (rename_i q; rw [if_pos q]))
  by_cases e11 : x.op = 11
  · rw [step_11 σ e11] at h ⊢
    first
      | exact absurd rfl h
      | ((try dsimp only at h ⊢); split at h <;> first | exact absurd rfl h | (rename_i q; rw [if_neg q]) | (rename_i q; rw [if_pos q]))
  by_cases e12 : x.op = 12
  · rw [step_12 σ e12] at h ⊢
    first
      | exact absurd rfl h
      | ((try dsimp only at h ⊢); split at h <;> first | exact absurd rfl h | (rename_i q; rw [if_neg q]) | (rename_i q; rw [if_pos q]))
  by_cases e13 : x.op = 13
  · rw [step_13 σ e13] at h ⊢
    first
      | exact absurd rfl h
      | ((try dsimp only at h ⊢); split at h <;> first | exact absurd rfl h | (rename_i q; rw [if_neg q]) | (rename_i q; rw [if_pos q]))
  by_cases e14 : x.op = 14
  · rw [step_14 σ e14] at h ⊢
    first
      | exact absurd rfl h
      | ((try dsimp only at h ⊢); split at h <;> first | exact absurd rfl h | (rename_i q; rw [if_neg q]) | (rename_i q; rw [if_pos q]))
  by_cases e15 : x.op = 15
  · rw [step_15 σ e15] at h ⊢
    first
      | exact absurd rfl h
      | ((try dsimp only at h ⊢); split at h <;> first | exact absurd rfl h | (rename_i q; rw [if_neg q]) | (rename_i q; rw [if_pos q]))
  by_cases e16 : x.op = 16
  · rw [step_16 σ e16] at h ⊢
    first
      | exact absurd rfl h
      | ((try dsimp only at h ⊢); split at h <;> first | exact absurd rfl h | (rename_i q; rw [if_neg q]) | (rename_i q; rw [if_pos q]))
  by_cases e17 : x.op = 17
  · rw [step_17 σ e17] at h ⊢
    first
      | exact absurd rfl h
      | ((try dsimp only at h ⊢); split at h <;> first | exact absurd rfl h | (rename_i q; rw [if_neg q]) | (rename_i q; rw [if_pos q]))
  by_cases e18 : x.op = 18
  · rw [step_18 σ e18] at h ⊢
    first
      | exact absurd rfl h
      | ((try dsimp only at h ⊢); split at h <;> first | exact absurd rfl h | (rename_i q; rw [if_neg q]) | (rename_i q; rw [if_pos q]))
  by_cases e19 : x.op = 19
  · rw [step_19 σ e19] at h ⊢
    first
      | exact absurd rfl h
      | ((try dsimp only at h ⊢); split at h <;> first | exact absurd rfl h | (rename_i q; rw [if_neg q]) | (rename_i q; rw [if_pos q]))
  by_cases e20 : x.op = 20
  · rw [step_20 σ e20] at h ⊢
    first
      | exact absurd rfl h
      | ((try dsimp only at h ⊢); split at h <;> first | exact absurd rfl h | (rename_i q; rw [if_neg q]) | (rename_i q; rw [if_pos q]))
  by_cases e21 : x.op = 21
  · rw [step_21 σ e21] at h ⊢
    first
      | exact absurd rfl h
      | ((try dsimp only at h ⊢); split at h <;> first | exact absurd rfl h | (rename_i q; rw [if_neg q]) | (rename_i q; rw [if_pos q]))
  have hs : Mo.step x σ = (if gt σ.refs x.b = 0 then (7, σ) else (0, { σ with nums := pu σ.nums x.a ((nd σ.now (gt σ.refs x.b)).words.length) })) := by
    unfold Mo.step
    simp only [e1, e2, e3, e4, e5, e6, e7, e8, e9, e10, e11, e12, e13, e14, e15, e16, e17, e18, e19, e20, e21, if_false]
  rw [hs] at h ⊢
  split at h
  · rename_i q; rw [if_pos q]
  · exact absurd rfl h
theorem rstep_well {N n : Nat} {x : Ins} {σ : St} (hx : x.ok n = true) (h : Well N σ) : Well (N + 1) (rstep x σ).2 := by
  by_cases e : x.op = 14
  · have e1 : rstep x σ = (0, { σ with last := number σ.now }) := if_pos e
    rw [e1]
    have h' := h.more (Nat.le_succ N)
    exact ⟨h'.now, sound_number h'.now, h'.refs, h'.refsN, h'.nums, h'.numsN, h'.outs, h'.outsN⟩
  · have e1 : rstep x σ = Mo.step x σ := if_neg e
    rw [e1]
    exact step_well hx h
theorem ins_ok {l : List Ins} (hl : ∀ x ∈ l, x.ok l.length = true) {k : Nat} (h : k < l.length) : (insAt l k).ok l.length = true := by
  unfold insAt
  rw [List.getD_eq_getElem?_getD, List.getElem?_eq_getElem h]
  exact hl _ (List.getElem_mem h)
theorem well_pc {N : Nat} {σ : St} (h : Well N σ) (k : Nat) : Well N { σ with pc := k } := ⟨h.now, h.last, h.refs, h.refsN, h.nums, h.numsN, h.outs, h.outsN⟩
theorem rexec_sim {l : List Ins} (hl : ∀ x ∈ l, x.ok l.length = true) : ∀ (n N m : Nat) (σ τ : St), SI σ τ → Well N σ → Well N τ → reach σ.now σ.refs ≤ m →
    ((exec l n σ).e = (rexec l n τ m).1.e ∧ (exec l n σ).at_ = (rexec l n τ m).1.at_ ∧ (exec l n σ).left = (rexec l n τ m).1.left) ∧ SI (exec l n σ).σ (rexec l n τ m).1.σ ∧ peakGo l n σ m = (rexec l n τ m).2 ∧ Well (N + n) (rexec l n τ m).1.σ := by
  intro n
  induction n with
  | zero =>
    intro N m σ τ hs hσ hτ hm
    obtain ⟨P, Q, I, L, hr, hn, hp, ho⟩ := hs
    have hs : SI σ τ := ⟨P, Q, I, L, hr, hn, hp, ho⟩
    unfold exec rexec peakGo
    rw [hp]
    split
    · exact ⟨⟨rfl, rfl, rfl⟩, hs, rfl, hτ⟩
    · exact ⟨⟨rfl, rfl, rfl⟩, hs, rfl, hτ⟩
  | succ n ih =>
    intro N m σ τ hs hσ hτ hm
    have hp : σ.pc = τ.pc := by obtain ⟨P, Q, I, L, hr, hn, hp, ho⟩ := hs; exact hp
    unfold exec rexec peakGo
    rw [hp]
    by_cases hlt : τ.pc < l.length
    · rw [if_pos hlt, if_pos hlt, if_pos hlt]
      by_cases h0 : (insAt l τ.pc).op = 0
      · rw [if_pos h0, if_pos h0, if_pos h0]
        exact ⟨⟨rfl, rfl, rfl⟩, hs.pc_ _, rfl, (well_pc hτ _).more (by omega)⟩
      · rw [if_neg h0, if_neg h0, if_neg h0]
        have hok := ins_ok hl hlt
        have hs1 := hs.pc_ (τ.pc + 1)
        obtain ⟨a1, a2⟩ := rstep_iso (insAt l τ.pc) hs1 (well_pc hτ _)
        have w1 := step_well hok (well_pc hσ (τ.pc + 1))
        have w2 := rstep_well hok (well_pc hτ (τ.pc + 1))
        have hre := reach_iso a2 w1 w2
        by_cases h1 : (Mo.step (insAt l τ.pc) { σ with pc := τ.pc + 1 }).1 = 0
        · have h2 : (rstep (insAt l τ.pc) { τ with pc := τ.pc + 1 }).1 = 0 := by rw [← a1]; exact h1
          rw [if_pos h1, if_pos h1, if_pos h2, ← hre]
          obtain ⟨b1, b2, b3, b4⟩ := ih (N + 1) (max m (reach (Mo.step (insAt l τ.pc) { σ with pc := τ.pc + 1 }).2.now (Mo.step (insAt l τ.pc) { σ with pc := τ.pc + 1 }).2.refs)) _ _ a2 w1 w2 (Nat.le_max_right _ _)
          exact ⟨b1, b2, b3, b4.more (by omega)⟩
        · have h2 : ¬ (rstep (insAt l τ.pc) { τ with pc := τ.pc + 1 }).1 = 0 := by rw [← a1]; exact h1
          rw [if_neg h1, if_neg h1, if_neg h2]
          refine ⟨⟨a1, rfl, rfl⟩, a2, ?_, w2.more (by omega)⟩
          rw [step_err h1]
          exact Nat.max_eq_left hm
    · rw [if_neg hlt, if_neg hlt, if_neg hlt]
      exact ⟨⟨rfl, rfl, rfl⟩, hs, rfl, hτ.more (by omega)⟩
/-- Registers that name nothing reach nothing. -/
theorem meet_zeros (o : List Int) : (meet o [0, 0, 0, 0]).1 = o := by simp [meet, meet1]
theorem meet_app (o l m : List Int) : (meet o (l ++ m)).1 = (meet (meet o l).1 m).1 := by
  induction l generalizing o with
  | nil => rfl
  | cons a l ih => simp only [List.cons_append, meet]; exact ih _
theorem canonGo_roots (r r' : List Int) (ns : List Nd) : ∀ (f i : Nat) (o : List Int) (out : List Nd), canonGo ⟨r, ns⟩ f i o out = canonGo ⟨r', ns⟩ f i o out := by
  intro f
  induction f with
  | zero => intro i o out; rfl
  | succ f ih =>
    intro i o out
    by_cases h : i < o.length
    · rw [canonGo_step _ f i o out h, canonGo_step _ f i o out h, ih]
      rfl
    · rw [canonGo_stop _ _ i o out h, canonGo_stop _ _ i o out h]
theorem reach_zeros (g : Gr) : reach g [0, 0, 0, 0] = reach g [] := by
  unfold reach number
  simp only [List.append_nil]
  rw [meet_app, meet_zeros, canonGo_roots (g.roots ++ [0, 0, 0, 0]) g.roots]
/-- What both say of a whole program. -/
theorem run_same {g : Gr} (hg : right g = true) (F : Nat) (l : List Ins) (hl : ∀ x ∈ l, x.ok l.length = true) :
    ((exec l F (Mo.start g g)).e = (rexec l F (Mo.start g (number g)) (reach g [])).1.e ∧ (exec l F (Mo.start g g)).at_ = (rexec l F (Mo.start g (number g)) (reach g [])).1.at_ ∧ (exec l F (Mo.start g g)).left = (rexec l F (Mo.start g (number g)) (reach g [])).1.left) ∧
    (exec l F (Mo.start g g)).σ.outs = (rexec l F (Mo.start g (number g)) (reach g [])).1.σ.outs ∧ number (exec l F (Mo.start g g)).σ.last = number (rexec l F (Mo.start g (number g)) (reach g [])).1.σ.last ∧ peakGo l F (Mo.start g g) (reach g []) = (rexec l F (Mo.start g (number g)) (reach g [])).2 := by
  have hsd := sound_right hg
  have hst := start_well hg
  have hst2 : Well 1000 (Mo.start g (number g)) := ⟨hst.now, sound_number hsd, hst.refs, hst.refsN, hst.nums, hst.numsN, hst.outs, hst.outsN⟩
  have hsi : SI (Mo.start g g) (Mo.start g (number g)) := by
    have J := init_iso (well_sound hsd)
    have I : Iso (fun a b => a = b ∧ 0 ≤ a ∧ a ≤ g.nodes.length) g g := by
      have hal : ∀ {l : List Int}, named l g.nodes.length = true → Al (fun a b : Int => a = b ∧ 0 ≤ a ∧ a ≤ g.nodes.length) l l := fun {l} hn => by
        have := Al.map (P := fun a b : Int => a = b ∧ 0 ≤ a ∧ a ≤ g.nodes.length) (fun a => a) (l := l) (fun a ha => ⟨rfl, named_iff.1 hn a ha⟩)
        rwa [List.map_id'] at this
      refine ⟨⟨rfl, by omega, by omega⟩, ?_, ?_, ?_, ?_, ?_, hal hsd.named⟩
      · rintro a b c ⟨h1, _⟩ ⟨h2, _⟩; omega
      · rintro a b c ⟨h1, _⟩ ⟨h2, _⟩; omega
      · rintro a b ⟨rfl, h1, h2⟩ h0; omega
      · rintro a b ⟨rfl, h1, h2⟩ h0
        exact hal (ndOk_iff.1 (nd_ok hsd a)).2.2.2
      · rintro a b ⟨rfl, h1, h2⟩ h0; rfl
    exact ⟨_, _, I, J, ⟨I.zero, I.zero, I.zero, I.zero, trivial⟩, rfl, rfl, rfl⟩
  obtain ⟨b1, ⟨P, Q, h1, h2, h3, h4, h5, h6⟩, b3, b4⟩ := rexec_sim hl F 1000 (reach g []) _ _ hsi hst hst2 (by rw [← reach_zeros]; exact Nat.le_refl _)
  have w1 := exec_well hl F 1000 _ hst
  exact ⟨b1, h6, h2.number (well_sound w1.last) (well_sound b4.last), b3⟩
end Go.Proofs.YteminkohgagedaaGreat.Rf
