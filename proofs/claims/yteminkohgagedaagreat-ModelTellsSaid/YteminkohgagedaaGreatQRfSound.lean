/- Plain: the numbered form of a graph that may be may be, too. -/
import Derived.Test.YteminkohgagedaaGreatQMoIso
import Derived.Test.YteminkohgagedaaGreatQMoExec
import Derived.Test.YteminkohgagedaaGreatQRfFlag
namespace Go.Proofs.YteminkohgagedaaGreat.Mo
open Go.RowKit Go.Proofs.YteminkohgagedaaGreat.Base Go.Proofs.YteminkohgagedaaGreat.Gr Go.Proofs.YteminkohgagedaaGreat.Ver
set_option linter.unusedVariables false
set_option linter.unusedSimpArgs false

/-- Two machines that differ in the numbers of nodes alone. -/
def SI (σ τ : St) : Prop := ∃ P Q : Int → Int → Prop, Iso P σ.now τ.now ∧ Iso Q σ.last τ.last ∧ Al P σ.refs τ.refs ∧ σ.nums = τ.nums ∧ σ.pc = τ.pc ∧ σ.outs = τ.outs
theorem SI.pc_ {σ τ : St} (h : SI σ τ) (k : Nat) : SI { σ with pc := k } { τ with pc := k } := by
  obtain ⟨P, Q, h1, h2, h3, h4, h5, h6⟩ := h
  exact ⟨P, Q, h1, h2, h3, h4, rfl, h6⟩
def Alike2 (a b : Int × St) : Prop := a.1 = b.1 ∧ SI a.2 b.2
theorem step_iso {σ τ : St} (x : Ins) (h : SI σ τ) : Alike2 (step x σ) (step x τ) := by
  obtain ⟨P, Q, I, L, hr, hn, hp, ho⟩ := h
  have hg := fun i => hr.gt I.zero i
  have keep : SI σ τ := ⟨P, Q, I, L, hr, hn, hp, ho⟩
  have num : ∀ i v, SI { σ with nums := pu σ.nums i v } { τ with nums := pu τ.nums i v } := fun i v => ⟨P, Q, I, L, hr, by show pu σ.nums i v = pu τ.nums i v; rw [hn], hp, ho⟩
  have ref : ∀ i a b, P a b → SI { σ with refs := pu σ.refs i a } { τ with refs := pu τ.refs i b } := fun i a b hab => ⟨P, Q, I, L, hr.pu hab i, hn, hp, ho⟩
  by_cases e1 : x.op = 1
  · rw [step_1 σ e1, step_1 τ e1]
    exact ⟨rfl, num _ _⟩
  by_cases e2 : x.op = 2
  · rw [step_2 σ e2, step_2 τ e2]
    rw [hn]; exact ⟨rfl, by have := num x.a (rnd (gt τ.nums x.b + gt τ.nums x.c)); rw [hn] at this; exact this⟩
  by_cases e3 : x.op = 3
  · rw [step_3 σ e3, step_3 τ e3]
    rw [hn]; exact ⟨rfl, by have := num x.a (rnd (gt τ.nums x.b - gt τ.nums x.c)); rw [hn] at this; exact this⟩
  by_cases e4 : x.op = 4
  · rw [step_4 σ e4, step_4 τ e4]
    rw [hn]; exact ⟨rfl, by have := num x.a (rnd (gt τ.nums x.b * gt τ.nums x.c)); rw [hn] at this; exact this⟩
  by_cases e5 : x.op = 5
  · rw [step_5 σ e5, step_5 τ e5]
    exact ⟨rfl, keep.pc_ _⟩
  by_cases e6 : x.op = 6
  · rw [step_6 σ e6, step_6 τ e6]
    have e : gt σ.nums x.a = gt τ.nums x.a := by rw [hn]
    rw [e]
    by_cases h0 : gt τ.nums x.a = 0
    · rw [if_pos h0, if_pos h0]; exact ⟨rfl, keep.pc_ _⟩
    · rw [if_neg h0, if_neg h0]; exact ⟨rfl, keep⟩
  by_cases e7 : x.op = 7
  · rw [step_7 σ e7, step_7 τ e7]
    exact ⟨rfl, _, Q, I.made _ _, L, (hr.mono (fun _ _ h => .inl h)).pu (.inr ⟨rfl, rfl⟩) _, hn, hp, ho⟩
  by_cases e8 : x.op = 8
  · rw [step_8 σ e8, step_8 τ e8]
    rw [I.atS (hg x.b)]
    by_cases h0 : atE (gt τ.refs x.b) x.c (nd τ.now (gt τ.refs x.b)).slots = 0
    · rw [if_pos h0, if_pos h0]
      have hz : gt σ.refs x.b ≠ 0 := fun e => by rw [(I.nz (hg x.b)).1 e] at h0; simp [atE] at h0
      exact ⟨rfl, ref _ _ _ ((I.slots (hg x.b) hz).gt I.zero _)⟩
    · rw [if_neg h0, if_neg h0]; exact ⟨rfl, keep⟩
  by_cases e9 : x.op = 9
  · rw [step_9 σ e9, step_9 τ e9]
    rw [I.atS (hg x.a)]
    by_cases h0 : atE (gt τ.refs x.a) x.c (nd τ.now (gt τ.refs x.a)).slots = 0
    · rw [if_pos h0, if_pos h0]
      have hz : gt σ.refs x.a ≠ 0 := fun e => by rw [(I.nz (hg x.a)).1 e] at h0; simp [atE] at h0
      exact ⟨rfl, P, Q, I.setSlot (hg x.a) hz (hg x.b) _, L, hr, hn, hp, ho⟩
    · rw [if_neg h0, if_neg h0]; exact ⟨rfl, keep⟩
  by_cases e10 : x.op = 10
  · rw [step_10 σ e10, step_10 τ e10]
    rw [I.atW (hg x.b)]
    by_cases h0 : atE (gt τ.refs x.b) x.c (nd τ.now (gt τ.refs x.b)).words = 0
    · rw [if_pos h0, if_pos h0]
      have hz : gt σ.refs x.b ≠ 0 := fun e => by rw [(I.nz (hg x.b)).1 e] at h0; simp [atE] at h0
      rw [I.words (hg x.b) hz]
      exact ⟨rfl, num _ _⟩
    · rw [if_neg h0, if_neg h0]; exact ⟨rfl, keep⟩
  by_cases e11 : x.op = 11
  · rw [step_11 σ e11, step_11 τ e11]
    have e : gt σ.nums x.b = gt τ.nums x.b := by rw [hn]
    rw [I.atW (hg x.a), e]
    by_cases h0 : atE (gt τ.refs x.a) x.c (nd τ.now (gt τ.refs x.a)).words = 0
    · rw [if_pos h0, if_pos h0]
      have hz : gt σ.refs x.a ≠ 0 := fun e => by rw [(I.nz (hg x.a)).1 e] at h0; simp [atE] at h0
      exact ⟨rfl, P, Q, I.setWord (hg x.a) hz _ _, L, hr, hn, hp, ho⟩
    · rw [if_neg h0, if_neg h0]; exact ⟨rfl, keep⟩
  by_cases e12 : x.op = 12
  · rw [step_12 σ e12, step_12 τ e12]
    exact ⟨rfl, ref _ _ _ (I.roots.gt I.zero _)⟩
  by_cases e13 : x.op = 13
  · rw [step_13 σ e13, step_13 τ e13]
    exact ⟨rfl, P, Q, I.root (hg x.a) _, L, hr, hn, hp, ho⟩
  by_cases e14 : x.op = 14
  · rw [step_14 σ e14, step_14 τ e14]
    exact ⟨rfl, P, P, I, I, hr, hn, hp, ho⟩
  by_cases e15 : x.op = 15
  · rw [step_15 σ e15, step_15 τ e15]
    exact ⟨rfl, Q, Q, L, L, ⟨L.zero, L.zero, L.zero, L.zero, trivial⟩, hn, hp, ho⟩
  by_cases e16 : x.op = 16
  · rw [step_16 σ e16, step_16 τ e16]
    have e : gt σ.nums x.a = gt τ.nums x.a := by rw [hn]
    have e2 : (σ.outs.length < 1000) = (τ.outs.length < 1000) := by rw [ho]
    rw [e]
    by_cases h0 : τ.outs.length < 1000
    · rw [if_pos h0, if_pos (by rw [e2]; exact h0)]
      exact ⟨rfl, P, Q, I, L, hr, hn, hp, by show σ.outs ++ [_] = τ.outs ++ [_]; rw [ho]⟩
    · rw [if_neg h0, if_neg (by rw [e2]; exact h0)]; exact ⟨rfl, keep⟩
  by_cases e17 : x.op = 17
  · rw [step_17 σ e17, step_17 τ e17]
    exact ⟨rfl, by have e : decide (gt σ.refs x.b = 0) = decide (gt τ.refs x.b = 0) := decide_eq_decide.2 (I.nz (hg x.b)); rw [e]; exact num _ _⟩
  by_cases e18 : x.op = 18
  · rw [step_18 σ e18, step_18 τ e18]
    exact ⟨rfl, by have e : decide (gt σ.refs x.b = gt σ.refs x.c) = decide (gt τ.refs x.b = gt τ.refs x.c) := decide_eq_decide.2 (I.eq (hg x.b) (hg x.c)); rw [e]; exact num _ _⟩
  by_cases e19 : x.op = 19
  · rw [step_19 σ e19, step_19 τ e19]
    exact ⟨rfl, ref _ _ _ I.zero⟩
  by_cases e20 : x.op = 20
  · rw [step_20 σ e20, step_20 τ e20]
    exact ⟨rfl, ref _ _ _ (hg x.b)⟩
  by_cases e21 : x.op = 21
  · rw [step_21 σ e21, step_21 τ e21]
    by_cases h0 : gt σ.refs x.b = 0
    · rw [if_pos h0, if_pos ((I.nz (hg x.b)).1 h0)]; exact ⟨rfl, keep⟩
    · rw [if_neg h0, if_neg (fun e => h0 ((I.nz (hg x.b)).2 e)), I.slotsLen (hg x.b) h0]; exact ⟨rfl, num _ _⟩
  have e22 : ∀ ρ : St, step x ρ = (if gt ρ.refs x.b = 0 then (7, ρ) else (0, { ρ with nums := pu ρ.nums x.a ((nd ρ.now (gt ρ.refs x.b)).words.length) })) := fun ρ => by
    unfold step
    rw [if_neg e1, if_neg e2, if_neg e3, if_neg e4, if_neg e5, if_neg e6, if_neg e7, if_neg e8, if_neg e9, if_neg e10, if_neg e11, if_neg e12, if_neg e13, if_neg e14, if_neg e15, if_neg e16, if_neg e17, if_neg e18, if_neg e19, if_neg e20, if_neg e21]
  rw [e22 σ, e22 τ]
  by_cases h0 : gt σ.refs x.b = 0
  · rw [if_pos h0, if_pos ((I.nz (hg x.b)).1 h0)]; exact ⟨rfl, keep⟩
  · rw [if_neg h0, if_neg (fun e => h0 ((I.nz (hg x.b)).2 e)), I.words (hg x.b) h0]; exact ⟨rfl, num _ _⟩

theorem exec_iso (l : List Ins) (n : Nat) {σ τ : St} (h : SI σ τ) : (exec l n σ).e = (exec l n τ).e ∧ (exec l n σ).at_ = (exec l n τ).at_ ∧ (exec l n σ).left = (exec l n τ).left ∧ SI (exec l n σ).σ (exec l n τ).σ := by
  induction n generalizing σ τ with
  | zero =>
    have hp : σ.pc = τ.pc := by obtain ⟨P, Q, h1, h2, h3, h4, h5, h6⟩ := h; exact h5
    unfold exec
    rw [hp]
    by_cases h1 : τ.pc < l.length
    · rw [if_pos h1, if_pos h1]; exact ⟨rfl, rfl, rfl, h⟩
    · rw [if_neg h1, if_neg h1]; exact ⟨rfl, rfl, rfl, h⟩
  | succ n ih =>
    have hp : σ.pc = τ.pc := by obtain ⟨P, Q, h1, h2, h3, h4, h5, h6⟩ := h; exact h5
    unfold exec
    rw [hp]
    by_cases h1 : τ.pc < l.length
    · rw [if_pos h1, if_pos h1]
      by_cases h2 : (insAt l τ.pc).op = 0
      · rw [if_pos h2, if_pos h2]; exact ⟨rfl, rfl, rfl, h.pc_ _⟩
      · rw [if_neg h2, if_neg h2]
        obtain ⟨e1, e2⟩ := step_iso (insAt l τ.pc) (h.pc_ (τ.pc + 1))
        rw [e1]
        by_cases h3 : (step (insAt l τ.pc) { τ with pc := τ.pc + 1 }).1 = 0
        · rw [if_pos h3, if_pos h3]
          exact ih e2
        · rw [if_neg h3, if_neg h3]
          exact ⟨rfl, rfl, rfl, e2⟩
    · rw [if_neg h1, if_neg h1]; exact ⟨rfl, rfl, rfl, h⟩
/-- What was not committed does not count. -/
theorem exec_last (l : List Ins) (hl : ∀ x ∈ l, x.op ≠ 14) (n : Nat) (σ : St) : (exec l n σ).σ.last = σ.last := by
  have hs : ∀ (x : Ins) (ρ : St), x.op ≠ 14 → (step x ρ).2.last = ρ.last := by
    intro x ρ h14
    by_cases e1 : x.op = 1
    · rw [step_1 ρ e1]
      all_goals first | rfl | (split <;> rfl) | (dsimp only; split <;> rfl)
    by_cases e2 : x.op = 2
    · rw [step_2 ρ e2]
      all_goals first | rfl | (split <;> rfl) | (dsimp only; split <;> rfl)
    by_cases e3 : x.op = 3
    · rw [step_3 ρ e3]
      all_goals first | rfl | (split <;> rfl) | (dsimp only; split <;> rfl)
    by_cases e4 : x.op = 4
    · rw [step_4 ρ e4]
      all_goals first | rfl | (split <;> rfl) | (dsimp only; split <;> rfl)
    by_cases e5 : x.op = 5
    · rw [step_5 ρ e5]
      all_goals first | rfl | (split <;> rfl) | (dsimp only; split <;> rfl)
    by_cases e6 : x.op = 6
    · rw [step_6 ρ e6]
      all_goals first | rfl | (split <;> rfl) | (dsimp only; split <;> rfl)
    by_cases e7 : x.op = 7
    · rw [step_7 ρ e7]
      all_goals first | rfl | (split <;> rfl) | (dsimp only; split <;> rfl)
    by_cases e8 : x.op = 8
    · rw [step_8 ρ e8]
      all_goals first | rfl | (split <;> rfl) | (dsimp only; split <;> rfl)
    by_cases e9 : x.op = 9
    · rw [step_9 ρ e9]
      all_goals first | rfl | (split <;> rfl) | (dsimp only; split <;> rfl)
    by_cases e10 : x.op = 10
    · rw [step_10 ρ e10]
      all_goals first | rfl | (split <;> rfl) | (dsimp only; split <;> rfl)
    by_cases e11 : x.op = 11
    · rw [step_11 ρ e11]
      all_goals first | rfl | (split <;> rfl) | (dsimp only; split <;> rfl)
    by_cases e12 : x.op = 12
    · rw [step_12 ρ e12]
      all_goals first | rfl | (split <;> rfl) | (dsimp only; split <;> rfl)
    by_cases e13 : x.op = 13
    · rw [step_13 ρ e13]
      all_goals first | rfl | (split <;> rfl) | (dsimp only; split <;> rfl)
    have e14 := h14
    by_cases e15 : x.op = 15
    · rw [step_15 ρ e15]
      all_goals first | rfl | (split <;> rfl) | (dsimp only; split <;> rfl)
    by_cases e16 : x.op = 16
    · rw [step_16 ρ e16]
      all_goals first | rfl | (split <;> rfl) | (dsimp only; split <;> rfl)
    by_cases e17 : x.op = 17
    · rw [step_17 ρ e17]
      all_goals first | rfl | (split <;> rfl) | (dsimp only; split <;> rfl)
    by_cases e18 : x.op = 18
    · rw [step_18 ρ e18]
      all_goals first | rfl | (split <;> rfl) | (dsimp only; split <;> rfl)
    by_cases e19 : x.op = 19
    · rw [step_19 ρ e19]
      all_goals first | rfl | (split <;> rfl) | (dsimp only; split <;> rfl)
    by_cases e20 : x.op = 20
    · rw [step_20 ρ e20]
      all_goals first | rfl | (split <;> rfl) | (dsimp only; split <;> rfl)
    by_cases e21 : x.op = 21
    · rw [step_21 ρ e21]
      all_goals first | rfl | (split <;> rfl) | (dsimp only; split <;> rfl)
    unfold step
    rw [if_neg e1, if_neg e2, if_neg e3, if_neg e4, if_neg e5, if_neg e6, if_neg e7, if_neg e8, if_neg e9, if_neg e10, if_neg e11, if_neg e12, if_neg e13, if_neg e14, if_neg e15, if_neg e16, if_neg e17, if_neg e18, if_neg e19, if_neg e20, if_neg e21]
    split <;> rfl
  induction n generalizing σ with
  | zero => unfold exec; split <;> rfl
  | succ n ih =>
    unfold exec
    split
    next hp =>
      have hx : (insAt l σ.pc).op ≠ 14 := by
        unfold insAt
        rw [List.getD_eq_getElem?_getD, List.getElem?_eq_getElem hp]
        exact hl _ (List.getElem_mem hp)
      split
      · rfl
      · split
        · rw [ih, hs _ _ hx]
        · exact hs _ _ hx
    · rfl
end Go.Proofs.YteminkohgagedaaGreat.Mo
namespace Go.Proofs.YteminkohgagedaaGreat.Mo
open Go.RowKit Go.Proofs.YteminkohgagedaaGreat.Base Go.Proofs.YteminkohgagedaaGreat.Gr Go.Proofs.YteminkohgagedaaGreat.Ver
set_option linter.unusedVariables false
set_option linter.unusedSimpArgs false

theorem nd_nodeAt (g : Gr) {a : Int} (h : 1 ≤ a) : nd g a = nodeAt g a := by
  unfold nd nodeAt
  rw [show (a - 1).toNat = a.toNat - 1 by omega]
section
variable {P : Int → Int → Prop} {g h : Gr}
theorem Iso.mem (I : Iso P g h) : ∀ {o o' : List Int} {a b : Int}, Al P o o' → P a b → (a ∈ o ↔ b ∈ o') ∧ o.findIdx (· == a) = o'.findIdx (· == b)
  | [], [], a, b, _, hab => ⟨by simp, rfl⟩
  | x :: o, y :: o', a, b, hl, hab => by
    have hxy := I.eq hl.1 hab
    obtain ⟨m1, m2⟩ := Iso.mem I hl.2 hab
    constructor
    · simp only [List.mem_cons]
      rw [m1, show (a = x ↔ b = y) from ⟨fun e => (hxy.1 e.symm).symm, fun e => (hxy.2 e.symm).symm⟩]
    · rw [List.findIdx_cons, List.findIdx_cons, m2]
      have : (x == a) = (y == b) := by
        rw [Bool.eq_iff_iff]
        simp [hxy]
      rw [this]
  | [], y :: o', _, _, hl, _ => hl.elim
  | x :: o, [], _, _, hl, _ => hl.elim
theorem Iso.meet1 (I : Iso P g h) {o o' : List Int} {a b : Int} (hl : Al P o o') (hab : P a b) : (Gr.meet1 o a).2 = (Gr.meet1 o' b).2 ∧ Al P (Gr.meet1 o a).1 (Gr.meet1 o' b).1 := by
  obtain ⟨m1, m2⟩ := I.mem hl hab
  unfold Gr.meet1
  by_cases h0 : a = 0
  · rw [if_pos h0, if_pos ((I.nz hab).1 h0)]; exact ⟨rfl, hl⟩
  · rw [if_neg h0, if_neg (fun e => h0 ((I.nz hab).2 e))]
    by_cases hm : a ∈ o
    · rw [if_pos hm, if_pos (m1.1 hm)]
      refine ⟨?_, hl⟩
      unfold placeOf
      rw [if_pos hm, if_pos (m1.1 hm), m2]
    · rw [if_neg hm, if_neg (fun e => hm (m1.2 e))]
      exact ⟨by rw [hl.len], hl.snoc hab⟩
theorem Iso.meet (I : Iso P g h) : ∀ {l m o o' : List Int}, Al P o o' → Al P l m → (Gr.meet o l).2 = (Gr.meet o' m).2 ∧ Al P (Gr.meet o l).1 (Gr.meet o' m).1
  | [], [], o, o', hl, _ => ⟨rfl, hl⟩
  | a :: l, b :: m, o, o', hl, hs => by
    obtain ⟨e1, e2⟩ := I.meet1 hl hs.1
    obtain ⟨e3, e4⟩ := Iso.meet I e2 hs.2
    unfold Gr.meet
    exact ⟨by rw [e1, e3], e4⟩
  | [], b :: m, _, _, _, hs => hs.elim
  | a :: l, [], _, _, _, hs => hs.elim
theorem Al.atP : ∀ {l m : List Int}, Al P l m → ∀ i, (h1 : i < l.length) → (h2 : i < m.length) → P l[i] m[i]
  | a :: l, b :: m, h, 0, _, _ => h.1
  | a :: l, b :: m, h, i + 1, h1, h2 => Al.atP h.2 i (by simpa using h1) (by simpa using h2)
theorem Iso.canon (I : Iso P g h) (wg : wellG g) (wh : wellG h) : ∀ (f f' i : Nat) (o o' : List Int) (out : List Nd), Al P o o' → Ord o g.nodes.length → Ord o' h.nodes.length → g.nodes.length + 1 ≤ f + i → h.nodes.length + 1 ≤ f' + i →
    canonGo g f i o out = canonGo h f' i o' out := by
  intro f
  induction f with
  | zero =>
    intro f' i o o' out hl ho ho' hf hf'
    have h1 := ord_len ho
    have h2 := hl.len
    rw [canonGo_stop g 0 i o out (by omega), canonGo_stop h f' i o' out (by omega)]
  | succ f ih =>
    intro f' i o o' out hl ho ho' hf hf'
    have h2 := hl.len
    by_cases hlt : i < o.length
    · have hlt' : i < o'.length := by omega
      have h3 := ord_len ho'
      obtain ⟨f'', rfl⟩ : ∃ f'', f' = f'' + 1 := ⟨f' - 1, by omega⟩
      rw [canonGo_step g f i o out hlt, canonGo_step h f'' i o' out hlt']
      have hab := Al.atP hl i hlt hlt'
      have ra := ho.2 o[i] (List.getElem_mem hlt)
      have rb := ho'.2 o'[i] (List.getElem_mem hlt')
      have hs := I.slots hab (by omega)
      have hw := I.words hab (by omega)
      rw [nd_nodeAt g ra.1, nd_nodeAt h rb.1] at hs hw
      obtain ⟨e1, e2⟩ := I.meet hl hs
      rw [e1, hw]
      exact ih f'' (i + 1) _ _ _ e2 (ord_meet ho (ndOk_parts (nodeAt_ok wg ra.1 ra.2)).2.2.2) (ord_meet ho' (ndOk_parts (nodeAt_ok wh rb.1 rb.2)).2.2.2) (by omega) (by omega)
    · rw [canonGo_stop g _ i o out hlt, canonGo_stop h f' i o' out (by omega)]
/-- Their numbered forms are one. -/
theorem Iso.number (I : Iso P g h) (wg : wellG g) (wh : wellG h) : Gr.number g = Gr.number h := by
  obtain ⟨e1, e2⟩ := I.meet (o := []) (o' := []) trivial I.roots
  unfold Gr.number
  rw [e1, I.canon wg wh (g.nodes.length + 1) (h.nodes.length + 1) 0 _ _ [] e2 (ord_meet (ord_nil _) wg.1) (ord_meet (ord_nil _) wh.1) (by omega) (by omega)]
end

/-! ### a graph and its numbered form -/
theorem place_more {o : List Int} (t : List Int) {a : Int} (h : a ∈ o) : placeOf (o ++ t) a = placeOf o a := by
  unfold placeOf
  rw [if_pos h, if_pos (List.mem_append.2 (.inl h)), List.findIdx_append, if_pos (List.findIdx_lt_length_of_exists ⟨a, h, by simp⟩)]
theorem meet_place : ∀ (l o t : List Int), 0 ∉ (meet o l).1 ++ t → (∀ a ∈ o, a ≠ 0) → (meet o l).2 = l.map (placeOf ((meet o l).1 ++ t))
  | [], o, t, _, _ => rfl
  | a :: l, o, t, h0, ho => by
    have ho' : ∀ b ∈ (meet1 o a).1, b ≠ 0 := by
      intro b hb
      rcases (meet1_mem o a).2.2 b hb with h | ⟨h, hz⟩
      · exact ho b h
      · subst h; exact hz
    have ih := meet_place l (meet1 o a).1 t h0 ho'
    show (meet1 o a).2 :: (meet (meet1 o a).1 l).2 = placeOf ((meet (meet1 o a).1 l).1 ++ t) a :: l.map (placeOf ((meet (meet1 o a).1 l).1 ++ t))
    rw [ih]
    congr 1
    obtain ⟨s, hs⟩ := meet_pre (meet1 o a).1 l
    by_cases hz : a = 0
    · subst hz
      have e : placeOf ((meet (meet1 o 0).1 l).1 ++ t) 0 = 0 := placeOf_zero.2 h0
      rw [e]
      simp [meet1]
    · have hm : a ∈ (meet1 o a).1 := (meet1_mem o a).2.1 hz
      rw [hs, List.append_assoc, place_more _ hm]
      unfold meet1
      rw [if_neg hz]
      by_cases hin : a ∈ o
      · rw [if_pos hin]
      · rw [if_neg hin]
        show _ = placeOf (o ++ [a]) a
        rw [placeOf_snoc hin, if_pos rfl]
section
variable {g : Gr} (hg : wellG g)
include hg
theorem canon_nodes : ∀ (f i : Nat) (o : List Int), Ord o g.nodes.length → i ≤ o.length → g.nodes.length + 1 ≤ f + i →
    canonGo g f i o [] = ((ordGo g f i o).drop i).map fun b => (⟨(nodeAt g b).slots.map (placeOf (ordGo g f i o)), (nodeAt g b).words⟩ : Nd) := by
  intro f
  induction f with
  | zero => intro i o ho hi hf; have := ord_len ho; omega
  | succ f ih =>
    intro i o ho hi hf
    by_cases hlt : i < o.length
    · have ha := ho.2 o[i] (List.getElem_mem hlt)
      have hx := nodeAt_ok hg ha.1 ha.2
      have ho' := ord_meet ho (ndOk_parts hx).2.2.2
      have hgr := meet_grow o (nodeAt g o[i]).slots
      have q := ih (i + 1) _ ho' (by omega) (by omega)
      have hall := ordGo_all hg f (i + 1) _ ho' (by omega) (by omega)
      have e : ordGo g (f + 1) i o = ordGo g f (i + 1) (meet o (nodeAt g o[i]).slots).1 := by rw [ordGo, dif_pos hlt]
      obtain ⟨t, ht⟩ := ordGo_pre g f (i + 1) (meet o (nodeAt g o[i]).slots).1
      obtain ⟨s, hs⟩ := meet_pre o (nodeAt g o[i]).slots
      have hget : (ordGo g f (i + 1) (meet o (nodeAt g o[i]).slots).1).drop i = o[i] :: (ordGo g f (i + 1) (meet o (nodeAt g o[i]).slots).1).drop (i + 1) := by
        have hl : i < (ordGo g f (i + 1) (meet o (nodeAt g o[i]).slots).1).length := by rw [ht, hs]; simp; omega
        rw [List.drop_eq_getElem_cons hl]
        congr 1
        have e3 : (ordGo g f (i + 1) (meet o (nodeAt g o[i]).slots).1)[i]? = o[i]? := by
          rw [ht, hs, List.append_assoc, List.getElem?_append_left hlt]
        rw [List.getElem?_eq_getElem hl, List.getElem?_eq_getElem hlt] at e3
        exact Option.some.inj e3
      have hz : (0 : Int) ∉ ordGo g f (i + 1) (meet o (nodeAt g o[i]).slots).1 := fun h => by have := hall.1.2 0 h; omega
      have hm := meet_place (nodeAt g o[i]).slots o t (by rw [← ht]; exact hz) (fun a ha => by have := ho.2 a ha; omega)
      rw [← ht] at hm
      rw [e, hget, canonGo, dif_pos hlt, canonGo_split, q, List.map_cons, hm]
      rfl
    · have e : ordGo g (f + 1) i o = o := by rw [ordGo, dif_neg hlt]
      have e2 : canonGo g (f + 1) i o [] = [] := by rw [canonGo, dif_neg hlt]
      have hd : o.drop i = [] := List.drop_eq_nil_of_le (by omega)
      rw [e, e2, hd]
      rfl
/-- Which node of the numbered form a node is. -/
def Init (g : Gr) (a b : Int) : Prop := (a = 0 ∧ b = 0) ∨ (a ∈ ordF g ∧ b = placeOf (ordF g) a)
theorem init_iso : Iso (Init g) g (number g) := by
  obtain ⟨a1, a2, a3, a4, a5, a6⟩ := ordF_all hg
  have hz : (0 : Int) ∉ ordF g := fun h => by have := a1.2 0 h; omega
  have hnodes := canon_nodes hg (g.nodes.length + 1) 0 (meet [] g.roots).1 (ord_meet (ord_nil _) hg.1) (Nat.zero_le _) (by omega)
  rw [List.drop_zero] at hnodes
  have hidx : ∀ {a : Int}, a ∈ ordF g → (ordF g).findIdx (· == a) < (ordF g).length := fun {a} h => List.findIdx_lt_length_of_exists ⟨a, h, by simp⟩
  have hat : ∀ {a : Int} (h : a ∈ ordF g), (ordF g)[(ordF g).findIdx (· == a)]'(hidx h) = a := fun {a} h => by
    have := List.findIdx_getElem (p := (· == a)) (xs := ordF g) (w := hidx h)
    simpa using this
  have hpl : ∀ {a : Int}, a ∈ ordF g → placeOf (ordF g) a = ((ordF g).findIdx (· == a) : Int) + 1 := fun {a} h => by unfold placeOf; rw [if_pos h]
  have hnd : ∀ {a : Int}, a ∈ ordF g → nd (number g) (placeOf (ordF g) a) = ⟨(nodeAt g a).slots.map (placeOf (ordF g)), (nodeAt g a).words⟩ := fun {a} h => by
    rw [hpl h]
    have hl : (ordF g).findIdx (· == a) < (number g).nodes.length := by rw [a5]; exact hidx h
    rw [nd_nat hl]
    have e : (number g).nodes = (ordF g).map fun b => (⟨(nodeAt g b).slots.map (placeOf (ordF g)), (nodeAt g b).words⟩ : Nd) := hnodes
    simp only [e, List.getElem_map, hat h]
  have hin : ∀ {v : Int}, (v ≠ 0 → v ∈ ordF g) → Init g v (placeOf (ordF g) v) := fun {v} h => by
    by_cases h0 : v = 0
    · subst h0; exact .inl ⟨rfl, placeOf_zero.2 hz⟩
    · exact .inr ⟨h h0, rfl⟩
  refine ⟨.inl ⟨rfl, rfl⟩, ?_, ?_, ?_, ?_, ?_, ?_⟩
  · rintro a b c (⟨h1, h2⟩ | ⟨h1, h2⟩) (⟨h3, h4⟩ | ⟨h3, h4⟩)
    · omega
    · subst h1; exact absurd h3 hz
    · subst h3; exact absurd h1 hz
    · omega
  · rintro a b c (⟨h1, h2⟩ | ⟨h1, h2⟩) (⟨h3, h4⟩ | ⟨h3, h4⟩)
    · omega
    · rw [hpl h3] at h4; omega
    · rw [hpl h1] at h2; omega
    · rw [hpl h1] at h2
      rw [hpl h3] at h4
      have e : (ordF g).findIdx (· == a) = (ordF g).findIdx (· == b) := by omega
      have h5 := hat h1
      have h6 := hat h3
      simp only [e] at h5
      exact h5.symm.trans h6
  · rintro a b (⟨h1, h2⟩ | ⟨h1, h2⟩) h0
    · exact absurd h1 h0
    · have := a1.2 a h1
      have h3 := hidx h1
      rw [hpl h1] at h2
      rw [← a5] at h3
      omega
  · rintro a b (⟨h1, h2⟩ | ⟨h1, h2⟩) h0
    · exact absurd h1 h0
    · subst h2
      rw [hnd h1, nd_nodeAt g (a1.2 a h1).1]
      exact Al.map _ (fun v hv => hin (fun h => a3 a h1 v hv h))
  · rintro a b (⟨h1, h2⟩ | ⟨h1, h2⟩) h0
    · exact absurd h1 h0
    · subst h2
      rw [hnd h1, nd_nodeAt g (a1.2 a h1).1]
  · have hr : (number g).roots = g.roots.map (placeOf (ordF g)) := by
      obtain ⟨t, ht⟩ := ordGo_pre g (g.nodes.length + 1) 0 (meet [] g.roots).1
      have := meet_place g.roots [] t (by rw [← ht]; exact hz) (fun a h => by cases h)
      rw [← ht] at this
      exact this
    rw [hr]
    exact Al.map _ (fun v hv => hin (fun h => a2 v hv h))
end
end Go.Proofs.YteminkohgagedaaGreat.Mo
namespace Go.Proofs.YteminkohgagedaaGreat.Rf
open Go.RowKit Go.Proofs.YteminkohgagedaaGreat.Base Go.Proofs.YteminkohgagedaaGreat.Gr Go.Proofs.YteminkohgagedaaGreat.Ver Go.Proofs.YteminkohgagedaaGreat.Mo
set_option linter.unusedVariables false
set_option linter.unusedSimpArgs false

theorem Al.all {P : Int → Int → Prop} : ∀ {l m : List Int}, Al P l m → ∀ b ∈ m, ∃ a, P a b
  | [], [], _, b, h => by cases h
  | a :: l, c :: m, h, b, hb => by
    rcases List.mem_cons.1 hb with rfl | hb
    · exact ⟨a, h.1⟩
    · exact Al.all h.2 b hb
  | [], c :: m, h, _, _ => h.elim
  | a :: l, [], h, _, _ => h.elim
theorem well_sound {N : Nat} {g : Gr} (h : Sound N g) : wellG g := ⟨h.named, h.nodes⟩
/-- The numbered form may be, too. -/
theorem sound_number {N : Nat} {g : Gr} (h : Sound N g) : Sound N (number g) := by
  obtain ⟨p1, p2, p3, p4⟩ := h
  have w : wellG g := ⟨p3, p4⟩
  have I := init_iso w
  obtain ⟨a1, a2, a3, a4, a5, a6⟩ := ordF_all w
  have hle := ord_len a1
  have hin : ∀ {a b : Int}, Init g a b → 0 ≤ b ∧ b ≤ (number g).nodes.length := fun {a b} h => by
    by_cases h0 : a = 0
    · have := (I.nz h).1 h0; omega
    · have := I.rng h h0; omega
  have hroots := I.roots
  have hlen := hroots.len
  refine ⟨by omega, by omega, ?_, ?_⟩
  · rw [named_iff]
    intro b hb
    obtain ⟨a, ha⟩ := Al.all hroots b hb
    exact hin ha
  · intro x hx
    obtain ⟨j, hj, rfl⟩ := List.getElem_of_mem hx
    have hj' : j < (ordF g).length := by omega
    have hm : (ordF g)[j] ∈ ordF g := List.getElem_mem hj'
    have hr := a1.2 _ hm
    have hnodes := canon_nodes w (g.nodes.length + 1) 0 (meet [] g.roots).1 (ord_meet (ord_nil _) p3) (Nat.zero_le _) (by omega)
    rw [List.drop_zero] at hnodes
    have e : (number g).nodes = (ordF g).map fun b => (⟨(nodeAt g b).slots.map (placeOf (ordF g)), (nodeAt g b).words⟩ : Nd) := hnodes
    have ex : (number g).nodes[j] = ⟨(nodeAt g (ordF g)[j]).slots.map (placeOf (ordF g)), (nodeAt g (ordF g)[j]).words⟩ := by simp only [e, List.getElem_map]
    have hx0 := ndOk_iff.1 (nodeAt_ok w hr.1 hr.2)
    have hi : Init g (ordF g)[j] (placeOf (ordF g) (ordF g)[j]) := .inr ⟨hm, rfl⟩
    have hz : (0 : Int) ∉ ordF g := fun h => by have := a1.2 0 h; omega
    rw [ex, ndOk_iff]
    refine ⟨by rw [List.length_map]; exact hx0.1, hx0.2.1, hx0.2.2.1, ?_⟩
    rw [named_iff]
    intro b hb
    obtain ⟨v, hv, rfl⟩ := List.mem_map.1 hb
    by_cases h0 : v = 0
    · subst h0
      rw [placeOf_zero.2 hz]
      omega
    · exact hin (.inr ⟨a3 _ hm v hv h0, rfl⟩)

end Go.Proofs.YteminkohgagedaaGreat.Rf
