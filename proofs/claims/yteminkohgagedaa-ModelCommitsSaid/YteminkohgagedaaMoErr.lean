/- The statement on errors: what the two programs come to. -/
import Derived.Test.YteminkohgagedaaMoLaws3
namespace Go.Proofs.Yteminkohgagedaa.Mo
open Go.RowKit Go.Proofs.Yteminkohgagedaa.Base Go.Proofs.Yteminkohgagedaa.Gr Go.Proofs.Yteminkohgagedaa.Ver
set_option linter.unusedVariables false
set_option linter.unusedSimpArgs false

def errL (x c : Int) : List Ins := [numI 0 9, ⟨16, 0, 0, 0⟩, ⟨x, 0, 0, c⟩]
def errM (s m x c : Int) : List Ins := [⟨7, 0, s, m⟩, numI 0 9, ⟨16, 0, 0, 0⟩, ⟨x, 0, 0, c⟩]
def Four (x : Int) : Prop := x = 8 ∨ x = 9 ∨ x = 10 ∨ x = 11
theorem errL_ok (x c : Int) (hx : Four x) (hc : 0 ≤ c ∧ c ≤ 255) : ∀ y ∈ errL x c, y.ok (errL x c).length = true := by
  intro y hy
  simp only [errL, List.mem_cons, List.not_mem_nil, or_false] at hy
  rcases hy with rfl | rfl | rfl
  · exact numI_ok _ _ _ (by omega)
  · rfl
  · exact place_ok _ _ _ _ _ hx (by omega) (by omega) hc
theorem errM_ok (s m x c : Int) (hs : 0 ≤ s ∧ s ≤ 15) (hm : 0 ≤ m ∧ m ≤ 30) (hx : Four x) (hc : 0 ≤ c ∧ c ≤ 255) : ∀ y ∈ errM s m x c, y.ok (errM s m x c).length = true := by
  intro y hy
  simp only [errM, List.mem_cons, List.not_mem_nil, or_false] at hy
  rcases hy with rfl | rfl | rfl | rfl
  · exact alloc_ok _ _ _ _ (by omega) hs hm
  · exact numI_ok _ _ _ (by omega)
  · rfl
  · exact place_ok _ _ _ _ _ hx (by omega) (by omega) hc
theorem errL_runs (x c : Int) (hx : Four x) (hc : 0 ≤ c ∧ c ≤ 255) : runM emptyG 50 (errL x c) = ⟨7, 2, 47, [9], ⟨[0, 0, 0, 0, 0, 0, 0, 0], []⟩⟩ := by
  have hr : exec (errL x c) 50 (start emptyG emptyG) = ⟨7, 2, 47, ⟨emptyG, emptyG, [0, 0, 0, 0], [9, 0, 0, 0], 3, [9]⟩⟩ := by
    rcases hx with rfl | rfl | rfl | rfl <;> kernel_rfl
  rw [runM_of (errL_ok x c hx hc) (by simp [errL]) (by simp [errL]) hr]
  rfl
theorem errM_3 (s m : Nat) (x c : Int) : exec (errM s m x c) 50 (start emptyG emptyG) = exec (errM s m x c) 47 ⟨⟨emptyG.roots, [⟨List.replicate s 0, List.replicate m 0⟩]⟩, emptyG, [1, 0, 0, 0], [9, 0, 0, 0], 3, [9]⟩ := by kernel_rfl
theorem exec_fail {l : List Ins} {n : Nat} {σ σ' : St} {x : Ins} {e : Int} (h : σ.pc < l.length) (hx : insAt l σ.pc = x) (h0 : x.op ≠ 0) (hs : step x { σ with pc := σ.pc + 1 } = (e, σ')) (he : e ≠ 0) : exec l (n + 1) σ = ⟨e, σ.pc, n, σ'⟩ := by
  have h1 : (step (insAt l σ.pc) { σ with pc := σ.pc + 1 }).1 ≠ 0 := by rw [hx, hs]; exact he
  rw [exec_err h (by rw [hx]; exact h0) h1, hx, hs]
def e3 (s m : Nat) : St := ⟨⟨emptyG.roots, [⟨List.replicate s 0, List.replicate m 0⟩]⟩, emptyG, [1, 0, 0, 0], [9, 0, 0, 0], 3, [9]⟩
def e4 (s m : Nat) : St := ⟨⟨emptyG.roots, [⟨List.replicate s 0, List.replicate m 0⟩]⟩, emptyG, [1, 0, 0, 0], [9, 0, 0, 0], 4, [9]⟩
/-- Whether the place is there. -/
def inIt (s m : Nat) (x c : Int) : Prop := if x = 8 ∨ x = 9 then c < s else c < m
theorem errM_in (s m : Nat) (x c : Int) (hx : Four x) (h : inIt s m x c) : ∃ σ : St, σ.outs = [9] ∧ exec (errM s m x c) 50 (start emptyG emptyG) = ⟨0, 4, 46, σ⟩ := by
  rw [errM_3]
  show ∃ σ : St, σ.outs = [9] ∧ exec (errM s m x c) 47 (e3 s m) = _
  have fin : ∀ σ' : St, σ'.pc = 4 → exec (errM s m x c) 46 σ' = ⟨0, 4, 46, σ'⟩ := fun σ' hp => exec_out (by rw [hp]; simp [errM])
  have hn : ∀ n : Nat, c < n → ¬ (((List.replicate n (0 : Int)).length : Nat) : Int) ≤ c := fun n h => by simp; omega
  rcases hx with rfl | rfl | rfl | rfl
  · have h' : c < s := h
    refine ⟨_, ?_, (exec_next (σ := e3 s m) (x := ⟨8, 0, 0, c⟩) (by simp [errM, e3]) rfl (show (8 : Int) ≠ 0 by decide) ((step_8 (x := ⟨8, 0, 0, c⟩) (e4 s m) rfl).trans (if_pos (atE_in (show (1 : Int) ≠ 0 by decide) (hn s h'))))).trans (fin _ rfl)⟩
    rfl
  · have h' : c < s := h
    refine ⟨_, ?_, (exec_next (σ := e3 s m) (x := ⟨9, 0, 0, c⟩) (by simp [errM, e3]) rfl (show (9 : Int) ≠ 0 by decide) ((step_9 (x := ⟨9, 0, 0, c⟩) (e4 s m) rfl).trans (if_pos (atE_in (show (1 : Int) ≠ 0 by decide) (hn s h'))))).trans (fin _ rfl)⟩
    rfl
  · have h' : c < m := h
    refine ⟨_, ?_, (exec_next (σ := e3 s m) (x := ⟨10, 0, 0, c⟩) (by simp [errM, e3]) rfl (show (10 : Int) ≠ 0 by decide) ((step_10 (x := ⟨10, 0, 0, c⟩) (e4 s m) rfl).trans (if_pos (atE_in (show (1 : Int) ≠ 0 by decide) (hn m h'))))).trans (fin _ rfl)⟩
    rfl
  · have h' : c < m := h
    refine ⟨_, ?_, (exec_next (σ := e3 s m) (x := ⟨11, 0, 0, c⟩) (by simp [errM, e3]) rfl (show (11 : Int) ≠ 0 by decide) ((step_11 (x := ⟨11, 0, 0, c⟩) (e4 s m) rfl).trans (if_pos (atE_in (show (1 : Int) ≠ 0 by decide) (hn m h'))))).trans (fin _ rfl)⟩
    rfl
theorem errM_out (s m : Nat) (x c : Int) (hx : Four x) (h : ¬ inIt s m x c) : ∃ σ : St, σ.outs = [9] ∧ exec (errM s m x c) 50 (start emptyG emptyG) = ⟨8, 3, 46, σ⟩ := by
  rw [errM_3]
  show ∃ σ : St, σ.outs = [9] ∧ exec (errM s m x c) 47 (e3 s m) = _
  have hn : ∀ n : Nat, ¬ c < n → (((List.replicate n (0 : Int)).length : Nat) : Int) ≤ c := fun n h => by simp; omega
  have he : ∀ (n : Nat) (st : Int × St) (σ : St), ¬ c < n → (if atE 1 c (List.replicate n 0) = 0 then st else (atE 1 c (List.replicate n 0), σ)) = (8, σ) := fun n st σ h => by
    rw [atE_far (show (1 : Int) ≠ 0 by decide) (hn n h), if_neg (by decide)]
  rcases hx with rfl | rfl | rfl | rfl
  · have h' : ¬ c < s := h
    exact ⟨_, rfl, exec_fail (σ := e3 s m) (x := ⟨8, 0, 0, c⟩) (by simp [errM, e3]) rfl (show (8 : Int) ≠ 0 by decide) ((step_8 (x := ⟨8, 0, 0, c⟩) (e4 s m) rfl).trans (he s _ _ h')) (by decide)⟩
  · have h' : ¬ c < s := h
    exact ⟨_, rfl, exec_fail (σ := e3 s m) (x := ⟨9, 0, 0, c⟩) (by simp [errM, e3]) rfl (show (9 : Int) ≠ 0 by decide) ((step_9 (x := ⟨9, 0, 0, c⟩) (e4 s m) rfl).trans (he s _ _ h')) (by decide)⟩
  · have h' : ¬ c < m := h
    exact ⟨_, rfl, exec_fail (σ := e3 s m) (x := ⟨10, 0, 0, c⟩) (by simp [errM, e3]) rfl (show (10 : Int) ≠ 0 by decide) ((step_10 (x := ⟨10, 0, 0, c⟩) (e4 s m) rfl).trans (he m _ _ h')) (by decide)⟩
  · have h' : ¬ c < m := h
    exact ⟨_, rfl, exec_fail (σ := e3 s m) (x := ⟨11, 0, 0, c⟩) (by simp [errM, e3]) rfl (show (11 : Int) ≠ 0 by decide) ((step_11 (x := ⟨11, 0, 0, c⟩) (e4 s m) rfl).trans (he m _ _ h')) (by decide)⟩
theorem errM_yes (s m : Nat) (x c : Int) (hs : s ≤ 15) (hm : m ≤ 30) (hx : Four x) (hc : 0 ≤ c ∧ c ≤ 255) (h : inIt s m x c) : ∃ g, runM emptyG 50 (errM s m x c) = ⟨0, 4, 46, [9], g⟩ := by
  obtain ⟨σ, ho, hr⟩ := errM_in s m x c hx h
  rw [runM_of (errM_ok s m x c (by omega) (by omega) hx hc) (by simp [errM]) (by simp [errM]) hr]
  exact ⟨_, by rw [ho]; rfl⟩
theorem errM_no (s m : Nat) (x c : Int) (hs : s ≤ 15) (hm : m ≤ 30) (hx : Four x) (hc : 0 ≤ c ∧ c ≤ 255) (h : ¬ inIt s m x c) : ∃ g, runM emptyG 50 (errM s m x c) = ⟨8, 3, 46, [9], g⟩ := by
  obtain ⟨σ, ho, hr⟩ := errM_out s m x c hx h
  rw [runM_of (errM_ok s m x c (by omega) (by omega) hx hc) (by simp [errM]) (by simp [errM]) hr]
  exact ⟨_, by rw [ho]; rfl⟩
theorem pick4 (v : Int) : -4 < v.tmod 4 ∧ v.tmod 4 < 4 ∧ ((v.tmod 4 + 4).tmod 4 = 0 ∨ (v.tmod 4 + 4).tmod 4 = 1 ∨ (v.tmod 4 + 4).tmod 4 = 2 ∨ (v.tmod 4 + 4).tmod 4 = 3) := by
  have h1 : -4 < v.tmod 4 ∧ v.tmod 4 < 4 := by
    rw [Int.tmod_eq_emod]
    split <;> omega
  refine ⟨h1.1, h1.2, ?_⟩
  rw [Int.tmod_eq_emod_of_nonneg (show 0 ≤ v.tmod 4 + 4 by omega)]
  omega

end Go.Proofs.Yteminkohgagedaa.Mo
