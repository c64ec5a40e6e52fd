/- The statement on objects. -/
import Derived.Test.YteminkohgagedaaMoLaws2
namespace Go.Proofs.Yteminkohgagedaa.Mo
open Go.RowKit Go.Proofs.Yteminkohgagedaa.Base Go.Proofs.Yteminkohgagedaa.Gr Go.Proofs.Yteminkohgagedaa.Ver
set_option linter.unusedVariables false
set_option linter.unusedSimpArgs false

theorem exec_next {l : List Ins} {n : Nat} {σ σ' : St} {x : Ins} (h : σ.pc < l.length) (hx : insAt l σ.pc = x) (h0 : x.op ≠ 0) (hs : step x { σ with pc := σ.pc + 1 } = (0, σ')) : exec l (n + 1) σ = exec l n σ' := by
  have h1 : (step (insAt l σ.pc) { σ with pc := σ.pc + 1 }).1 = 0 := by rw [hx, hs]
  rw [exec_go h (by rw [hx]; exact h0) h1, hx, hs]
theorem rep_in {n k : Nat} (h : k < n) : ¬ (((List.replicate n (0 : Int)).length : Nat) : Int) ≤ (k : Int) := by simp; omega
theorem pu_at {l : List Int} {k : Nat} {v : Int} (h : k < l.length) : gt (pu l (k : Int) v) (k : Int) = v := by
  have hk : k < (pu l (k : Int) v).length := by rw [pu_len]; exact h
  rw [gt_nat hk]
  simp [pu]
def objL (s m i k : Nat) (v : Int) : List Ins := [⟨7, 0, (s : Int), (m : Int)⟩, ⟨7, 1, 0, 0⟩, numI 0 v, ⟨11, 0, 0, (k : Int)⟩, ⟨9, 0, 1, (i : Int)⟩, ⟨8, 2, 0, (i : Int)⟩, ⟨18, 1, 1, 2⟩, ⟨16, 1, 0, 0⟩, ⟨18, 1, 0, 2⟩, ⟨16, 1, 0, 0⟩, ⟨10, 1, 0, (k : Int)⟩, ⟨16, 1, 0, 0⟩, ⟨21, 1, 0, 0⟩, ⟨16, 1, 0, 0⟩, ⟨22, 1, 0, 0⟩, ⟨16, 1, 0, 0⟩, ⟨17, 1, 3, 0⟩, ⟨16, 1, 0, 0⟩, ⟨17, 1, 2, 0⟩, ⟨16, 1, 0, 0⟩]
def word (v : Int) : Int := rnd (v % 256 + 256 * (v / 256 % 256))
theorem obj_1 (s m i k : Nat) (v : Int) : exec (objL s m i k v) 1000 (start emptyG emptyG) = exec (objL s m i k v) 997 ⟨⟨emptyG.roots, [⟨List.replicate s 0, List.replicate m 0⟩, ⟨[], []⟩]⟩, emptyG, [1, 2, 0, 0], [word v, 0, 0, 0], 3, []⟩ := by kernel_rfl
theorem obj_2 (s m i k : Nat) (v : Int) (hk : k < m) : exec (objL s m i k v) 997 ⟨⟨emptyG.roots, [⟨List.replicate s 0, List.replicate m 0⟩, ⟨[], []⟩]⟩, emptyG, [1, 2, 0, 0], [word v, 0, 0, 0], 3, []⟩ =
    exec (objL s m i k v) 996 ⟨⟨emptyG.roots, [⟨List.replicate s 0, pu (List.replicate m 0) (k : Int) (word v)⟩, ⟨[], []⟩]⟩, emptyG, [1, 2, 0, 0], [word v, 0, 0, 0], 4, []⟩ := by
  refine exec_next (x := ⟨11, 0, 0, (k : Int)⟩) (by simp [objL]) rfl (show (11 : Int) ≠ 0 by decide) ?_
  rw [step_11 _ rfl]
  exact if_pos (atE_in (show (1 : Int) ≠ 0 by decide) (rep_in hk))
theorem obj_3 (s m i k : Nat) (v : Int) (hi : i < s) : exec (objL s m i k v) 996 ⟨⟨emptyG.roots, [⟨List.replicate s 0, pu (List.replicate m 0) (k : Int) (word v)⟩, ⟨[], []⟩]⟩, emptyG, [1, 2, 0, 0], [word v, 0, 0, 0], 4, []⟩ =
    exec (objL s m i k v) 995 ⟨⟨emptyG.roots, [⟨pu (List.replicate s 0) (i : Int) 2, pu (List.replicate m 0) (k : Int) (word v)⟩, ⟨[], []⟩]⟩, emptyG, [1, 2, 0, 0], [word v, 0, 0, 0], 5, []⟩ := by
  refine exec_next (x := ⟨9, 0, 1, (i : Int)⟩) (by simp [objL]) rfl (show (9 : Int) ≠ 0 by decide) ?_
  rw [step_9 _ rfl]
  exact if_pos (atE_in (show (1 : Int) ≠ 0 by decide) (rep_in hi))
theorem obj_4 (s m i k : Nat) (v : Int) (hi : i < s) : exec (objL s m i k v) 995 ⟨⟨emptyG.roots, [⟨pu (List.replicate s 0) (i : Int) 2, pu (List.replicate m 0) (k : Int) (word v)⟩, ⟨[], []⟩]⟩, emptyG, [1, 2, 0, 0], [word v, 0, 0, 0], 5, []⟩ =
    exec (objL s m i k v) 994 ⟨⟨emptyG.roots, [⟨pu (List.replicate s 0) (i : Int) 2, pu (List.replicate m 0) (k : Int) (word v)⟩, ⟨[], []⟩]⟩, emptyG, [1, 2, 2, 0], [word v, 0, 0, 0], 6, []⟩ := by
  refine exec_next (x := ⟨8, 2, 0, (i : Int)⟩) (by simp [objL]) rfl (show (8 : Int) ≠ 0 by decide) ?_
  have hg : gt (pu (List.replicate s 0) (i : Int) 2) (i : Int) = 2 := pu_at (by simpa using hi)
  rw [step_8 _ rfl]
  refine (if_pos (atE_in (show (1 : Int) ≠ 0 by decide) (by show ¬ (((pu (List.replicate s 0) (i : Int) 2).length : Nat) : Int) ≤ (i : Int); rw [pu_len]; exact rep_in hi))).trans ?_
  show ((0 : Int), (⟨_, _, pu [1, 2, 0, 0] 2 (gt (pu (List.replicate s 0) (i : Int) 2) (i : Int)), _, _, _⟩ : St)) = _
  rw [hg]
  rfl
theorem obj_5 (s m i k : Nat) (v : Int) : exec (objL s m i k v) 994 ⟨⟨emptyG.roots, [⟨pu (List.replicate s 0) (i : Int) 2, pu (List.replicate m 0) (k : Int) (word v)⟩, ⟨[], []⟩]⟩, emptyG, [1, 2, 2, 0], [word v, 0, 0, 0], 6, []⟩ =
    exec (objL s m i k v) 990 ⟨⟨emptyG.roots, [⟨pu (List.replicate s 0) (i : Int) 2, pu (List.replicate m 0) (k : Int) (word v)⟩, ⟨[], []⟩]⟩, emptyG, [1, 2, 2, 0], [word v, 0, 0, 0], 10, [1, 0]⟩ := by kernel_rfl
theorem obj_6 (s m i k : Nat) (v : Int) (hk : k < m) : exec (objL s m i k v) 990 ⟨⟨emptyG.roots, [⟨pu (List.replicate s 0) (i : Int) 2, pu (List.replicate m 0) (k : Int) (word v)⟩, ⟨[], []⟩]⟩, emptyG, [1, 2, 2, 0], [word v, 0, 0, 0], 10, [1, 0]⟩ =
    exec (objL s m i k v) 989 ⟨⟨emptyG.roots, [⟨pu (List.replicate s 0) (i : Int) 2, pu (List.replicate m 0) (k : Int) (word v)⟩, ⟨[], []⟩]⟩, emptyG, [1, 2, 2, 0], [word v, word v, 0, 0], 11, [1, 0]⟩ := by
  refine exec_next (x := ⟨10, 1, 0, (k : Int)⟩) (by simp [objL]) rfl (show (10 : Int) ≠ 0 by decide) ?_
  have hg : gt (pu (List.replicate m 0) (k : Int) (word v)) (k : Int) = word v := pu_at (by simpa using hk)
  rw [step_10 _ rfl]
  refine (if_pos (atE_in (show (1 : Int) ≠ 0 by decide) (by show ¬ (((pu (List.replicate m 0) (k : Int) (word v)).length : Nat) : Int) ≤ (k : Int); rw [pu_len]; exact rep_in hk))).trans ?_
  show ((0 : Int), (⟨_, _, _, pu [word v, 0, 0, 0] 1 (gt (pu (List.replicate m 0) (k : Int) (word v)) (k : Int)), _, _⟩ : St)) = _
  rw [hg]
  rfl
theorem obj_7 (s m i k : Nat) (v : Int) : (exec (objL s m i k v) 989 ⟨⟨emptyG.roots, [⟨pu (List.replicate s 0) (i : Int) 2, pu (List.replicate m 0) (k : Int) (word v)⟩, ⟨[], []⟩]⟩, emptyG, [1, 2, 2, 0], [word v, word v, 0, 0], 11, [1, 0]⟩).e = 0 := by kernel_rfl
theorem obj_8 (s m i k : Nat) (v : Int) : (exec (objL s m i k v) 989 ⟨⟨emptyG.roots, [⟨pu (List.replicate s 0) (i : Int) 2, pu (List.replicate m 0) (k : Int) (word v)⟩, ⟨[], []⟩]⟩, emptyG, [1, 2, 2, 0], [word v, word v, 0, 0], 11, [1, 0]⟩).σ.outs =
    [1, 0, word v, ((pu (List.replicate s 0) (i : Int) 2).length : Int), ((pu (List.replicate m 0) (k : Int) (word v)).length : Int), 1, 0] := by kernel_rfl
theorem alloc_ok (n a s m : Int) (ha : 0 ≤ a ∧ a < 4) (hs : 0 ≤ s ∧ s ≤ 15) (hm : 0 ≤ m ∧ m ≤ 30) : (⟨7, a, s, m⟩ : Ins).ok n = true := by
  show one 7 a s m n = true
  have hq : shp 7 = (2, 0, 0) := rfl
  simp only [one, hq, num, Int.reduceEq, if_true, if_false, Bool.and_eq_true, decide_eq_true_eq]
  refine ⟨⟨⟨by omega, by omega, by omega, by omega⟩, fun _ => by omega⟩, fun h => absurd h (by decide)⟩
theorem place_ok (n op a b c : Int) (hop : op = 8 ∨ op = 9 ∨ op = 10 ∨ op = 11) (ha : 0 ≤ a ∧ a < 4) (hb : 0 ≤ b ∧ b < 4) (hc : 0 ≤ c ∧ c ≤ 255) : (⟨op, a, b, c⟩ : Ins).ok n = true := by
  show one op a b c n = true
  have hq : shp op = (2, 2, 0) := by rcases hop with rfl | rfl | rfl | rfl <;> rfl
  simp only [one, hq, num, Int.reduceEq, if_true, if_false, Bool.and_eq_true, decide_eq_true_eq]
  refine ⟨⟨⟨by omega, by omega, by omega, by omega⟩, fun h => by omega⟩, fun h => by omega⟩
theorem obj_ok (s m i k : Nat) (v : Int) (hs : s ≤ 15) (hm : m ≤ 30) (hi : i < s) (hk : k < m) : ∀ x ∈ objL s m i k v, x.ok (objL s m i k v).length = true := by
  intro x hx
  simp only [objL, List.mem_cons, List.not_mem_nil, or_false] at hx
  rcases hx with rfl | rfl | rfl | rfl | rfl | rfl | rfl | rfl | rfl | rfl | rfl | rfl | rfl | rfl | rfl | rfl | rfl | rfl | rfl | rfl
  · exact alloc_ok _ _ _ _ (by omega) (by omega) (by omega)
  · rfl
  · exact numI_ok _ _ _ (by omega)
  · exact place_ok _ _ _ _ _ (by omega) (by omega) (by omega) (by omega)
  · exact place_ok _ _ _ _ _ (by omega) (by omega) (by omega) (by omega)
  · exact place_ok _ _ _ _ _ (by omega) (by omega) (by omega) (by omega)
  · rfl
  · rfl
  · rfl
  · rfl
  · exact place_ok _ _ _ _ _ (by omega) (by omega) (by omega) (by omega)
  · rfl
  · rfl
  · rfl
  · rfl
  · rfl
  · rfl
  · rfl
  · rfl
  · rfl
theorem obj_runs (s m i k : Nat) (v : Int) (hs : s ≤ 15) (hm : m ≤ 30) (hi : i < s) (hk : k < m) (h0 : 0 ≤ v) (h1 : v ≤ 65535) : (runM emptyG 1000 (objL s m i k v)).e = 0 ∧ (runM emptyG 1000 (objL s m i k v)).outs = [1, 0, v, (s : Int), (m : Int), 1, 0] := by
  have hx : exec (objL s m i k v) 1000 (start emptyG emptyG) = _ := (obj_1 s m i k v).trans ((obj_2 s m i k v hk).trans ((obj_3 s m i k v hi).trans ((obj_4 s m i k v hi).trans ((obj_5 s m i k v).trans (obj_6 s m i k v hk)))))
  refine runM_e (obj_ok s m i k v hs hm hi hk) (by simp [objL]) (by simp [objL]) (by rw [hx]; exact obj_7 s m i k v) ?_
  rw [hx, obj_8, pu_len, pu_len, List.length_replicate, List.length_replicate, word, word_of v h0 h1]

end Go.Proofs.Yteminkohgagedaa.Mo
