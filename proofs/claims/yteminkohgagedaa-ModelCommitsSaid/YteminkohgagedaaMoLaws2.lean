/- The statements that run a program over nothing: Shares, Loops. -/
import Derived.Test.YteminkohgagedaaMoLaws
namespace Go.Proofs.Yteminkohgagedaa.Mo
open Go.RowKit Go.Proofs.Yteminkohgagedaa.Base Go.Proofs.Yteminkohgagedaa.Gr Go.Proofs.Yteminkohgagedaa.Ver
set_option linter.unusedVariables false
set_option linter.unusedSimpArgs false

theorem runM_e {l : List Ins} {F : Nat} {e : Int} {o : List Int} (hok : ∀ x ∈ l, x.ok l.length = true) (h0 : l.length ≠ 0) (h2 : l.length ≤ 200) (he : (exec l F (start emptyG emptyG)).e = e) (ho : (exec l F (start emptyG emptyG)).σ.outs = o) : (runM emptyG F l).e = e ∧ (runM emptyG F l).outs = o := by
  rw [runM_of hok h0 h2 rfl]
  exact ⟨he, ho⟩

/-! ### an object that is reached on two ways -/
def shareL (a b : Int) : List Ins := [⟨7, 0, 0, 1⟩, ⟨7, 1, 2, 0⟩, ⟨9, 1, 0, 0⟩, ⟨9, 1, 0, 1⟩, numI 0 a, ⟨11, 0, 0, 0⟩, ⟨8, 2, 1, 1⟩, ⟨10, 1, 2, 0⟩, ⟨16, 1, 0, 0⟩, numI 0 b, ⟨11, 2, 0, 0⟩, ⟨8, 3, 1, 0⟩, ⟨10, 1, 3, 0⟩, ⟨16, 1, 0, 0⟩, ⟨18, 1, 0, 3⟩, ⟨16, 1, 0, 0⟩]
theorem share_ok (a b : Int) : ∀ x ∈ shareL a b, x.ok (shareL a b).length = true := by
  intro x hx
  simp only [shareL, List.mem_cons, List.not_mem_nil, or_false] at hx
  rcases hx with rfl | rfl | rfl | rfl | rfl | rfl | rfl | rfl | rfl | rfl | rfl | rfl | rfl | rfl | rfl | rfl
  · first | rfl | kernel_rfl
  · first | rfl | kernel_rfl
  · first | rfl | kernel_rfl
  · first | rfl | kernel_rfl
  · exact numI_ok _ _ _ (by omega)
  · first | rfl | kernel_rfl
  · first | rfl | kernel_rfl
  · first | rfl | kernel_rfl
  · first | rfl | kernel_rfl
  · exact numI_ok _ _ _ (by omega)
  · first | rfl | kernel_rfl
  · first | rfl | kernel_rfl
  · first | rfl | kernel_rfl
  · first | rfl | kernel_rfl
  · first | rfl | kernel_rfl
  · first | rfl | kernel_rfl
theorem share_e (a b : Int) : (exec (shareL a b) 1000 (start emptyG emptyG)).e = 0 := by kernel_rfl
theorem share_o (a b : Int) : (exec (shareL a b) 1000 (start emptyG emptyG)).σ.outs = [rnd (a % 256 + 256 * (a / 256 % 256)), rnd (b % 256 + 256 * (b / 256 % 256)), 1] := by kernel_rfl
theorem share_runs (a b : Int) (ha : 0 ≤ a ∧ a ≤ 65535) (hb : 0 ≤ b ∧ b ≤ 65535) : (runM emptyG 1000 (shareL a b)).e = 0 ∧ (runM emptyG 1000 (shareL a b)).outs = [a, b, 1] := by
  have h := runM_e (share_ok a b) (by simp [shareL]) (by simp [shareL]) (share_e a b) (share_o a b)
  rw [word_of a ha.1 ha.2, word_of b hb.1 hb.2] at h
  exact h
set_option maxRecDepth 100000 in
set_option maxHeartbeats 4000000 in
theorem shares_walk (a b : Int) (w : World) : Calls Try.prog 10 #[.int .i64 a, .int .i64 b] w fun e w' => e = .returned (.bool true) ∧ Below w.heap.size w w' := by
  rcases (by omega : (0 ≤ a ∧ 0 ≤ b ∧ a ≤ 65535 ∧ b ≤ 65535) ∨ a < 0 ∨ (0 ≤ a ∧ b < 0) ∨ (0 ≤ a ∧ 0 ≤ b ∧ 65535 < a) ∨ (0 ≤ a ∧ 0 ≤ b ∧ a ≤ 65535 ∧ 65535 < b)) with ⟨h1, h2, h3, h4⟩ | h1 | ⟨h1, h2⟩ | ⟨h1, h2, h3⟩ | ⟨h1, h2, h3, h4⟩
  · have hr := share_runs a b ⟨h1, h3⟩ ⟨h2, h4⟩
    go_enter Try.func10, Try.ntmps10
    go_wp2_with fail
    refine (alive_any w).mono ?_
    rintro e w1 ⟨rfl, hb1⟩
    have HB1 := Lib.hid hb1
    clear hb1
    go_wp2_with fail
    refine (num_any 0 a w1).mono ?_
    rintro e w2 ⟨rfl, hb2⟩
    have HB2 := Lib.hid (below_then HB1.out hb2)
    clear hb2
    go_wp2_with fail
    refine (num_any 0 b w2).mono ?_
    rintro e w3 ⟨rfl, hb3⟩
    have HB3 := Lib.hid (below_then HB2.out hb3)
    clear hb3
    go_wp2_with fail
    have K := run_any2 (some ⟨w3.heap.size, 0, none⟩) (shareL a b) 16 _ (arr_blk (l := shareL a b) (Blk.new w3 39 #[.int .i64 7, .int .i64 0, .int .i64 0, .int .i64 1, .int .i64 7, .int .i64 1, .int .i64 2, .int .i64 0, .int .i64 9, .int .i64 1, .int .i64 0, .int .i64 0, .int .i64 9, .int .i64 1, .int .i64 0, .int .i64 1, .int .i64 1, .int .i64 0, .int .i64 (a % 256), .int .i64 (a / 256 % 256), .int .i64 11, .int .i64 0, .int .i64 0, .int .i64 0, .int .i64 8, .int .i64 2, .int .i64 1, .int .i64 1, .int .i64 10, .int .i64 1, .int .i64 2, .int .i64 0, .int .i64 16, .int .i64 1, .int .i64 0, .int .i64 0, .int .i64 1, .int .i64 0, .int .i64 (b % 256), .int .i64 (b / 256 % 256), .int .i64 11, .int .i64 2, .int .i64 0, .int .i64 0, .int .i64 8, .int .i64 3, .int .i64 1, .int .i64 0, .int .i64 10, .int .i64 1, .int .i64 3, .int .i64 0, .int .i64 16, .int .i64 1, .int .i64 0, .int .i64 0, .int .i64 18, .int .i64 1, .int .i64 0, .int .i64 3, .int .i64 16, .int .i64 1, .int .i64 0, .int .i64 0]) rfl)
    rw [hr.1, hr.2] at K
    refine K.mono ?_
    rintro e w9 ⟨AO, cO, rfl, hI, hb9⟩
    have HI := Lib.hid hI
    have HB9 := Lib.hid (below_then HB3.out (below_then (below_1 w3 _) hb9))
    clear hI hb9 K hr
    go_wp2_with fail
    refine (same_any AO (some ⟨w9.heap.size, 0, none⟩) _ [a, b, 1] cO 3 _ (HI.out.below (below_1 _ _)) (ints_lit (Blk.new w9 3 #[.int .i64 a, .int .i64 b, .int .i64 1]) rfl (by simp)) (by simp)).mono ?_
    rw [decide_eq_true rfl]
    rintro e w10 ⟨rfl, hb10⟩
    have HB10 := Lib.hid (below_then HB9.out (below_then (below_1 w9 _) hb10))
    clear hb10
    go_wp2_with fail
    go_ret
    exact ⟨rfl, HB10.out⟩
  all_goals
    go_enter Try.func10, Try.ntmps10
    go_wp2_with (first | (go_at_call 13; refine (alive_any _).mono ?_; rintro e w1 ⟨rfl, hb1⟩))
    go_ret
    exact ⟨rfl, hb1⟩


/-! ### a loop -/
def loopL (a : Int) : List Ins := [numI 0 a, numI 1 1, ⟨2, 2, 2, 0⟩, ⟨3, 0, 0, 1⟩, ⟨6, 0, 6, 0⟩, ⟨5, 0, 2, 0⟩, ⟨16, 2, 0, 0⟩]
theorem loop_ok (a : Int) : ∀ x ∈ loopL a, x.ok (loopL a).length = true := by
  intro x hx
  simp only [loopL, List.mem_cons, List.not_mem_nil, or_false] at hx
  rcases hx with rfl | rfl | rfl | rfl | rfl | rfl | rfl
  · exact numI_ok _ _ _ (by omega)
  · exact numI_ok _ _ _ (by omega)
  · first | rfl | kernel_rfl
  · first | rfl | kernel_rfl
  · first | rfl | kernel_rfl
  · first | rfl | kernel_rfl
  · first | rfl | kernel_rfl
def loopT (k : Nat) : Bool := decide ((exec (loopL (k : Int)) 1000 (start emptyG emptyG)).e = 0) && decide ((exec (loopL (k : Int)) 1000 (start emptyG emptyG)).σ.outs = [(k : Int) * (k + 1) / 2])
theorem loop_all : (List.range 100).all (fun k => loopT (k + 1)) = true := by decide +kernel
theorem loop_runs (a : Int) (h1 : 1 ≤ a) (h2 : a ≤ 100) : (runM emptyG 1000 (loopL a)).e = 0 ∧ (runM emptyG 1000 (loopL a)).outs = [a * (a + 1) / 2] := by
  obtain ⟨k, hk, rfl⟩ : ∃ k : Nat, k < 100 ∧ a = ((k + 1 : Nat) : Int) := ⟨(a - 1).toNat, by omega, by omega⟩
  have h := List.all_eq_true.1 loop_all k (List.mem_range.2 hk)
  simp only [loopT, Bool.and_eq_true, decide_eq_true_eq] at h
  exact runM_e (loop_ok _) (by simp [loopL]) (by simp [loopL]) h.1 h.2
set_option maxRecDepth 100000 in
set_option maxHeartbeats 4000000 in
theorem loops_walk (a : Int) (w : World) : Calls Try.prog 5 #[.int .i64 a] w fun e w' => e = .returned (.bool true) ∧ Below w.heap.size w w' := by
  rcases (by omega : (1 ≤ a ∧ a ≤ 100) ∨ a < 1 ∨ (1 ≤ a ∧ 100 < a)) with ⟨h1, h2⟩ | h1 | ⟨h1, h2⟩
  · have hr := loop_runs a h1 h2
    go_enter Try.func5, Try.ntmps5
    go_wp2_with fail
    refine (alive_any w).mono ?_
    rintro e w1 ⟨rfl, hb1⟩
    have HB1 := Lib.hid hb1
    clear hb1
    go_wp2_with fail
    refine (num_any 0 a w1).mono ?_
    rintro e w2 ⟨rfl, hb2⟩
    have HB2 := Lib.hid (below_then HB1.out hb2)
    clear hb2
    go_wp2_with fail
    refine (num_any 1 1 w2).mono ?_
    rintro e w3 ⟨rfl, hb3⟩
    have HB3 := Lib.hid (below_then HB2.out hb3)
    clear hb3
    go_wp2_with fail
    have K := run_any2 (some ⟨w3.heap.size, 0, none⟩) (loopL a) 7 _ (arr_blk (l := loopL a) (Blk.new w3 39 #[.int .i64 1, .int .i64 0, .int .i64 (a % 256), .int .i64 (a / 256 % 256), .int .i64 1, .int .i64 1, .int .i64 (1 % 256), .int .i64 (1 / 256 % 256), .int .i64 2, .int .i64 2, .int .i64 2, .int .i64 0, .int .i64 3, .int .i64 0, .int .i64 0, .int .i64 1, .int .i64 6, .int .i64 0, .int .i64 6, .int .i64 0, .int .i64 5, .int .i64 0, .int .i64 2, .int .i64 0, .int .i64 16, .int .i64 2, .int .i64 0, .int .i64 0]) rfl)
    rw [hr.1, hr.2] at K
    refine K.mono ?_
    rintro e w9 ⟨AO, cO, rfl, hI, hb9⟩
    have HI := Lib.hid hI
    have HB9 := Lib.hid (below_then HB3.out (below_then (below_1 w3 _) hb9))
    clear hI hb9 K hr
    obtain ⟨ad, rfl, d0⟩ := HI.out.at_ 0 (by simp)
    have e0 : ad.add 0 = ad := by simp [Addr.add]
    rw [e0] at d0
    simp only [List.getElem_cons_zero] at d0
    have hm0 : 0 ≤ a * (a + 1) := Int.mul_nonneg (by omega) (by omega)
    have hm1 : a * (a + 1) ≤ 100 * 101 := Int.mul_le_mul h2 (by omega) (by omega) (by omega)
    have hmw : wrap64 (a * (a + 1)) = a * (a + 1) := IntWalk.wrap64_in _ (by omega)
    have hmw2 : IntKind.i64.wrap (a * (a + 1)) = a * (a + 1) := IntWalk.i64_in _ (by omega)
    have hdv : (a * (a + 1)).tdiv 2 = a * (a + 1) / 2 := Int.tdiv_eq_ediv_of_nonneg hm0
    have hq : wrap64 (a * (a + 1) / 2) = a * (a + 1) / 2 := IntWalk.wrap64_in _ (by omega)
    clear e0 hm0 hm1
    go_wp2_with fail

    go_ret
    exact ⟨rfl, HB9.out⟩
  all_goals
    go_enter Try.func5, Try.ntmps5
    go_wp2_with (first | (go_at_call 13; refine (alive_any _).mono ?_; rintro e w1 ⟨rfl, hb1⟩))
    go_ret
    exact ⟨rfl, hb1⟩

end Go.Proofs.Yteminkohgagedaa.Mo
