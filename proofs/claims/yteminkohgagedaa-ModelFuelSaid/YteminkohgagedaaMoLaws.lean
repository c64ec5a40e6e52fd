/- The statements that run a program over nothing: Reckons, Shares. -/
import Derived.Test.YteminkohgagedaaMoTop
namespace Go.Proofs.Yteminkohgagedaa.Mo
open Go.RowKit Go.Proofs.Yteminkohgagedaa.Base Go.Proofs.Yteminkohgagedaa.Gr Go.Proofs.Yteminkohgagedaa.Ver
set_option linter.unusedVariables false
set_option linter.unusedSimpArgs false

theorem right_empty : right emptyG = true := by decide
theorem runM_of {l : List Ins} {F : Nat} {r : Res} (hok : ∀ x ∈ l, x.ok l.length = true) (h0 : l.length ≠ 0) (h2 : l.length ≤ 200) (hr : exec l F (start emptyG emptyG) = r) : runM emptyG F l = ⟨r.e, r.at_, r.left, r.σ.outs, number r.σ.last⟩ := by
  have hc : chk l = ((l.length : Int), 0) := chk_good (by omega) (fun j hj => hok _ (List.getElem_mem hj))
  rw [runM, if_pos right_empty, if_pos (by rw [hc]), hr]
theorem byt_mod (v : Int) : byt (v % 256) = true := decide_eq_true (by omega)
theorem numI_ok (n : Int) (a v : Int) (ha : 0 ≤ a ∧ a < 4) : (numI a v).ok n = true := by
  show one 1 a (v % 256) (v / 256 % 256) n = true
  have hs : shp 1 = (2, 0, 0) := rfl
  simp only [one, hs, num, Int.reduceEq, if_true, if_false, Bool.and_eq_true, decide_eq_true_eq]
  refine ⟨⟨⟨by omega, by omega, by omega, by omega⟩, fun h => absurd h (by decide)⟩, fun h => absurd h (by decide)⟩
theorem word_of (v : Int) (h0 : 0 ≤ v) (h1 : v ≤ 65535) : rnd (v % 256 + 256 * (v / 256 % 256)) = v := by unfold rnd; omega
theorem ints_lit {w : World} {g : Nat} {t : TypeId} {cs : Array Value} {l : List Int} (h : Blk w g t cs) (hc : cs.toList = enc ic l) (hl : l.length ≤ 1000) : Ints w (some ⟨g, 0, none⟩) l := by
  refine ⟨⟨enc_len ic_len l, fun _ => ⟨_, rfl, fun j u hu => ?_⟩⟩, by omega⟩
  rw [add_of_zero, h.cell j, ← Array.getElem?_toList, hc]
  exact hu

/-! ### sums, differences and products -/
def reckonL (a b : Int) : List Ins := [numI 0 a, numI 1 b, ⟨2, 2, 0, 1⟩, ⟨16, 2, 0, 0⟩, ⟨3, 2, 0, 1⟩, ⟨16, 2, 0, 0⟩, ⟨4, 2, 0, 1⟩, ⟨16, 2, 0, 0⟩, ⟨4, 2, 2, 2⟩, ⟨16, 2, 0, 0⟩]
theorem reckon_exec (a b : Int) : exec (reckonL a b) 1000 (start emptyG emptyG) = ⟨0, 10, 990, ⟨emptyG, emptyG, [0, 0, 0, 0], [rnd (a % 256 + 256 * (a / 256 % 256)), rnd (b % 256 + 256 * (b / 256 % 256)), rnd (rnd (rnd (a % 256 + 256 * (a / 256 % 256)) * rnd (b % 256 + 256 * (b / 256 % 256))) * rnd (rnd (a % 256 + 256 * (a / 256 % 256)) * rnd (b % 256 + 256 * (b / 256 % 256)))), 0], 10,
    [rnd (rnd (a % 256 + 256 * (a / 256 % 256)) + rnd (b % 256 + 256 * (b / 256 % 256))), rnd (rnd (a % 256 + 256 * (a / 256 % 256)) - rnd (b % 256 + 256 * (b / 256 % 256))), rnd (rnd (a % 256 + 256 * (a / 256 % 256)) * rnd (b % 256 + 256 * (b / 256 % 256))), rnd (rnd (rnd (a % 256 + 256 * (a / 256 % 256)) * rnd (b % 256 + 256 * (b / 256 % 256))) * rnd (rnd (a % 256 + 256 * (a / 256 % 256)) * rnd (b % 256 + 256 * (b / 256 % 256))))]⟩⟩ := by kernel_rfl
theorem reckon_ok (a b : Int) : ∀ x ∈ reckonL a b, x.ok (reckonL a b).length = true := by
  intro x hx
  simp only [reckonL, List.mem_cons, List.not_mem_nil, or_false] at hx
  rcases hx with rfl | rfl | rfl | rfl | rfl | rfl | rfl | rfl | rfl | rfl
  · exact numI_ok _ _ _ (by omega)
  · exact numI_ok _ _ _ (by omega)
  all_goals rfl
theorem reckon_runs (a b : Int) (ha : 0 ≤ a ∧ a ≤ 65535) (hb : 0 ≤ b ∧ b ≤ 65535) : (runM emptyG 1000 (reckonL a b)).e = 0 ∧ (runM emptyG 1000 (reckonL a b)).outs = [rnd (a + b), rnd (a - b), rnd (a * b), rnd (rnd (a * b) * rnd (a * b))] := by
  rw [runM_of (reckon_ok a b) (by simp [reckonL]) (by simp [reckonL]) (reckon_exec a b)]
  rw [word_of a ha.1 ha.2, word_of b hb.1 hb.2]
  exact ⟨rfl, rfl⟩
theorem bits_u64 (v : Int) : bits .and .u64 v 4294967295 = rnd v := by
  unfold bits rnd
  have h1 : ((BitVec.ofInt IntKind.u64.bits v &&& BitVec.ofInt IntKind.u64.bits 4294967295).toNat : Int) = v % 4294967296 := by
    have h64 : IntKind.u64.bits = 64 := rfl
    rw [h64, BitVec.toNat_and]
    have e : (BitVec.ofInt 64 4294967295).toNat = 2 ^ 32 - 1 := by decide
    rw [e, Nat.and_two_pow_sub_one_eq_mod, BitVec.toNat_ofInt]
    omega
  simp only [h1]
  exact IntWalk.u64_in _ (by omega)

set_option maxRecDepth 100000 in
set_option maxHeartbeats 4000000 in
theorem reckons_walk (a b : Int) (w : World) : Calls Try.prog 4 #[.int .i64 a, .int .i64 b] w fun e w' => e = .returned (.bool true) ∧ Below w.heap.size w w' := by
  rcases (by omega : (0 ≤ a ∧ 0 ≤ b ∧ a ≤ 65535 ∧ b ≤ 65535) ∨ a < 0 ∨ (0 ≤ a ∧ b < 0) ∨ (0 ≤ a ∧ 0 ≤ b ∧ 65535 < a) ∨ (0 ≤ a ∧ 0 ≤ b ∧ a ≤ 65535 ∧ 65535 < b)) with ⟨h1, h2, h3, h4⟩ | h1 | ⟨h1, h2⟩ | ⟨h1, h2, h3⟩ | ⟨h1, h2, h3, h4⟩
  · go_enter Try.func4, Try.ntmps4
    go_wp2_with fail
    refine (alive_any w).mono ?_
    rintro e w1 ⟨rfl, hb1⟩
    have HB1 := Lib.hid hb1
    clear hb1
    go_wp2_with fail
    refine (num_any 0 a w1).mono ?_
    rintro e w2 ⟨rfl, hb2⟩
    have HB2 := Lib.hid (below_then HB1.out hb2)
    clear hb2
    go_wp2_with fail
    refine (num_any 1 b w2).mono ?_
    rintro e w3 ⟨rfl, hb3⟩
    have HB3 := Lib.hid (below_then HB2.out hb3)
    clear hb3
    go_wp2_with fail
    have hr := reckon_runs a b ⟨h1, h3⟩ ⟨h2, h4⟩
    have K := run_any2 (some ⟨w3.heap.size, 0, none⟩) (reckonL a b) 10 _ (arr_blk (l := reckonL a b) (Blk.new w3 39 #[.int .i64 1, .int .i64 0, .int .i64 (a % 256), .int .i64 (a / 256 % 256), .int .i64 1, .int .i64 1, .int .i64 (b % 256), .int .i64 (b / 256 % 256), .int .i64 2, .int .i64 2, .int .i64 0, .int .i64 1, .int .i64 16, .int .i64 2, .int .i64 0, .int .i64 0, .int .i64 3, .int .i64 2, .int .i64 0, .int .i64 1, .int .i64 16, .int .i64 2, .int .i64 0, .int .i64 0,
      .int .i64 4, .int .i64 2, .int .i64 0, .int .i64 1, .int .i64 16, .int .i64 2, .int .i64 0, .int .i64 0, .int .i64 4, .int .i64 2, .int .i64 2, .int .i64 2, .int .i64 16, .int .i64 2, .int .i64 0, .int .i64 0]) rfl)
    rw [hr.1, hr.2] at K
    refine K.mono ?_
    rintro e w4 ⟨AO, cO, rfl, hI, hb4⟩
    have HI := Lib.hid hI
    have HB4 := Lib.hid (below_then HB3.out (below_then (below_1 w3 _) hb4))
    clear hI hb4 K hr
    have hp0 : 0 ≤ a * b := Int.mul_nonneg h1 h2
    have hp1 : a * b ≤ 65535 * 65535 := Int.mul_le_mul h3 h4 h2 (by omega)
    have hw1 : IntKind.u64.wrap (a * b) = a * b := IntWalk.u64_in _ (by omega)
    have hbu := bits_u64 (a * b)
    have hr0 := rnd_range (a * b)
    have hq0 : 0 ≤ rnd (a * b) * rnd (a * b) := Int.mul_nonneg hr0.1 hr0.1
    have hq1 : rnd (a * b) * rnd (a * b) ≤ 4294967295 * 4294967295 := Int.mul_le_mul (by omega) (by omega) hr0.1 (by omega)
    have hw2 : IntKind.u64.wrap (rnd (a * b) * rnd (a * b)) = rnd (a * b) * rnd (a * b) := IntWalk.u64_in _ (by omega)
    have hbu2 := bits_u64 (rnd (a * b) * rnd (a * b))
    have hr1 := rnd_range (rnd (a * b) * rnd (a * b))
    have hw3 : wrap64 (rnd (a * b)) = rnd (a * b) := IntWalk.wrap64_in _ (by omega)
    have hw4 : wrap64 (rnd (rnd (a * b) * rnd (a * b))) = rnd (rnd (a * b) * rnd (a * b)) := IntWalk.wrap64_in _ (by omega)
    have hbp := bits_rnd (a + b)
    have hbm := bits_rnd (a - b)
    clear hp0 hp1 hq0 hq1 hr0 hr1
    go_wp2_with fail
    refine (same_any AO (some ⟨w4.heap.size, 0, none⟩) _ [rnd (a + b), rnd (a - b), rnd (a * b), rnd (rnd (a * b) * rnd (a * b))] cO 4 _ (HI.out.below (below_1 _ _)) (ints_lit (Blk.new w4 3 #[.int .i64 (rnd (a + b)), .int .i64 (rnd (a - b)), .int .i64 (rnd (a * b)), .int .i64 (rnd (rnd (a * b) * rnd (a * b)))]) rfl (by simp)) (by simp)).mono ?_
    rw [decide_eq_true rfl]
    rintro e w5 ⟨rfl, hb5⟩
    have HB5 := Lib.hid (below_then HB4.out (below_then (below_1 w4 _) hb5))
    clear hb5
    go_wp2_with fail
    go_ret
    exact ⟨rfl, HB5.out⟩
  all_goals
    go_enter Try.func4, Try.ntmps4
    go_wp2_with (first | (go_at_call 13; refine (alive_any _).mono ?_; rintro e w1 ⟨rfl, hb1⟩))
    go_ret
    exact ⟨rfl, hb1⟩

end Go.Proofs.Yteminkohgagedaa.Mo
