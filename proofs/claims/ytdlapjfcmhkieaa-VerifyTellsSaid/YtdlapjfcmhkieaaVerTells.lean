/- The statement VerifyTells's own function: of every program and every number it answers true. -/
import Derived.Test.YtdlapjfcmhkieaaVerLaws
namespace Go.Proofs.Ytdlapjfcmhkieaa.Ver
open Go.RowKit Go.Proofs.Ytdlapjfcmhkieaa.Base
set_option linter.unusedVariables false
set_option linter.unusedSimpArgs false

theorem tells_far (A : Option Addr) (l : List Ins) (c : Nat) (n : Int) (w : World) (h : 250 < l.length) :
    Calls Try.prog 6 #[.slice A l.length c, .int .i64 n] w fun e w' => e = .returned (.bool true) ∧ Below w.heap.size w w' := by
  have hl : decide ((l.length : Int) > 250) = true := decide_eq_true (by omega)
  go_enter Try.func6, Try.ntmps6
  go_wp2_with fail
  refine (alive_any _).mono ?_
  rintro e w1 ⟨rfl, hb⟩
  go_wp2_with fail
  go_ret
  exact ⟨rfl, hb⟩

theorem below_drew_left {w w' : World} (h : Below w.drew.heap.size w.drew w') : Below w.heap.size w w' := ⟨h.os, h.tape, h.output, h.size, h.block⟩

set_option maxHeartbeats 2000000 in
theorem tells_near (A : Option Addr) (l : List Ins) (c : Nat) (n : Int) (w : World) (hr : Arr w Ins.cells 4 A l) (h : l.length ≤ 250) :
    Calls Try.prog 6 #[.slice A l.length c, .int .i64 n] w fun e w' => e = .returned (.bool true) ∧ Below w.heap.size w w' := by
  have hl : decide ((l.length : Int) > 250) = false := decide_eq_false (by omega)
  have hR := Lib.hid hr
  clear hr
  obtain ⟨q, hq⟩ : ∃ q, chk l = q := ⟨_, rfl⟩
  have HQ := Lib.hid hq
  clear hq
  have hq1 : (q.1 == q.1) = true := by simp
  have hq2 : (q.2 == q.2) = true := by simp
  go_enter Try.func6, Try.ntmps6
  go_wp2_with fail
  refine (alive_any _).mono ?_
  rintro e w1 ⟨rfl, hb1⟩
  go_wp2_with fail
  refine (lent_any A l c _ (hR.out.below hb1) (by omega)).mono ?_
  rintro e w2 ⟨B, m, rfl, hm, hown, hb2⟩
  have hArr2 : Arr w2 Ins.cells 4 B (l ++ [⟨-77, 0, 0, 0⟩]) := by
    have := Reads.of_own hown
    unfold lentCells at this
    unfold Arr
    simpa using this
  have HO := Lib.hid hown
  have H2 := Lib.hid hArr2
  have hc : l.length + 1 ≤ m := by
    obtain ⟨A', c', e', hle⟩ := own_form hown
    injection e' with _ _ e'
    omega
  clear hown hArr2
  go_wp2_with fail
  have k1 := check_any B l m w2 (arr_prefix H2.out)
  rw [HQ.out] at k1
  refine k1.mono ?_
  rintro e w3 ⟨rfl, hb3⟩
  clear k1
  go_wp2_with fail
  have hb13 := below_then (below_then hb1 hb2) hb3
  have k2 := rcheck_any A l c w3 (hR.out.below hb13)
  rw [HQ.out] at k2
  refine k2.mono ?_
  rintro e w4 ⟨rfl, hb4⟩
  clear k2
  have HB4 := Lib.hid (below_then hb13 hb4)
  have HB24 := Lib.hid (below_then hb3 hb4)
  clear hb1 hb2 hb3 hb4 hb13
  go_wp2_with fail
  go_loopw [10] (fun i wr => ∃ k : Nat, k ≤ l.length ∧ i = .int .i64 k ∧ Hid (Below w4.heap.size w4 wr)) (fun i _ => l.length - (intOf i).toNat)
  case atStart => exact ⟨0, Nat.zero_le _, rfl, Below.refl _ _⟩
  case round =>
    obtain ⟨k, hk, rfl, HB⟩ := hrel
    by_cases hlt : k < l.length
    · obtain ⟨ad, rfl, c0, c1, c2, c3⟩ := codes_at (hR.out.below (below_then HB4.out HB.out)) k hlt
      have p1 : (0 : Int) ≤ k := by omega
      have p2 : (k : Int) < l.length := by omega
      have l0 := cell_lt c0
      have hbb : ((one l[k].op l[k].a l[k].b l[k].c n) != (one l[k].op l[k].a l[k].b l[k].c n)) = false := by simp
      go_wp2_with fail
      go_region_held3 (fun w' => w'.cell? (ad.add (k * 4)) = some (.int .i64 l[k].op) ∧ w'.cell? ⟨(ad.add (k * 4)).block, (ad.add (k * 4)).off + 1, none⟩ = some (.int .i64 l[k].a) ∧
          w'.cell? ⟨(ad.add (k * 4)).block, (ad.add (k * 4)).off + 2, none⟩ = some (.int .i64 l[k].b) ∧ w'.cell? ⟨(ad.add (k * 4)).block, (ad.add (k * 4)).off + 3, none⟩ = some (.int .i64 l[k].c))
        (first
          | go_keep
          | (go_split_ands
             refine ⟨?_, ?_, ?_, ?_⟩
             all_goals ((refine (hbl.cell (cell_lt (by assumption))).trans ?_; assumption))))
        (first | (go_at_call 22; refine (one_any _ _ _ _ _ _).mono ?_; rintro e w1 ⟨rfl, hbl⟩) | (go_at_call 23; refine (rone_any _ _ _ _ _ _).mono ?_; rintro e w1 ⟨rfl, hbl⟩))
      all_goals
        go_wp2
        go_roundw
        case rel => exact ⟨k + 1, by omega, by go_num, below_then HB.out (below_then (below_drew_left (by assumption)) hbl)⟩
        case measure => simp [intOf]; omega
    · go_wp2_with fail
      have hA := hR.out.below (below_then HB4.out HB.out)
      have hM := H2.out.below (below_then HB24.out HB.out)
      refine (stays_any A B l c m wr hA hM (by omega) hc).mono ?_
      rintro e w5 ⟨rfl, hb5⟩
      go_wp2_with fail
      go_ret
      exact ⟨rfl, below_then (below_then HB4.out HB.out) hb5⟩

theorem tells_walk (A : Option Addr) (l : List Ins) (c : Nat) (n : Int) (w : World) (hr : Arr w Ins.cells 4 A l) (hc : l.length ≤ c) :
    Calls Try.prog 6 #[.slice A l.length c, .int .i64 n] w fun e w' => e = .returned (.bool true) ∧ Below w.heap.size w w' := by
  rcases Nat.lt_or_ge 250 l.length with h | h
  · exact tells_far A l c n w h
  · exact tells_near A l c n w hr h

end Go.Proofs.Ytdlapjfcmhkieaa.Ver
