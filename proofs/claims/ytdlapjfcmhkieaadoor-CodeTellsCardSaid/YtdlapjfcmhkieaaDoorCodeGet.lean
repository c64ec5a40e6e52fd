/- What code.Get comes to: every bytes as a program, or that they are none. -/
import Derived.Test.YtdlapjfcmhkieaaDoorCodePlain
import Derived.Test.YtdlapjfcmhkieaaDoorTarget
import Derived.IntWalk
namespace Go.Proofs.YtdlapjfcmhkieaaDoor.Ver
open Go.RowKit Go.Proofs.YtdlapjfcmhkieaaDoor.Base
set_option linter.unusedVariables false
set_option linter.unusedSimpArgs false

theorem get_no (s : ByteArray) (w : World) (h : bytesOk s.size = false) :
    Calls Tryd.prog 16 #[.string s] w fun e w' => e = .returned (.tuple #[.slice none 0 0, .bool false]) ∧ Below w.heap.size w w' := by
  have h' : ¬ (s.size % 4 = 0 ∧ s.size ≤ 800) := of_decide_eq_false h
  generalize hn : s.size = n at h'
  rcases (by omega : n % 4 ≠ 0 ∨ (n % 4 = 0 ∧ 800 < n)) with h1 | ⟨h1, h2⟩
  · have hb : ((n : Int) % 4 != 0) = true := bne_iff_ne.mpr (by omega)
    clear h h'
    go_enter Tryd.func16, Tryd.ntmps16
    go_wp2
    go_ret2
    exact ⟨rfl, Below.refl _ _⟩
  · have hb : ((n : Int) % 4 != 0) = false := bne_eq_false_iff_eq.mpr (by omega)
    have hc : decide ((n : Int) > 800) = true := decide_eq_true (by omega)
    clear h h'
    go_enter Tryd.func16, Tryd.ntmps16
    go_wp2
    go_ret2
    exact ⟨rfl, Below.refl _ _⟩

theorem byte_at (s : ByteArray) (m : Nat) (h : m < s.size) : IntKind.i64.wrap (s[m].toNat : Int) = ((s.data.toList.getD m 0).toNat : Int) := by
  have h1 : s[m].toNat < 256 := UInt8.toNat_lt _
  rw [IntWalk.i64_in _ (by omega)]
  have h2 : m < s.data.toList.length := by rw [Array.length_toList]; exact h
  rw [List.getD_eq_getElem?_getD, List.getElem?_eq_getElem h2]
  rfl
theorem get_cells (s : ByteArray) (m k : Nat) (h : m + 4 ≤ s.size) (hm : m = 4 * k) :
    (#[.int .i64 (IntKind.i64.wrap (s[m]'(by omega)).toNat), .int .i64 (IntKind.i64.wrap (s[m + 1]'(by omega)).toNat), .int .i64 (IntKind.i64.wrap (s[m + 2]'(by omega)).toNat), .int .i64 (IntKind.i64.wrap (s[m + 3]'(by omega)).toNat)] : Array Value).toList =
      enc Ins.cells (List.map (insOf s.data.toList) [k]) := by
  rw [byte_at s m (by omega), byte_at s (m + 1) (by omega), byte_at s (m + 2) (by omega), byte_at s (m + 3) (by omega)]
  subst hm
  rfl

set_option maxRecDepth 100000 in
set_option maxHeartbeats 2000000 in
theorem get_yes (s : ByteArray) (w : World) (h : s.size % 4 = 0) (h8 : s.size ≤ 800) :
    Calls Tryd.prog 16 #[.string s] w fun e w' => ∃ v, e = .returned (.tuple #[v, .bool true]) ∧ w'.ownsRow w.heap.size 28 4 v (s.size / 4) (enc Ins.cells (progOf s.data.toList)) ∧ Below w.heap.size w w' := by
  have hb : ((s.size : Int) % 4 != 0) = false := bne_eq_false_iff_eq.mpr (by omega)
  have hc : decide ((s.size : Int) > 800) = false := decide_eq_false (by omega)
  obtain ⟨i0, hi0, hz0, hz1, hz2⟩ := info_parts insInfo
  have H4 := Lib.hid h
  clear h
  go_enter Tryd.func16, Tryd.ntmps16
  go_wp2
  go_loopw [4, 5] (fun v i wr => ∃ k m : Nat, m ≤ s.size ∧ i = .int .i64 m ∧ Hid (m = 4 * k) ∧ Hid (Below w.heap.size w wr) ∧
    Hid (wr.ownsRow w.heap.size 28 4 v k (enc Ins.cells ((List.range k).map (insOf s.data.toList))))) (fun _ i _ => s.size - (intOf i).toNat)
  case atStart => exact ⟨0, 0, Nat.zero_le _, rfl, rfl, Below.refl _ _, own_nil _ _ _ _⟩
  case round =>
    obtain ⟨k, m, hk, rfl, HM, HB, HO⟩ := hrel
    by_cases hlt : m < s.size
    · have hm4 : m + 4 ≤ s.size := by have := HM.out; have := H4.out; omega
      have p0 : (0 : Int) ≤ m := by omega
      have p1 : (m : Int) < s.size := by omega
      have q1 : (m : Int) + 1 < s.size := by omega
      have q2 : (m : Int) + 2 < s.size := by omega
      have q3 : (m : Int) + 3 < s.size := by omega
      go_wp2_with fail
      have w1 : IntKind.i64.wrap ((m : Int) + 1) = (m : Int) + 1 := IntWalk.i64_in _ (by omega)
      have w2 : IntKind.i64.wrap ((m : Int) + 2) = (m : Int) + 2 := IntWalk.i64_in _ (by omega)
      have w3 : IntKind.i64.wrap ((m : Int) + 3) = (m : Int) + 3 := IntWalk.i64_in _ (by omega)
      have n1 : (0 : Int) ≤ (m : Int) + 1 := by omega
      have n2 : (0 : Int) ≤ (m : Int) + 2 := by omega
      have n3 : (0 : Int) ≤ (m : Int) + 3 := by omega
      have t1 : ((m : Int) + 1).toNat = m + 1 := by omega
      have t2 : ((m : Int) + 2).toNat = m + 2 := by omega
      have t3 : ((m : Int) + 3).toNat = m + 3 := by omega
      have hs0 := HB.out.size
      have hkb : k ≤ 800 := by have := HM.out; omega
      go_region_held3 (fun w' => True) (trivial)
        ((refine step_append_any _ rfl _ _ _ (by rfl) w.heap.size 28 i0 _ 4 32 Tryd.underlying22 hi0 hz0 hz1 hz2 rfl (by omega) _ k _ (by rfl) ((HO.out.alloc _).drew)
              _ 1 1 _ (by rfl) (Reads.new _ _ rfl) (by simp [Value.oneCell']) (fun e => by cases e) (by simp only [maxLen]; omega) (by omega) (by simp; omega) ?_; intro v4 w4 hown4 hg4 hat4))
      all_goals
        have hB4 : Hid (Below w.heap.size w w4) := by
          refine ((HB.out.alloc hs0 _).drew).grown hg4 (by simp; omega) ?_
          intro b hb
          exact (own_block HO.out b hb).1
        have hO4 : Hid (w4.ownsRow w.heap.size 28 4 v4 (k + 1) (enc Ins.cells ((List.range (k + 1)).map (insOf s.data.toList)))) := by
          refine (congrArg (fun xs => w4.ownsRow w.heap.size 28 4 v4 (k + 1) xs) ?_).mp hown4
          rw [List.range_succ, List.map_append, enc_append]
          congr 1
          exact get_cells s m k (by omega) HM.out
        clear hown4 hg4 hat4
        go_wp2
        go_roundw
        case rel => exact ⟨k + 1, m + 4, by omega, by go_num, by have := HM.out; show _ = _; omega, hB4, hO4⟩
        case measure => simp [intOf]; omega
    · clear hb hc
      go_wp2
      go_ret2
      have hk4 : k = s.size / 4 := by have := HM.out; have := H4.out; omega
      refine ⟨u4, rfl, ?_, HB.out⟩
      have e : progOf s.data.toList = (List.range k).map (insOf s.data.toList) := by
        have : s.data.toList.length = s.size := by rw [Array.length_toList]; rfl
        rw [progOf, this, ← hk4]
      rw [e, ← hk4]
      exact HO.out

end Go.Proofs.YtdlapjfcmhkieaaDoor.Ver
