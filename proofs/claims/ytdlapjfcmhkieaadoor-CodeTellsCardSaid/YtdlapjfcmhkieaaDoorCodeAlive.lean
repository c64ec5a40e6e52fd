/- The statements' own functions of chapter 19: alive, CodeTargets, CodeNames. -/
import Derived.Test.YtdlapjfcmhkieaaDoorCodePut
import Derived.Test.YtdlapjfcmhkieaaDoorCodeGet
import Derived.Test.YtdlapjfcmhkieaaDoorCodeText
import Derived.Laws.BitsLemmas
namespace Go.Proofs.YtdlapjfcmhkieaaDoor.Ver
open Go.RowKit Go.Proofs.YtdlapjfcmhkieaaDoor.Base
set_option linter.unusedVariables false
set_option linter.unusedSimpArgs false

theorem arr_new (w : World) (l : List Ins) (cs : Array Value) (h : cs.toList = enc Ins.cells l) : Arr (w.alloc (.cells cs 28)) Ins.cells 4 (some ⟨w.heap.size, 0, none⟩) l := by
  have hs : cs.size = l.length * 4 := by rw [← enc_len Ins.cells_len l, ← h]; simp
  have := Reads.new w 28 (size := 4) (n := l.length) hs
  rw [h] at this
  exact this
theorem below_new {w w' : World} {o : Obj} (h : Below (w.alloc o).heap.size (w.alloc o) w') : Below w.heap.size w w' :=
  ((Below.refl _ _).alloc (Nat.le_refl _) _).trans (h.mono (by simp))

set_option maxRecDepth 100000 in
set_option maxHeartbeats 2000000 in
theorem alive_any (w : World) (ht : Tab w) : Calls Tryd.prog 7 #[] w fun e w' => e = .returned (.bool true) ∧ Below w.heap.size w w' := by
  have k1 := put_any (some ⟨w.heap.size, 0, none⟩) [⟨7, 0, 2, 3⟩] 1 (w.alloc (.cells #[.int .i64 7, .int .i64 0, .int .i64 2, .int .i64 3] 28)) (arr_new w [⟨7, 0, 2, 3⟩] _ rfl)
  have c1 : putRes [⟨7, 0, 2, 3⟩] = .tuple #[.string ⟨#[7, 0, 2, 3]⟩, .bool true] := by rfl
  rw [c1] at k1
  have K1 := Lib.hid k1
  have HT := Lib.hid ht
  have hp : progOf (⟨#[7, 0, 2, 3]⟩ : ByteArray).data.toList = [⟨7, 0, 2, 3⟩] := by decide +kernel
  have HP := Lib.hid hp
  have htx : insText ⟨7, 0, 2, 3⟩ = [97, 108, 108, 111, 99, 32, 48, 32, 50, 32, 51] := by decide +kernel
  have HTX := Lib.hid htx
  have htg : tgt 1 1 = 257 := by decide +kernel
  have HTG := Lib.hid htg
  clear k1 c1 ht hp htx htg
  go_enter Tryd.func7, Tryd.ntmps7
  go_wp2_with fail
  refine (K1.out).mono ?_
  rintro e w1 ⟨rfl, hb1⟩
  have HB1 := Lib.hid (below_new hb1)
  clear hb1
  go_wp2_with fail
  refine (get_yes ⟨#[7, 0, 2, 3]⟩ w1 (by decide) (by decide)).mono ?_
  rintro e w2 ⟨v, rfl, hown, hb2⟩
  rw [HP.out] at hown
  have HB2 := Lib.hid (below_then HB1.out hb2)
  have hsz : (⟨#[7, 0, 2, 3]⟩ : ByteArray).size / 4 = 1 := by decide
  rw [hsz] at hown
  obtain ⟨A, m, rfl, hm⟩ := own_form hown
  have hA : Arr w2 Ins.cells 4 A [⟨7, 0, 2, 3⟩] := Reads.of_own hown
  have HA := Lib.hid hA
  clear hown hA hsz hb2
  go_wp2_with fail
  have k3 := target_yes 5 0 1 1 (.inl rfl) w2
  rw [HTG.out] at k3
  refine k3.mono ?_
  rintro e w3 ⟨rfl, hb3⟩
  clear k3
  obtain ⟨ad, rfl, c0, c1, c2, c3⟩ := codes_at (HA.out.below hb3) 0 (by simp)
  simp only [List.getElem_cons_zero, Nat.zero_mul, Addr.add, if_true] at c0 c1 c2 c3
  have HB3 := Lib.hid (below_then HB2.out hb3)
  clear hb3
  go_wp2_with fail
  have k4 := text_any ⟨7, 0, 2, 3⟩ w3 (by unfold Ins.fits; simp only []; omega) (HT.out.below HB3.out)
  rw [HTX.out] at k4
  refine k4.mono ?_
  rintro e w4 ⟨rfl, hb4⟩
  clear k4
  go_wp2_with fail
  go_ret
  exact ⟨rfl, below_then HB3.out hb4⟩

theorem and255 (n : Int) (h0 : 0 ≤ n) (h1 : n < 4611686018427387904) : bits .and .i64 n 255 = n % 256 :=
  bits_mask .i64 62 (by decide) (fun m h0 h1 => by rw [IntKind.wrap_i64]; omega) 8 (by decide) n h0 (by omega)

theorem targets_out (op tv : Int) (w : World) (ht : Tab w) (h : op < 0 ∨ 23 ≤ op ∨ tv < 0 ∨ 65535 < tv) :
    Calls Tryd.prog 6 #[.int .i64 op, .int .i64 tv] w fun e w' => e = .returned (.bool true) ∧ Below w.heap.size w w' := by
  rcases (by omega : op < 0 ∨ (0 ≤ op ∧ 23 ≤ op) ∨ (0 ≤ op ∧ op < 23 ∧ tv < 0) ∨ (0 ≤ op ∧ op < 23 ∧ 0 ≤ tv ∧ 65535 < tv)) with h | ⟨h, h1⟩ | ⟨h, h1, h2⟩ | ⟨h, h1, h2, h3⟩
  all_goals
    have HT := Lib.hid ht
    clear ht
    go_enter Tryd.func6, Tryd.ntmps6
    go_wp2_with fail
    refine (alive_any _ HT.out).mono ?_
    rintro e w1 ⟨rfl, hb⟩
    go_wp2_with fail
    go_ret
    exact ⟨rfl, hb⟩

set_option maxHeartbeats 1000000 in
theorem targets_walk (op tv : Int) (w : World) (ht : Tab w) :
    Calls Tryd.prog 6 #[.int .i64 op, .int .i64 tv] w fun e w' => e = .returned (.bool true) ∧ Below w.heap.size w w' := by
  by_cases h : op < 0 ∨ 23 ≤ op ∨ tv < 0 ∨ 65535 < tv
  · exact targets_out op tv w ht h
  have h1 : 0 ≤ op := by omega
  have h2 : op < 23 := by omega
  have h3 : 0 ≤ tv := by omega
  have h4 : tv ≤ 65535 := by omega
  have hand := and255 tv h3 (by omega)
  have htg : tgt (tv % 256) (tv / 256) = tv := by unfold tgt wrap64; omega
  have HTG := Lib.hid htg
  have HT := Lib.hid ht
  clear ht h htg
  by_cases hj : op = 5 ∨ op = 6
  · have hto : (tv == tv) = true := by simp
    rcases hj with rfl | rfl
    · go_enter Tryd.func6, Tryd.ntmps6
      go_wp2_with fail
      refine (alive_any _ HT.out).mono ?_
      rintro e w1 ⟨rfl, hb⟩
      go_wp2_with fail
      have k := target_yes 5 0 (tv % 256) (tv / 256) (by omega) w1
      rw [HTG.out] at k
      refine k.mono ?_
      rintro e w2 ⟨rfl, hb2⟩
      clear k
      go_wp2_with fail
      go_ret
      exact ⟨rfl, below_then hb hb2⟩
    · go_enter Tryd.func6, Tryd.ntmps6
      go_wp2_with fail
      refine (alive_any _ HT.out).mono ?_
      rintro e w1 ⟨rfl, hb⟩
      go_wp2_with fail
      have k := target_yes 6 0 (tv % 256) (tv / 256) (by omega) w1
      rw [HTG.out] at k
      refine k.mono ?_
      rintro e w2 ⟨rfl, hb2⟩
      clear k
      go_wp2_with fail
      go_ret
      exact ⟨rfl, below_then hb hb2⟩
  · have HJ := Lib.hid hj
    have e5 : (op == 5) = false := beq_eq_false_iff_ne.mpr (by omega)
    have e6 : (op == 6) = false := beq_eq_false_iff_ne.mpr (by omega)
    clear hj
    go_enter Tryd.func6, Tryd.ntmps6
    go_wp2_with fail
    refine (alive_any _ HT.out).mono ?_
    rintro e w1 ⟨rfl, hb⟩
    go_wp2_with fail
    refine (target_no op 0 (tv % 256) (tv / 256) HJ.out w1).mono ?_
    rintro e w2 ⟨rfl, hb2⟩
    go_wp2_with fail
    go_ret
    exact ⟨rfl, below_then hb hb2⟩

end Go.Proofs.YtdlapjfcmhkieaaDoor.Ver
