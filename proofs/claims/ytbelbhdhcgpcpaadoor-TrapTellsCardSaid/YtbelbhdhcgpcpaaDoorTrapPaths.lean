/- The statement TrapPaths: a path is told from the outermost where on; wrapped in two parts it is both. -/
import Derived.Test.YtbelbhdhcgpcpaaDoorTrapAlive
import Derived.IntWalk
namespace Go.Proofs.YtbelbhdhcgpcpaaDoor.Trap
open Go.RowKit Go.Proofs.YtbelbhdhcgpcpaaDoor.Base
set_option linter.unusedVariables false
set_option linter.unusedSimpArgs false

/-- A slice of texts. -/
def Strs (w : World) (A : Option Addr) (l : List ByteArray) : Prop := Arr w sc 1 A l
theorem Strs.below {w w' : World} {A : Option Addr} {l : List ByteArray} (h : Strs w A l) (hb : Below w.heap.size w w') : Strs w' A l := Arr.below h hb
theorem Strs.at_ {w : World} {A : Option Addr} {l : List ByteArray} (h : Strs w A l) (i : Nat) (hi : i < l.length) : ∃ ad, A = some ad ∧ w.cell? (ad.add i) = some (.string l[i]) := by
  obtain ⟨ad, e, hc⟩ := Arr.at_ h sc_len i hi (by omega)
  refine ⟨ad, e, ?_⟩
  have := hc 0 (.string l[i]) rfl
  simpa using this
theorem Strs.of_own {w : World} {base : Nat} {e : TypeId} {c n : Nat} {A : Option Addr} {l : List ByteArray} (h : w.ownsRow base e 1 (.slice A n c) n (enc sc l)) (hn : n = l.length) : Strs w A l := by
  subst hn
  exact Reads.of_own h

set_option maxRecDepth 100000 in
set_option maxHeartbeats 8000000 in
theorem paths_good (n : Int) (A B : Option Addr) (la lb : List ByteArray) (ca cb : Nat) (w : World) (hg : Door w) (hA : Strs w A la) (hB : Strs w B lb) (hn : n ≠ 0) (h1 : la.length ≤ 20) (h2 : lb.length ≤ 20) :
    Calls Tryd.prog 9 #[.int .i64 n, .slice A la.length ca, .slice B lb.length cb] w fun e w' => e = .returned (.bool true) ∧ Below w.heap.size w w' := by
  have p1 : (n == 0) = false := beq_eq_false_iff_ne.mpr hn
  have p2 : decide ((la.length : Int) > 20) = false := decide_eq_false (by omega)
  have p3 : decide ((lb.length : Int) > 20) = false := decide_eq_false (by omega)
  have HG := Lib.hid hg
  have HNN := Lib.hid hn
  have HA := Lib.hid hA
  have HB := Lib.hid hB
  clear hg hn hA hB
  go_enter Tryd.func9, Tryd.ntmps9
  go_upto_block 0 with (first
    | (go_at_call 22; refine (alive_any _ HG.out).mono ?_; rintro e w1 ⟨rfl, hb1⟩; have HB1 := Lib.hid hb1; clear hb1)
    | (go_at_call 23; refine (new_some n 1 HNN.out _).mono ?_; rintro e w2 ⟨v2, rfl, h2, hb2⟩; have HE2 := Lib.hid h2; have HB2 := Lib.hid (below_then HB1.out hb2); clear h2 hb2))
  clear p1 p2 p3
  go_cut [7] (fun u wx => Hid (ErrAt wx n 1 la.reverse u) ∧ Hid (Below w.heap.size w wx))
  case first =>
    go_wp2_with fail
    go_loopw [7, 8] (fun u i wr => ∃ k : Nat, k ≤ la.length ∧ i = .int .i64 k ∧ Hid (ErrAt wr n 1 (la.take k).reverse u) ∧ Hid (Below w.heap.size w wr)) (fun _ i _ => la.length - (intOf i).toNat)
    case atStart => exact ⟨0, Nat.zero_le _, rfl, HE2, HB2⟩
    case round =>
      obtain ⟨k, hk, rfl, HE, HBr⟩ := hrel
      by_cases hlt : k < la.length
      · obtain ⟨ad, rfl, a1⟩ := (HA.out.below HBr.out).at_ k hlt
        have HT := Lib.hid (List.take_succ_eq_append_getElem hlt)
        generalize la[k] = s at a1 HT
        go_wp2_with (first | (go_at_call 25; refine (in_some s HE.out).mono ?_; rintro e w3 ⟨v3, rfl, h3, hb3⟩; have HE3 := Lib.hid h3; have HB3 := Lib.hid (below_then HBr.out hb3); clear h3 hb3))
        go_roundw
        case rel => exact ⟨k + 1, by omega, by go_num, Lib.hid (by rw [HT.out, List.reverse_append]; exact HE3.out), HB3⟩
        case measure => simp [intOf]; omega
      · have hkt : k = la.length := by omega
        subst hkt
        go_wp2_with fail
        go_meet
        rw [List.take_length] at HE
        exact ⟨HE, HBr⟩
  case rest =>
    obtain ⟨HE, HBx⟩ := hcut
    have KP := Lib.hid (path_any wc (HG.out.below HBx.out) HE.out (by rw [List.length_reverse]; omega))
    rw [List.length_reverse] at KP
    go_wp2_with (first
      | (go_at_call 28; refine KP.out.mono ?_; rintro e w4 ⟨X, cx, rfl, hO, hb4⟩; have HX4 := Lib.hid (Strs.of_own hO (List.length_reverse).symm); have HE4 := Lib.hid (HE.out.below hb4); have HB4 := Lib.hid (below_then HBx.out hb4); clear hb4 hO))
    go_loopw [7, 10] (fun u i wr => ∃ k : Nat, k ≤ lb.length ∧ i = .int .i64 k ∧ Hid (ErrAt wr n 1 ((lb.take k).reverse ++ la.reverse) u) ∧ Hid (Below w4.heap.size w4 wr)) (fun _ i _ => lb.length - (intOf i).toNat)
    case atStart => exact ⟨0, Nat.zero_le _, rfl, HE4, Lib.hid (Below.refl _ _)⟩
    case round =>
      obtain ⟨k, hk, rfl, HEb, HBr⟩ := hrel
      by_cases hlt : k < lb.length
      · obtain ⟨ad, rfl, a1⟩ := (HB.out.below (below_then HB4.out HBr.out)).at_ k hlt
        have HT := Lib.hid (List.take_succ_eq_append_getElem hlt)
        generalize lb[k] = s at a1 HT
        go_wp2_with (first | (go_at_call 25; refine (in_some s HEb.out).mono ?_; rintro e w5 ⟨v3, rfl, h3, hb3⟩; have HE3 := Lib.hid h3; have HB3 := Lib.hid (below_then HBr.out hb3); clear h3 hb3))
        go_roundw
        case rel => exact ⟨k + 1, by omega, by go_num, Lib.hid (by rw [HT.out, List.reverse_append]; exact HE3.out), HB3⟩
        case measure => simp [intOf]; omega
      · have hkt : k = lb.length := by omega
        subst hkt
        rw [List.take_length] at HEb
        have KQ := Lib.hid (path_any wr (HG.out.below (below_then HB4.out HBr.out)) HEb.out (by rw [List.length_append, List.length_reverse, List.length_reverse]; omega))
        have hlen : (lb.reverse ++ la.reverse).length = lb.length + la.length := by rw [List.length_append, List.length_reverse, List.length_reverse]
        rw [hlen] at KQ
        have hsum : ((lb.length + la.length : Nat) : Int) = (la.length : Int) + lb.length := by omega
        have HLN := Lib.hid hlen
        have HSM := Lib.hid hsum
        clear hlen hsum
        have hq1 : (((lb.length + la.length : Nat) : Int) != (la.length : Int) + lb.length) = false := by rw [HSM.out]; simp
        go_wp2_with (first
          | (go_at_call 28; refine KQ.out.mono ?_; rintro e w6 ⟨Y, cy, rfl, hO, hb6⟩; have HY6 := Lib.hid (Strs.of_own hO HLN.out.symm); have HX6 := Lib.hid (HX4.out.below (below_then HBr.out hb6)); have HB6 := Lib.hid (below_then HB4.out (below_then HBr.out hb6)); clear hb6 hO))
        clear hq1
        go_loopw [12] (fun i wr => ∃ k : Nat, k ≤ lb.length ∧ i = .int .i64 k ∧ Hid (Below w6.heap.size w6 wr)) (fun i _ => lb.length - (intOf i).toNat)
        case atStart => exact ⟨0, Nat.zero_le _, rfl, Lib.hid (Below.refl _ _)⟩
        case round =>
          obtain ⟨k, hk, rfl, HBs⟩ := hrel
          by_cases hlt3 : k < lb.length
          · obtain ⟨j, hj⟩ : ∃ j, lb.length - 1 - k = j := ⟨_, rfl⟩
            have hjl : j < lb.length := by omega
            obtain ⟨ay, rfl, y1⟩ := (HY6.out.below HBs.out).at_ k (by rw [HLN.out]; omega)
            obtain ⟨ab, rfl, b1⟩ := (HB.out.below (below_then HB6.out HBs.out)).at_ j hjl
            have he : (lb.reverse ++ la.reverse)[k]'(by rw [HLN.out]; omega) = lb[j] := by
              rw [List.getElem_append_left (by rw [List.length_reverse]; omega), List.getElem_reverse]
              congr 1
            rw [he] at y1
            generalize lb[j] = s at y1 b1
            have e1 : IntKind.i64.wrap ((lb.length : Int) - 1) = (lb.length : Int) - 1 := IntWalk.i64_in _ (by omega)
            have e2 : IntKind.i64.wrap ((lb.length : Int) - 1 - (k : Int)) = (j : Int) := by rw [IntWalk.i64_in _ (by omega)]; omega
            have e3 : (0 : Int) ≤ (j : Int) := by omega
            have e4 : (j : Int) < (lb.length : Int) := by omega
            have e5 : (k : Int) < ((lb.length + la.length : Nat) : Int) := by omega
            have e6 : (k : Int) < (lb.length : Int) + (la.length : Int) := by omega
            clear hj he
            go_wp2_with fail
            go_quiet (fail)
            go_wp2
            go_roundw
            case rel => exact ⟨k + 1, by omega, by go_num, Lib.hid (belN HBs.out _)⟩
            case measure => simp [intOf]; omega
          · have hkt : k = lb.length := by omega
            subst hkt
            have HB7 := Lib.hid (below_then HB6.out HBs.out)
            have HY7 := Lib.hid (HY6.out.below HBs.out)
            have HX7 := Lib.hid (HX6.out.below HBs.out)
            go_wp2_with fail
            obtain ⟨w7, hw7⟩ : ∃ w7, w7 = wr := ⟨_, rfl⟩
            subst hw7
            go_loopw [13] (fun i wr => ∃ k : Nat, k ≤ la.length ∧ i = .int .i64 k ∧ Hid (Below w7.heap.size w7 wr)) (fun i _ => la.length - (intOf i).toNat)
            case atStart => exact ⟨0, Nat.zero_le _, rfl, Lib.hid (Below.refl _ _)⟩
            case round =>
              obtain ⟨k, hk, rfl, HBt⟩ := hrel
              by_cases hlt4 : k < la.length
              · obtain ⟨j, hj⟩ : ∃ j, la.length - 1 - k = j := ⟨_, rfl⟩
                have hjl : j < la.length := by omega
                obtain ⟨ay, rfl, y1⟩ := (HY7.out.below HBt.out).at_ (lb.length + k) (by rw [HLN.out]; omega)
                obtain ⟨ax, rfl, x1⟩ := (HX7.out.below HBt.out).at_ k (by rw [List.length_reverse]; omega)
                obtain ⟨aa, rfl, b1⟩ := (HA.out.below (below_then HB7.out HBt.out)).at_ j hjl
                have he : (lb.reverse ++ la.reverse)[lb.length + k]'(by rw [HLN.out]; omega) = la[j] := by
                  rw [List.getElem_append_right (by rw [List.length_reverse]; omega), List.getElem_reverse]
                  congr 1
                  rw [List.length_reverse]
                  omega
                have he2 : la.reverse[k]'(by rw [List.length_reverse]; omega) = la[j] := by
                  rw [List.getElem_reverse]
                  congr 1
                rw [he] at y1
                rw [he2] at x1
                generalize la[j] = s at y1 x1 b1
                obtain ⟨q, hq⟩ : ∃ q, lb.length + k = q := ⟨_, rfl⟩
                rw [hq] at y1
                have e1 : IntKind.i64.wrap ((la.length : Int) - 1) = (la.length : Int) - 1 := IntWalk.i64_in _ (by omega)
                have e2 : IntKind.i64.wrap ((la.length : Int) - 1 - (k : Int)) = (j : Int) := by rw [IntWalk.i64_in _ (by omega)]; omega
                have e3 : (0 : Int) ≤ (j : Int) := by omega
                have e4 : (j : Int) < (la.length : Int) := by omega
                have e5 : (q : Int) < ((lb.length + la.length : Nat) : Int) := by omega
                have e6 : (q : Int) < (lb.length : Int) + (la.length : Int) := by omega
                have e7 : IntKind.i64.wrap ((lb.length : Int) + (k : Int)) = (q : Int) := by rw [IntWalk.i64_in _ (by omega)]; omega
                have e8 : (0 : Int) ≤ (q : Int) := by omega
                clear hj he he2 hq
                go_wp2_with fail
                go_quiet (fail)
                go_wp2
                go_roundw
                case rel => exact ⟨k + 1, by omega, by go_num, Lib.hid (belN HBt.out _)⟩
                case measure => simp [intOf]; omega
              · have hkt : k = la.length := by omega
                subst hkt
                go_wp2_with fail
                go_ret
                exact ⟨rfl, below_then HB7.out HBt.out⟩

set_option maxRecDepth 100000 in
theorem paths_walk (n : Int) (A : Option Addr) (la : List ByteArray) (ca : Nat) (B : Option Addr) (lb : List ByteArray) (cb : Nat) (w : World) (hg : Door w) (hA : Strs w A la) (hB : Strs w B lb) :
    Calls Tryd.prog 9 #[.int .i64 n, .slice A la.length ca, .slice B lb.length cb] w fun e w' => e = .returned (.bool true) ∧ Below w.heap.size w w' := by
  by_cases hc : n ≠ 0 ∧ la.length ≤ 20 ∧ lb.length ≤ 20
  · exact paths_good n A B la lb ca cb w hg hA hB hc.1 hc.2.1 hc.2.2
  · have HG := Lib.hid hg
    generalize la.length = x at hc ⊢
    generalize lb.length = y at hc ⊢
    clear hA hB hg
    rcases (by omega : n = 0 ∨ (n ≠ 0 ∧ 20 < x) ∨ (n ≠ 0 ∧ x ≤ 20 ∧ 20 < y)) with h1 | ⟨h1, h2⟩ | ⟨h1, h2, h3⟩
    · subst h1
      clear hc
      go_enter Tryd.func9, Tryd.ntmps9
      go_wp2_with (first | (go_at_call 22; refine (alive_any _ HG.out).mono ?_; rintro e w1 ⟨rfl, hb1⟩))
      go_ret
      exact ⟨rfl, hb1⟩
    · have p1 : (n == 0) = false := beq_eq_false_iff_ne.mpr h1
      have p2 : decide ((x : Int) > 20) = true := decide_eq_true (by omega)
      clear hc h1 h2
      go_enter Tryd.func9, Tryd.ntmps9
      go_wp2_with (first | (go_at_call 22; refine (alive_any _ HG.out).mono ?_; rintro e w1 ⟨rfl, hb1⟩))
      go_ret
      exact ⟨rfl, hb1⟩
    · have p1 : (n == 0) = false := beq_eq_false_iff_ne.mpr h1
      have p2 : decide ((x : Int) > 20) = false := decide_eq_false (by omega)
      have p3 : decide ((y : Int) > 20) = true := decide_eq_true (by omega)
      clear hc h1 h2 h3
      go_enter Tryd.func9, Tryd.ntmps9
      go_wp2_with (first | (go_at_call 22; refine (alive_any _ HG.out).mono ?_; rintro e w1 ⟨rfl, hb1⟩))
      go_ret
      exact ⟨rfl, hb1⟩
end Go.Proofs.YtbelbhdhcgpcpaaDoor.Trap
