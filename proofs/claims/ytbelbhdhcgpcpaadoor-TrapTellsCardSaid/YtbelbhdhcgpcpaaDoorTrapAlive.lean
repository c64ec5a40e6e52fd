/- The trap statements' first call. -/
import Derived.Test.YtbelbhdhcgpcpaaDoorTrapPath
import Derived.Handy
namespace Go.Proofs.YtbelbhdhcgpcpaaDoor.Trap
open Go.RowKit Go.Proofs.YtbelbhdhcgpcpaaDoor.Base
set_option linter.unusedVariables false
set_option linter.unusedSimpArgs false

theorem small_4 (w : World) : Calls Tryd.prog 51 #[.int .i64 4] w fun e w' => e = .returned (.string ⟨#[52]⟩) ∧ w' = w := by
  go_enter Tryd.func51, Tryd.ntmps51
  go_wp2_with (go_in)
  go_ret
  exact ⟨rfl, rfl⟩
theorem small_7 (w : World) : Calls Tryd.prog 51 #[.int .i64 7] w fun e w' => e = .returned (.string ⟨#[55]⟩) ∧ w' = w := by
  go_enter Tryd.func51, Tryd.ntmps51
  go_wp2_with (go_in)
  go_ret
  exact ⟨rfl, rfl⟩
set_option maxRecDepth 100000 in
theorem error_trap (b : Nat) (w : World) (h : Blk w b 81 #[.int .i64 7, .int .i64 4]) :
    Calls Tryd.prog 32 #[.pointer (some ⟨b, 0, none⟩)] w fun e w' => e = .returned (.string ⟨#[101, 114, 114, 111, 114, 32, 55, 32, 97, 116, 32, 52]⟩) ∧ ∃ n, w' = w.drewN n := by
  have c0 := h.cell 0
  have c1 := h.cell 1
  have c2 := h.lt
  simp only [List.getElem?_toArray, List.getElem?_cons_zero, List.getElem?_cons_succ] at c0 c1
  go_enter Tryd.func32, Tryd.ntmps32
  go_wp2_with fail
  go_quiet (first | (go_at_call 51; with_reducible exact Calls.quiet_of_same (small_4 _)) | (go_at_call 51; with_reducible exact Calls.quiet_of_same (small_7 _)))
  go_wp2_with fail
  go_ret
  exact ⟨rfl, ⟨_, rfl⟩⟩

theorem methodErrT (b : Addr) (w : World) : (Go.method 311 60 (.pointer (some b)) "Error").run Tryd.prog w = .ok (32, .pointer (some b)) w := by kernel_rfl
theorem methodErrS (b : Addr) (w : World) : (Go.method 311 83 (.pointer (some b)) "Error").run Tryd.prog w = .ok (142, .pointer (some b)) w := by kernel_rfl
def loadB : ByteArray := ⟨#[108, 111, 97, 100]⟩
set_option maxRecDepth 100000 in
theorem error_seen (b c : Nat) (w : World) (h : Blk w b 85 #[.string loadB, .iface 60 (.pointer (some ⟨c, 0, none⟩))]) (hc : Blk w c 81 #[.int .i64 7, .int .i64 4]) :
    Calls Tryd.prog 142 #[.pointer (some ⟨b, 0, none⟩)] w fun e w' => e = .returned (.string ⟨#[108, 111, 97, 100, 58, 32, 101, 114, 114, 111, 114, 32, 55, 32, 97, 116, 32, 52]⟩) ∧ ∃ n, w' = w.drewN n := by
  have c0 := h.cell 0
  have c1 := h.cell 1
  have c2 := h.lt
  have hm := methodErrT
  simp only [List.getElem?_toArray, List.getElem?_cons_zero, List.getElem?_cons_succ] at c0 c1
  have K : ∀ n, Calls Tryd.prog 32 #[.pointer (some ⟨c, 0, none⟩)] (w.drewN n) fun e w' => e = .returned (.string ⟨#[101, 114, 114, 111, 114, 32, 55, 32, 97, 116, 32, 52]⟩) ∧ ∃ m, w' = (w.drewN n).drewN m := fun n => error_trap c _ (hc.drewN n)
  unfold loadB at c0
  go_enter Tryd.func142, Tryd.ntmps142
  go_wp2_with fail
  go_quiet ((go_at_call 32; with_reducible exact Calls.quiet_of (K _)))
  go_wp2_with fail
  go_ret
  exact ⟨rfl, ⟨_, rfl⟩⟩

theorem is_nil (w : World) : Calls Tryd.prog 29 #[.nilIface, .int .i64 0] w fun e w' => e = .returned (.bool true) ∧ w' = w := by
  go_enter Tryd.func29, Tryd.ntmps29
  go_wp2
  go_ret
  exact ⟨rfl, rfl⟩
theorem is_ok {n at_ : Int} {l : List ByteArray} {v : Value} (w : World) (h : ErrAt w n at_ l v) : Calls Tryd.prog 29 #[v, .int .i64 0] w fun e w' => e = .returned (.bool false) ∧ w' = w := by
  obtain ⟨t, b, rfl⟩ := h.iface
  clear h
  go_enter Tryd.func29, Tryd.ntmps29
  go_wp2
  go_ret
  exact ⟨rfl, rfl⟩

set_option maxRecDepth 100000 in
theorem alive_any (w : World) (hg : Door w) : Calls Tryd.prog 22 #[] w fun e w' => e = .returned (.bool true) ∧ Below w.heap.size w w' := by
  have hm := methodErrS
  have HG := Lib.hid hg
  clear hg
  go_enter Tryd.func22, Tryd.ntmps22
  go_wp2_with fail
  refine (new_some 7 4 (by decide) w).mono ?_
  rintro e w1 ⟨v1, rfl, h1, hb1⟩
  go_wp2_with fail
  refine (in_some loadB h1).mono ?_
  rintro e w2 ⟨v2, rfl, h2, hb2⟩
  have HB2 := Lib.hid (below_then hb1 hb2)
  have HE := Lib.hid h2
  obtain ⟨b, u, rfl, hS, c, rfl, hT⟩ := h2
  have HS := Lib.hid hS
  have HT := Lib.hid hT
  clear h1 hb1 hb2 hS hT
  go_wp2_with (first
    | (go_at_call 142; refine (error_seen b c _ HS.out HT.out).mono ?_; rintro e w3 ⟨rfl, n3, rfl⟩)
    | (go_at_call 26; refine (errno_some (l := [loadB]) _ (((HG.out.below HB2.out).below (belN (Below.refl _ _) _))) (HE.out.below (belN (Below.refl _ _) _))).mono ?_; rintro e w4 ⟨rfl, hb4⟩; have HB4 := Lib.hid (below_then HB2.out (below_then (belN (Below.refl _ w2) n3) hb4)); have HE4 := Lib.hid (HE.out.below (below_then (belN (Below.refl _ w2) n3) hb4)); clear hb4)
    | (go_at_call 27; refine (at_some (l := [loadB]) _ (HG.out.below HB4.out) HE4.out).mono ?_; rintro e w5 ⟨rfl, hb5⟩; have HB5 := Lib.hid (below_then HB4.out hb5); clear hb5)
    | (go_at_call 29; refine (is_nil _).mono ?_; rintro e w6 ⟨rfl, rfl⟩))
  go_ret
  exact ⟨rfl, HB5.out⟩
end Go.Proofs.YtbelbhdhcgpcpaaDoor.Trap
