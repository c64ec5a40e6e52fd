/- The statement on commits. -/
import Derived.Test.YteminkohgagedaaMoErrW
namespace Go.Proofs.Yteminkohgagedaa.Mo
open Go.RowKit Go.Proofs.Yteminkohgagedaa.Base Go.Proofs.Yteminkohgagedaa.Gr Go.Proofs.Yteminkohgagedaa.Ver
set_option linter.unusedVariables false
set_option linter.unusedSimpArgs false

def comL (a b : Int) : List Ins := [⟨7, 0, 0, 1⟩, numI 0 a, ⟨11, 0, 0, 0⟩, ⟨13, 0, 3, 0⟩, ⟨14, 0, 0, 0⟩, numI 0 b, ⟨11, 0, 0, 0⟩, ⟨19, 1, 0, 0⟩, ⟨13, 1, 2, 0⟩]
def comM (a b : Int) : List Ins := [⟨7, 0, 0, 1⟩, numI 0 a, ⟨11, 0, 0, 0⟩, ⟨13, 0, 3, 0⟩, ⟨14, 0, 0, 0⟩, numI 0 b, ⟨11, 0, 0, 0⟩, ⟨19, 1, 0, 0⟩, ⟨13, 1, 2, 0⟩, ⟨15, 0, 0, 0⟩, ⟨17, 1, 0, 0⟩, ⟨16, 1, 0, 0⟩, ⟨12, 0, 3, 0⟩, ⟨10, 1, 0, 0⟩, ⟨16, 1, 0, 0⟩, ⟨16, 0, 0, 0⟩]
theorem com_ok (a b : Int) : ∀ x ∈ comL a b, x.ok (comL a b).length = true := by
  intro x hx
  simp only [comL, List.mem_cons, List.not_mem_nil, or_false] at hx
  rcases hx with rfl | rfl | rfl | rfl | rfl | rfl | rfl | rfl | rfl
  · first | rfl | kernel_rfl
  · exact numI_ok _ _ _ (by omega)
  · first | rfl | kernel_rfl
  · first | rfl | kernel_rfl
  · first | rfl | kernel_rfl
  · exact numI_ok _ _ _ (by omega)
  · first | rfl | kernel_rfl
  · first | rfl | kernel_rfl
  · first | rfl | kernel_rfl
theorem comM_ok (a b : Int) : ∀ x ∈ comM a b, x.ok (comM a b).length = true := by
  intro x hx
  simp only [comM, List.mem_cons, List.not_mem_nil, or_false] at hx
  rcases hx with rfl | rfl | rfl | rfl | rfl | rfl | rfl | rfl | rfl | rfl | rfl | rfl | rfl | rfl | rfl | rfl
  · first | rfl | kernel_rfl
  · exact numI_ok _ _ _ (by omega)
  · first | rfl | kernel_rfl
  · first | rfl | kernel_rfl
  · first | rfl | kernel_rfl
  · exact numI_ok _ _ _ (by omega)
  · first | rfl | kernel_rfl
  · first | rfl | kernel_rfl
  · first | rfl | kernel_rfl
  · first | rfl | kernel_rfl
  · first | rfl | kernel_rfl
  · first | rfl | kernel_rfl
  · first | rfl | kernel_rfl
  · first | rfl | kernel_rfl
  · first | rfl | kernel_rfl
  · first | rfl | kernel_rfl
def comG (a : Int) : Gr := ⟨[0, 0, 0, 1, 0, 0, 0, 0], [⟨[], [word a]⟩]⟩
theorem com_e (a b : Int) : (exec (comL a b) 99 (start emptyG emptyG)).e = 0 := by kernel_rfl
theorem com_g (a b : Int) : number (exec (comL a b) 99 (start emptyG emptyG)).σ.last = comG a := by kernel_rfl
theorem com_o (a b : Int) : (exec (comL a b) 99 (start emptyG emptyG)).σ.outs = [] := by kernel_rfl
theorem comM_e (a b : Int) : (exec (comM a b) 99 (start emptyG emptyG)).e = 0 := by kernel_rfl
theorem comM_g (a b : Int) : number (exec (comM a b) 99 (start emptyG emptyG)).σ.last = comG a := by kernel_rfl
theorem comM_o (a b : Int) : (exec (comM a b) 99 (start emptyG emptyG)).σ.outs = [1, word a, word b] := by kernel_rfl
theorem com_runs (a b : Int) : ∃ at_ left, runM emptyG 99 (comL a b) = ⟨0, at_, left, [], comG a⟩ :=
  ⟨_, _, by rw [runM_of (com_ok a b) (by simp [comL]) (by simp [comL]) rfl, com_e, com_g, com_o]⟩
theorem comM_runs (a b : Int) : ∃ at_ left, runM emptyG 99 (comM a b) = ⟨0, at_, left, [1, word a, word b], comG a⟩ :=
  ⟨_, _, by rw [runM_of (comM_ok a b) (by simp [comM]) (by simp [comM]) rfl, comM_e, comM_g, comM_o]⟩

/-- What the checks read of the graph. -/
theorem com_reads {w : World} {v : Value} {x : Int} (h : GrV w v ⟨[0, 0, 0, 1, 0, 0, 0, 0], [⟨[], [x]⟩]⟩) : ∃ ra rc na nc wa wc, v = .agg #[.slice (some ra) 8 rc, .slice (some na) 1 nc] ∧ w.cell? ⟨ra.block, ra.off + 3, none⟩ = some (.int .i64 1) ∧ ra.block < w.heap.size ∧ w.cell? ⟨na.block, na.off + 1, none⟩ = some (.slice (some wa) 1 wc) ∧ na.block < w.heap.size ∧ w.cell? wa = some (.int .i64 x) ∧ wa.block < w.heap.size := by
  obtain ⟨A, c, B, d, rfl, g1, g2⟩ := h
  obtain ⟨ra, rfl, r3⟩ := g1.at_ 3 (by simp)
  obtain ⟨na, rfl, A1, c1, B1, d1, n1, n2, i1, i2⟩ := g2.2 0 (by simp)
  obtain ⟨wa, e1, w0⟩ := i2.at_ 0 (by simp)
  simp only [List.getElem_cons_zero, List.getElem_cons_succ] at e1 w0 r3 n2
  have e3 : ra.add 3 = ⟨ra.block, ra.off + 3, none⟩ := by simp [Addr.add]
  have e0 : na.add (0 * 2) = na := by simp [Addr.add]
  have ew : wa.add 0 = wa := by simp [Addr.add]
  rw [e3] at r3
  rw [e0] at n2
  rw [ew] at w0
  rw [e1] at n2
  exact ⟨ra, c, na, d, wa, d1, rfl, r3, cell_lt (a := ⟨ra.block, ra.off + 3, none⟩) r3, n2, cell_lt (a := ⟨na.block, na.off + 1, none⟩) n2, w0, cell_lt w0⟩
theorem lit_own {w : World} {n : Nat} {cs : Array Value} (hcs : cs.size = n * 4) (hn : n ≤ 1000) : (w.alloc (.cells cs 39)).ownsRow 0 39 4 (.slice (some ⟨w.heap.size, 0, none⟩) n n) n cs.toList :=
  ⟨by simpa using hcs, .inr ⟨w.heap.size, n, cs, rfl, Nat.zero_le _, Blk.new w _ _, Nat.le_refl _, by simp only [maxLen]; omega, hcs, by rw [List.take_of_length_le (by simp [hcs])]⟩⟩
theorem grown_low {w w3 W w4 : World} {n c : Nat} (hb : Below w.heap.size w W) (hg : W.grownBy w4 (Value.slice (some ⟨w3.heap.size, 0, none⟩) n c).ownBlock) (h3 : w.heap.size ≤ w3.heap.size) : Below w.heap.size w w4 :=
  mod_below hb (Mod.of_grown hg) hb.size (fun b hlt e => by
    injection e with e
    have e2 : b = w3.heap.size := e
    omega)
theorem third_blk (w : World) (o1 o2 : Obj) (cs : Array Value) (t : TypeId) : Blk (((w.alloc o1).alloc o2).alloc (.cells cs t)) (w.heap.size + 1 + 1) t cs := by
  have := Blk.new ((w.alloc o1).alloc o2) t cs
  simpa using this
theorem insInfo2 : (Try.prog.info? 39).map (fun i => (i.zero, i.size, i.bytes)) = some (some (.agg #[.int .i64 0, .int .i64 0, .int .i64 0, .int .i64 0]), 4, 32) := by kernel_rfl

set_option maxRecDepth 100000 in
set_option maxHeartbeats 8000000 in
theorem commits_good (a b : Int) (ab : Bool) (w : World) (hg : 0 ≤ a ∧ 0 ≤ b ∧ a ≤ 65535 ∧ b ≤ 65535) : Calls Try.prog 8 #[.int .i64 a, .int .i64 b, .bool ab] w fun e w' => e = .returned (.bool true) ∧ Below w.heap.size w w' := by
  obtain ⟨i0, hi0, hz0, hz1, hz2⟩ := info_parts1 insInfo2
  obtain ⟨h1, h2, h3, h4⟩ := hg
  have HWA := Lib.hid (word_of a h1 h3)
  have HWB := Lib.hid (word_of b h2 h4)
  cases ab
  · obtain ⟨at9, lf9, hr⟩ := com_runs a b
    have HRN := Lib.hid hr
    clear hr
    go_enter Try.func8, Try.ntmps8
    go_wp2_with fail
    refine (alive_any w).mono ?_
    rintro e w1 ⟨rfl, hb1⟩
    have HB1 := Lib.hid hb1
    clear hb1
    go_wp2_with fail
    refine (num_any 0 a w1).mono ?_
    rintro e w2 ⟨rfl, hb2⟩
    have HB2 := Lib.hid (below_then HB1.out hb2)
    clear hb2
    go_wp2_with fail
    refine (num_any 0 b w2).mono ?_
    rintro e w3 ⟨rfl, hb3⟩
    have HB3 := Lib.hid (below_then HB2.out hb3)
    clear hb3
    have HLL := Lib.hid (arr_blk (l := comL a b) (Blk.new w3 39 #[.int .i64 7, .int .i64 0, .int .i64 0, .int .i64 1, .int .i64 1, .int .i64 0, .int .i64 (a % 256), .int .i64 (a / 256 % 256), .int .i64 11, .int .i64 0, .int .i64 0, .int .i64 0, .int .i64 13, .int .i64 0, .int .i64 3, .int .i64 0, .int .i64 14, .int .i64 0, .int .i64 0, .int .i64 0, .int .i64 1, .int .i64 0, .int .i64 (b % 256), .int .i64 (b / 256 % 256), .int .i64 11, .int .i64 0, .int .i64 0, .int .i64 0, .int .i64 19, .int .i64 1, .int .i64 0, .int .i64 0, .int .i64 13, .int .i64 1, .int .i64 2, .int .i64 0]) rfl)
    have HOW := Lib.hid (lit_own (w := w3) (n := 9) (cs := #[.int .i64 7, .int .i64 0, .int .i64 0, .int .i64 1, .int .i64 1, .int .i64 0, .int .i64 (a % 256), .int .i64 (a / 256 % 256), .int .i64 11, .int .i64 0, .int .i64 0, .int .i64 0, .int .i64 13, .int .i64 0, .int .i64 3, .int .i64 0, .int .i64 14, .int .i64 0, .int .i64 0, .int .i64 0, .int .i64 1, .int .i64 0, .int .i64 (b % 256), .int .i64 (b / 256 % 256), .int .i64 11, .int .i64 0, .int .i64 0, .int .i64 0, .int .i64 19, .int .i64 1, .int .i64 0, .int .i64 0, .int .i64 13, .int .i64 1, .int .i64 2, .int .i64 0]) rfl (by omega))
    go_wp2_with fail
    refine (empty_any _).mono ?_
    rintro e w4 ⟨A4, c4, rfl, hI4, hb4⟩
    have HI4 := Lib.hid hI4
    have HL4 := Lib.hid (HLL.out.below hb4)
    have HB4 := Lib.hid (below_then HB3.out (below_then (below_1 w3 _) hb4))
    clear hI4 hb4
    go_wp2_with fail
    refine (run_any A4 none (some ⟨w3.heap.size, 0, none⟩) emptyG (comL a b) c4 0 9 99 (by omega) w4 HI4.out (nodes_none _) HL4.out).mono ?_
    rw [HRN.out, comG, show word a = a from HWA.out]
    rintro e w5 ⟨AO, cO, v, rfl, hO, hV, hb5⟩
    obtain ⟨ra, rc, na, nc, wa, wc, rfl, r3, r4, n2, n3, w0, w1'⟩ := com_reads hV
    have HO := Lib.hid hO
    have HB5 := Lib.hid (below_then HB4.out (below_then hb5 (below_then (below_1 w5 (.cells #[.int .i64 0, .int .i64 at9, .int .i64 lf9, .slice AO 0 cO] 32)) (below_1 _ (.cells #[.slice (some ra) 8 rc, .slice (some na) 1 nc] 25)))))
    have r5 : ra.block < w5.heap.size + 1 := by omega
    have n5 : na.block < w5.heap.size + 1 := by omega
    have w5' : wa.block < w5.heap.size + 1 := by omega
    clear hO hV hb5
    go_wp2_with fail
    go_ret
    exact ⟨rfl, HB5.out⟩
  · obtain ⟨at9, lf9, hr⟩ := comM_runs a b
    have HRN := Lib.hid hr
    clear hr
    go_enter Try.func8, Try.ntmps8
    go_wp2_with fail
    refine (alive_any w).mono ?_
    rintro e w1 ⟨rfl, hb1⟩
    have HB1 := Lib.hid hb1
    clear hb1
    go_wp2_with fail
    refine (num_any 0 a w1).mono ?_
    rintro e w2 ⟨rfl, hb2⟩
    have HB2 := Lib.hid (below_then HB1.out hb2)
    clear hb2
    go_wp2_with fail
    refine (num_any 0 b w2).mono ?_
    rintro e w3 ⟨rfl, hb3⟩
    have HB3 := Lib.hid (below_then HB2.out hb3)
    clear hb3
    have HLL := Lib.hid (arr_blk (l := comL a b) (Blk.new w3 39 #[.int .i64 7, .int .i64 0, .int .i64 0, .int .i64 1, .int .i64 1, .int .i64 0, .int .i64 (a % 256), .int .i64 (a / 256 % 256), .int .i64 11, .int .i64 0, .int .i64 0, .int .i64 0, .int .i64 13, .int .i64 0, .int .i64 3, .int .i64 0, .int .i64 14, .int .i64 0, .int .i64 0, .int .i64 0, .int .i64 1, .int .i64 0, .int .i64 (b % 256), .int .i64 (b / 256 % 256), .int .i64 11, .int .i64 0, .int .i64 0, .int .i64 0, .int .i64 19, .int .i64 1, .int .i64 0, .int .i64 0, .int .i64 13, .int .i64 1, .int .i64 2, .int .i64 0]) rfl)
    have HOW := Lib.hid (lit_own (w := w3) (n := 9) (cs := #[.int .i64 7, .int .i64 0, .int .i64 0, .int .i64 1, .int .i64 1, .int .i64 0, .int .i64 (a % 256), .int .i64 (a / 256 % 256), .int .i64 11, .int .i64 0, .int .i64 0, .int .i64 0, .int .i64 13, .int .i64 0, .int .i64 3, .int .i64 0, .int .i64 14, .int .i64 0, .int .i64 0, .int .i64 0, .int .i64 1, .int .i64 0, .int .i64 (b % 256), .int .i64 (b / 256 % 256), .int .i64 11, .int .i64 0, .int .i64 0, .int .i64 0, .int .i64 19, .int .i64 1, .int .i64 0, .int .i64 0, .int .i64 13, .int .i64 1, .int .i64 2, .int .i64 0]) rfl (by omega))
    go_wp2_with (first
      | (at_builtin
         refine wpList_append_any _ rfl (.tmp 42) (.tmp 50) _ rfl 0 39 i0 _ 4 32 Try.underlying26 hi0 hz0 hz1 hz2 rfl (by omega) (.slice (some ⟨w3.heap.size, 0, none⟩) 9 9) 9 _ rfl (own_below HOW.out (below_1 _ _)) (some ⟨w3.heap.size + 1, 0, none⟩) 7 7 _ rfl (reads_new_at (by simp) rfl) (by simp [Value.oneCell']) (fun e => by cases e) (by simp only [maxLen]; omega) (by omega) (by simp) ?_
         intro v4 w4 hown4 hg4 hat4
         obtain ⟨A9, c9, rfl, hc9⟩ := own_form hown4
         have HL4 := Lib.hid (show Arr w4 Ins.cells 4 A9 (comM a b) from Reads.of_own hown4)
         have HBG := Lib.hid (grown_low (below_then HB3.out (below_then (below_1 w3 _) (below_1 _ _))) hg4 HB3.out.size)
         clear hown4 hg4 hat4))
    refine (empty_any _).mono ?_
    rintro e w5 ⟨A5, c5, rfl, hI5, hb5⟩
    have HI5 := Lib.hid hI5
    have HL5 := Lib.hid (HL4.out.below hb5)
    have HB4 := Lib.hid (below_then HBG.out hb5)
    clear hI5 hb5
    go_wp2_with fail
    refine (run_any A5 none A9 emptyG (comM a b) c5 0 c9 99 (by omega) w5 HI5.out (nodes_none _) HL5.out).mono ?_
    rw [HRN.out, comG, show word a = a from HWA.out, show word b = b from HWB.out]
    rintro e w6 ⟨AO, cO, v, rfl, hO, hV, hb6⟩
    obtain ⟨ra, rc, na, nc, wa, wc, rfl, r3, r4, n2, n3, w0, w1'⟩ := com_reads hV
    have HO := Lib.hid hO
    have HB5 := Lib.hid (below_then HB4.out (below_then hb6 (below_then (below_1 w6 (.cells #[.int .i64 0, .int .i64 at9, .int .i64 lf9, .slice AO 3 cO] 32)) (below_1 _ (.cells #[.slice (some ra) 8 rc, .slice (some na) 1 nc] 25)))))
    have r5 : ra.block < w6.heap.size + 1 := by omega
    have n5 : na.block < w6.heap.size + 1 := by omega
    have w5x : wa.block < w6.heap.size + 1 := by omega
    clear hO hV hb6
    go_wp2_with fail
    refine (same_any AO (some ⟨w6.heap.size + 1 + 1, 0, none⟩) [1, a, b] [1, a, b] cO 3 _ (HO.out.below (below_then (below_1 _ _) (below_then (below_1 _ _) (below_1 _ _)))) (ints_lit (third_blk w6 _ _ #[.int .i64 1, .int .i64 a, .int .i64 b] _) rfl (by simp)) (by simp)).mono ?_
    rw [decide_eq_true (rfl : [1, a, b] = [1, a, b])]
    rintro e w7 ⟨rfl, hb7⟩
    have HB7 := Lib.hid (below_then HB5.out (below_then (below_1 _ _) hb7))
    clear hb7
    go_wp2_with fail
    go_ret
    exact ⟨rfl, HB7.out⟩

set_option maxRecDepth 100000 in
set_option maxHeartbeats 8000000 in
theorem commits_walk (a b : Int) (ab : Bool) (w : World) : Calls Try.prog 8 #[.int .i64 a, .int .i64 b, .bool ab] w fun e w' => e = .returned (.bool true) ∧ Below w.heap.size w w' := by
  by_cases hg : 0 ≤ a ∧ 0 ≤ b ∧ a ≤ 65535 ∧ b ≤ 65535
  · exact commits_good a b ab w hg
  rcases (by omega : a < 0 ∨ (0 ≤ a ∧ b < 0) ∨ (0 ≤ a ∧ 0 ≤ b ∧ 65535 < a) ∨ (0 ≤ a ∧ 0 ≤ b ∧ a ≤ 65535 ∧ 65535 < b)) with h1 | ⟨h1, h2⟩ | ⟨h1, h2, h3⟩ | ⟨h1, h2, h3, h4⟩
  all_goals
    clear hg
    go_enter Try.func8, Try.ntmps8
    go_wp2_with (first | (go_at_call 13; refine (alive_any _).mono ?_; rintro e w1 ⟨rfl, hb1⟩))
    go_ret
    exact ⟨rfl, hb1⟩

end Go.Proofs.Yteminkohgagedaa.Mo
