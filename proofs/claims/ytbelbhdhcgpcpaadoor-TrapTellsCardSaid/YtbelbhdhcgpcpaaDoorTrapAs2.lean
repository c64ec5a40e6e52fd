/- errors.As at trap's errors, whole. Printed by gen_trapas2.py, a program of this session. -/
import Derived.Test.YtbelbhdhcgpcpaaDoorTrapAs
namespace Go.Proofs.YtbelbhdhcgpcpaaDoor.Trap
open Go.RowKit Go.Proofs.YtbelbhdhcgpcpaaDoor.Base Go.Extern.Stop Go.Stop Go.Extern
set_option linter.unusedVariables false
set_option linter.unusedSimpArgs false

set_option maxRecDepth 100000 in
set_option maxHeartbeats 4000000 in
/-- errors.as looks for a Trap: it is found behind all wheres. -/
theorem as_trap {n at_ : Int} {l : List ByteArray} {v : Value} (a : Addr) (tb : Nat) (w : World) (h : ErrAt w n at_ l v) (ha : w.cell? a = some (.pointer (some ⟨tb, 0, none⟩))) (hbt : Blk w tb 60 #[.pointer none]) :
    Calls Tryd.prog 90 #[v, .iface 113 (.pointer (some ⟨tb, 0, none⟩)), .agg #[.pointer (some ⟨4, 113, none⟩), .pointer (some a), .int .u64 150], .iface 152 (.agg #[.pointer (some ⟨4, 60, none⟩)])] w fun ev w' =>
      ev = .returned (.bool true) ∧ (∃ b, Blk w' tb 60 #[.pointer (some ⟨b, 0, none⟩)] ∧ Blk w' b 81 #[.int .i64 n, .int .i64 at_]) ∧ Mod (fun k => k = tb) w w' := by
  have hE1 := @run_callFunc_extern Tryd.prog 91 _ ReflectliteType.typeOf Tryd.func91 (by kernel_rfl) (by kernel_rfl) (by kernel_rfl) (by kernel_rfl)
  have hE2 := @run_callFunc_extern Tryd.prog 148 _ (ReflectliteType.relation "AssignableTo" ReflectliteType.assignableTo) Tryd.func148 (by kernel_rfl) (by kernel_rfl) (by kernel_rfl) (by kernel_rfl)
  have hE3 := @run_callFunc_extern Tryd.prog 108 _ (ReflectliteValue.method (ReflectliteValue.valueError "reflectlite.Value.Elem" 0) ReflectliteValue.elem) Tryd.func108 (by kernel_rfl) (by kernel_rfl) (by kernel_rfl) (by kernel_rfl)
  have hE4 := @run_callFunc_extern Tryd.prog 87 _ (fun args => ReflectliteValue.unpack (args.getD 0 (.tuple #[]))) Tryd.func87 (by kernel_rfl) (by kernel_rfl) (by kernel_rfl) (by kernel_rfl)
  have hE5 := @run_callFunc_extern Tryd.prog 109 _ ReflectliteValue.set Tryd.func109 (by kernel_rfl) (by kernel_rfl) (by kernel_rfl) (by kernel_rfl)
  have hA := methodAssignableTo
  have hT := typeOf_Trap
  have hTs := typeOf_seen
  have hS := assignable_Trap
  have hSs := unassignable_seen
  have hV := valueOf_Trap
  have hM := methodUnwrap
  have hN := noAs_seen
  have hU := un_seen
  have ht : w.cell? ⟨tb, 0, none⟩ = some (.pointer none) := hbt.cell 0
  have hf := hbt.frozen 0
  have zt := hbt.lt
  have HBT := Lib.hid hbt
  clear hbt
  have za := cell_lt ha
  have HH := Lib.hid h
  clear h
  obtain ⟨W, hWW⟩ : ∃ W, w.alloc (.cells #[.pointer (some ⟨4, 113, none⟩), .pointer (some a), .int .u64 150] 117) = W := ⟨_, rfl⟩
  have HB := Lib.hid (show Below w.heap.size w W by rw [← hWW]; exact bel1 w _)
  have hbx : Blk W w.heap.size 117 #[.pointer (some ⟨4, 113, none⟩), .pointer (some a), .int .u64 150] := by rw [← hWW]; exact Blk.new _ _ _
  have q0 := hbx.cell 0
  have q1 := hbx.cell 1
  have q2 := hbx.cell 2
  simp only [List.getElem?_toArray, List.getElem?_cons_zero, List.getElem?_cons_succ] at q0 q1 q2
  clear hbx
  have hsz : W.heap.size = w.heap.size + 1 := by rw [← hWW]; simp
  have HZ := Lib.hid hsz
  have hL := elemV_TrapP a ⟨tb, 0, none⟩ W ((HB.out.cell za).trans ha)
  have hW := fun e => set_Trap ⟨tb, 0, none⟩ ⟨W.heap.size, 0, none⟩ e (.pointer none) (W.alloc (.cells #[.pointer (some e)] 60))
    (by rw [World.cell?_alloc_at _ _ _ _ rfl]; rfl) (((below_then HB.out (bel1 _ _)).cell zt).trans ht) (((below_then HB.out (bel1 _ _)).frozen zt).trans hf)
  go_enter Tryd.func90, Tryd.ntmps90
  go_wp2
  have HWW := Lib.hid hWW
  clear hWW hsz
  go_loopg [0] l.length (fun gl u wr => Hid (wr = W) ∧ Hid (∃ l', l'.length = gl ∧ ErrAt W n at_ l' u))
  case atStart => exact ⟨rfl, l, rfl, HH.out.below HB.out⟩
  case round =>
    obtain ⟨HR, HL⟩ := hrel
    obtain rfl := HR.out
    obtain ⟨l', hl, he⟩ := HL.out
    cases l' with
    | nil =>
      obtain ⟨b, rfl, hb⟩ := he
      have HBk := Lib.hid hb
      have hw1 := hW ⟨b, 0, none⟩
      clear hW hb HL hl
      go_wp2
      go_ret
      have hbb : Below w.heap.size w (wr.alloc (.cells #[.pointer (some ⟨b, 0, none⟩)] 60)) := below_then HB.out (bel1 _ _)
      have hne : b ≠ tb := Base.Blk.ne_ HBk.out (HBT.out.below HB.out zt) (by decide)
      refine ⟨rfl, ⟨b, ?_, ?_⟩, modSet (S := fun k => k = tb) (p := ⟨tb, 0, none⟩) (Mod.of_below hbb) (.inr rfl) _⟩
      · exact ((HBT.out.below hbb zt).set_ 0 _)
      · exact ((HBk.out.alloc _).far (p := ⟨tb, 0, none⟩) hne _)
    | cons s l'' =>
      obtain ⟨b, u, rfl, hb, hr⟩ := he
      have HBk := Lib.hid hb
      obtain ⟨tu, bu, rfl⟩ := hr.iface
      have HRr := Lib.hid hr
      clear hb hr hW
      go_wp2_with (first | (go_at_call 143; refine (unwrap_any _ _ _ _ HBk.out).mono ?_; rintro e w9 ⟨rfl, rfl⟩))
      go_roundg l''.length
      case measure => simp at hl; omega
      case rel => exact ⟨Lib.hid rfl, Lib.hid ⟨l'', rfl, HRr.out⟩⟩

set_option maxRecDepth 100000 in
set_option maxHeartbeats 4000000 in
/-- errors.As looks for a Trap. -/
theorem As_trap {n at_ : Int} {l : List ByteArray} {v : Value} (tb : Nat) (w : World) (hg : w.cell? ⟨0, 0, none⟩ = some (.iface 152 (.agg #[.pointer (some ⟨4, 41, none⟩)]))) (h : ErrAt w n at_ l v) (hbt : Blk w tb 60 #[.pointer none]) :
    Calls Tryd.prog 48 #[v, .iface 113 (.pointer (some ⟨tb, 0, none⟩))] w fun ev w' =>
      ev = .returned (.bool true) ∧ (∃ b, Blk w' tb 60 #[.pointer (some ⟨b, 0, none⟩)] ∧ Blk w' b 81 #[.int .i64 n, .int .i64 at_]) ∧ Mod (fun k => k = tb) w w' := by
  have hE1 := @run_callFunc_extern Tryd.prog 91 _ ReflectliteType.typeOf Tryd.func91 (by kernel_rfl) (by kernel_rfl) (by kernel_rfl) (by kernel_rfl)
  have hE2 := @run_callFunc_extern Tryd.prog 148 _ (ReflectliteType.relation "AssignableTo" ReflectliteType.assignableTo) Tryd.func148 (by kernel_rfl) (by kernel_rfl) (by kernel_rfl) (by kernel_rfl)
  have hE3 := @run_callFunc_extern Tryd.prog 108 _ (ReflectliteValue.method (ReflectliteValue.valueError "reflectlite.Value.Elem" 0) ReflectliteValue.elem) Tryd.func108 (by kernel_rfl) (by kernel_rfl) (by kernel_rfl) (by kernel_rfl)
  have hE4 := @run_callFunc_extern Tryd.prog 87 _ (fun args => ReflectliteValue.unpack (args.getD 0 (.tuple #[]))) Tryd.func87 (by kernel_rfl) (by kernel_rfl) (by kernel_rfl) (by kernel_rfl)
  have hE5 := @run_callFunc_extern Tryd.prog 109 _ ReflectliteValue.set Tryd.func109 (by kernel_rfl) (by kernel_rfl) (by kernel_rfl) (by kernel_rfl)
  have hE6 := @run_callFunc_extern Tryd.prog 88 _ (ReflectliteValue.methodAny (ReflectliteValue.valueError "reflectlite.Value.Type" 0) (fun t _ _ _ => ReflectliteType.toType t)) Tryd.func88 (by kernel_rfl) (by kernel_rfl) (by kernel_rfl) (by kernel_rfl)
  have hE7 := @run_callFunc_extern Tryd.prog 89 _ (ReflectliteValue.method (ReflectliteValue.valueError "reflectlite.Value.IsNil" 0) ReflectliteValue.isNil) Tryd.func89 (by kernel_rfl) (by kernel_rfl) (by kernel_rfl) (by kernel_rfl)
  have hE8 := @run_callFunc_extern Tryd.prog 137 _ (ReflectliteType.abiMethod fun t => do pure (.int .u8 (← Rtype.kind t))) Tryd.func137 (by kernel_rfl) (by kernel_rfl) (by kernel_rfl) (by kernel_rfl)
  have hE9 := @run_callFunc_extern Tryd.prog 150 _ (ReflectliteType.method ReflectliteType.elem) Tryd.func150 (by kernel_rfl) (by kernel_rfl) (by kernel_rfl) (by kernel_rfl)
  have hE10 := @run_callFunc_extern Tryd.prog 151 _ (ReflectliteType.relation "Implements" ReflectliteType.implements_) Tryd.func151 (by kernel_rfl) (by kernel_rfl) (by kernel_rfl) (by kernel_rfl)
  have hm1 := methodKind
  have hm2 := methodElem
  have hm3 := methodImplements
  have f1 := valueOf_TrapP
  have f2 := type_TrapP
  have f3 := kind_TrapP
  have f4 := kind_Trap
  have f5 := elem_TrapP
  have f6 := implements_Trap
  obtain ⟨tv, bv, rfl⟩ := h.iface
  have zg := cell_lt hg
  have hn := isNil_TrapP ⟨w.heap.size, 0, none⟩ ⟨tb, 0, none⟩ ((w.alloc (.cells #[.pointer (some ⟨tb, 0, none⟩)] 113)).alloc (.cells #[.pointer (some ⟨4, 113, none⟩), .pointer (some ⟨w.heap.size, 0, none⟩), .int .u64 150] 117)) (by simp)
  have HB := Lib.hid (below_then (bel1 w (.cells #[.pointer (some ⟨tb, 0, none⟩)] 113)) (bel1 _ (.cells #[.pointer (some ⟨4, 113, none⟩), .pointer (some ⟨w.heap.size, 0, none⟩), .int .u64 150] 117)))
  have hg2 := (HB.out.cell zg).trans hg
  have KA := as_trap ⟨w.heap.size, 0, none⟩ tb _ (h.below HB.out) (by simp) (hbt.below HB.out hbt.lt)
  have HK := Lib.hid KA
  clear KA h hbt
  go_enter Tryd.func48, Tryd.ntmps48
  go_wp2_with (first | (go_at_call 90; refine HK.out.mono ?_; rintro e w9 ⟨rfl, hb9, hm9⟩; have HB9 := Lib.hid hb9; have HM9 := Lib.hid hm9; clear hb9 hm9))
  go_ret
  exact ⟨rfl, HB9.out, Mod.trans (Mod.of_below HB.out) HM9.out (fun _ _ e => e)⟩
end Go.Proofs.YtbelbhdhcgpcpaaDoor.Trap
