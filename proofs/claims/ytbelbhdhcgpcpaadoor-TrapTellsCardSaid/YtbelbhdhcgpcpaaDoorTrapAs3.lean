/- What errors.As finds of where; a trap's number, place and path. Printed by gen_trapas3.py, a program of this session. -/
import Derived.Test.YtbelbhdhcgpcpaaDoorTrapAs2
namespace Go.Proofs.YtbelbhdhcgpcpaaDoor.Trap
open Go.RowKit Go.Proofs.YtbelbhdhcgpcpaaDoor.Base Go.Extern.Stop Go.Stop Go.Extern
set_option linter.unusedVariables false
set_option linter.unusedSimpArgs false

/-- What errors.As reads of its own variable. -/
def Door (w : World) : Prop := w.cell? ⟨0, 0, none⟩ = some (.iface 152 (.agg #[.pointer (some ⟨4, 41, none⟩)]))
theorem Door.below {w w' : World} (h : Door w) (hb : Below w.heap.size w w') : Door w' := (hb.cell (cell_lt h)).trans h

theorem As_nil (t : Value) (w : World) : Calls Tryd.prog 48 #[.nilIface, t] w fun e w' => e = .returned (.bool false) ∧ w' = w := by
  go_enter Tryd.func48, Tryd.ntmps48
  go_wp2
  go_ret
  exact ⟨rfl, rfl⟩

set_option maxRecDepth 100000 in
set_option maxHeartbeats 4000000 in
/-- errors.as looks for a where in a Trap. -/
theorem as_miss (e a : Addr) (tv : Value) (w : World) :
    Calls Tryd.prog 90 #[.iface 60 (.pointer (some e)), tv, .agg #[.pointer (some ⟨4, 88, none⟩), .pointer (some a), .int .u64 150], .iface 152 (.agg #[.pointer (some ⟨4, 83, none⟩)])] w fun ev w' =>
      ev = .returned (.bool false) ∧ w' = w.alloc (.cells #[.pointer (some ⟨4, 88, none⟩), .pointer (some a), .int .u64 150] 117) := by
  have hE1 := @run_callFunc_extern Tryd.prog 91 _ ReflectliteType.typeOf Tryd.func91 (by kernel_rfl) (by kernel_rfl) (by kernel_rfl) (by kernel_rfl)
  have hE2 := @run_callFunc_extern Tryd.prog 148 _ (ReflectliteType.relation "AssignableTo" ReflectliteType.assignableTo) Tryd.func148 (by kernel_rfl) (by kernel_rfl) (by kernel_rfl) (by kernel_rfl)
  have hE3 := @run_callFunc_extern Tryd.prog 108 _ (ReflectliteValue.method (ReflectliteValue.valueError "reflectlite.Value.Elem" 0) ReflectliteValue.elem) Tryd.func108 (by kernel_rfl) (by kernel_rfl) (by kernel_rfl) (by kernel_rfl)
  have hE4 := @run_callFunc_extern Tryd.prog 87 _ (fun args => ReflectliteValue.unpack (args.getD 0 (.tuple #[]))) Tryd.func87 (by kernel_rfl) (by kernel_rfl) (by kernel_rfl) (by kernel_rfl)
  have hE5 := @run_callFunc_extern Tryd.prog 109 _ ReflectliteValue.set Tryd.func109 (by kernel_rfl) (by kernel_rfl) (by kernel_rfl) (by kernel_rfl)
  have hA := methodAssignableTo
  have hT := typeOf_Trap
  have hS := unassignable_Trap
  have hN := noAs_Trap
  have hU := noUn_Trap
  have hU2 := noUns_Trap
  go_enter Tryd.func90, Tryd.ntmps90
  go_wp2
  refine wp_loop_rounds 1 ?_
  rw [rounds_succ]
  go_wp2
  go_ret
  exact ⟨rfl, rfl⟩

set_option maxRecDepth 100000 in
set_option maxHeartbeats 4000000 in
theorem As_seen (tb : Nat) (old : Value) (w : World) (hg : Door w) {n at_ : Int} {s : ByteArray} {l : List ByteArray} {v : Value} (h : ErrAt w n at_ (s :: l) v) (hbt : Blk w tb 83 #[old]) :
    Calls Tryd.prog 48 #[v, .iface 88 (.pointer (some ⟨tb, 0, none⟩))] w fun ev w' =>
      ev = .returned (.bool true) ∧ (∃ b u, Blk w' tb 83 #[.pointer (some ⟨b, 0, none⟩)] ∧ Blk w' b 85 #[.string s, u] ∧ ErrAt w' n at_ l u) ∧ Mod (fun k => k = tb) w w' := by
  have hE1 := @run_callFunc_extern Tryd.prog 91 _ ReflectliteType.typeOf Tryd.func91 (by kernel_rfl) (by kernel_rfl) (by kernel_rfl) (by kernel_rfl)
  have hE2 := @run_callFunc_extern Tryd.prog 148 _ (ReflectliteType.relation "AssignableTo" ReflectliteType.assignableTo) Tryd.func148 (by kernel_rfl) (by kernel_rfl) (by kernel_rfl) (by kernel_rfl)
  have hE3 := @run_callFunc_extern Tryd.prog 108 _ (ReflectliteValue.method (ReflectliteValue.valueError "reflectlite.Value.Elem" 0) ReflectliteValue.elem) Tryd.func108 (by kernel_rfl) (by kernel_rfl) (by kernel_rfl) (by kernel_rfl)
  have hE4 := @run_callFunc_extern Tryd.prog 87 _ (fun args => ReflectliteValue.unpack (args.getD 0 (.tuple #[]))) Tryd.func87 (by kernel_rfl) (by kernel_rfl) (by kernel_rfl) (by kernel_rfl)
  have hE5 := @run_callFunc_extern Tryd.prog 109 _ ReflectliteValue.set Tryd.func109 (by kernel_rfl) (by kernel_rfl) (by kernel_rfl) (by kernel_rfl)
  have hE6 := @run_callFunc_extern Tryd.prog 88 _ (ReflectliteValue.methodAny (ReflectliteValue.valueError "reflectlite.Value.Type" 0) (fun t _ _ _ => ReflectliteType.toType t)) Tryd.func88 (by kernel_rfl) (by kernel_rfl) (by kernel_rfl) (by kernel_rfl)
  have hE7 := @run_callFunc_extern Tryd.prog 89 _ (ReflectliteValue.method (ReflectliteValue.valueError "reflectlite.Value.IsNil" 0) ReflectliteValue.isNil) Tryd.func89 (by kernel_rfl) (by kernel_rfl) (by kernel_rfl) (by kernel_rfl)
  have hE8 := @run_callFunc_extern Tryd.prog 137 _ (ReflectliteType.abiMethod fun t => do pure (.int .u8 (← Rtype.kind t))) Tryd.func137 (by kernel_rfl) (by kernel_rfl) (by kernel_rfl) (by kernel_rfl)
  have hE9 := @run_callFunc_extern Tryd.prog 150 _ (ReflectliteType.method ReflectliteType.elem) Tryd.func150 (by kernel_rfl) (by kernel_rfl) (by kernel_rfl) (by kernel_rfl)
  have hE10 := @run_callFunc_extern Tryd.prog 151 _ (ReflectliteType.relation "Implements" ReflectliteType.implements_) Tryd.func151 (by kernel_rfl) (by kernel_rfl) (by kernel_rfl) (by kernel_rfl)
  have hm1 := methodKind
  have hm2 := methodElem
  have hm3 := methodImplements
  have f1 := valueOf_seenP
  have f2 := type_seenP
  have f3 := kind_seenP
  have f4 := kind_seen
  have f5 := elem_seenP
  have f6 := implements_seen
  obtain ⟨b, u, rfl, hb, hr⟩ := h
  have zg := cell_lt hg
  have hn := isNil_seenP ⟨w.heap.size, 0, none⟩ ⟨tb, 0, none⟩ ((w.alloc (.cells #[.pointer (some ⟨tb, 0, none⟩)] 88)).alloc (.cells #[.pointer (some ⟨4, 88, none⟩), .pointer (some ⟨w.heap.size, 0, none⟩), .int .u64 150] 117)) (by simp)
  have HB := Lib.hid (below_then (bel1 w (.cells #[.pointer (some ⟨tb, 0, none⟩)] 88)) (bel1 _ (.cells #[.pointer (some ⟨4, 88, none⟩), .pointer (some ⟨w.heap.size, 0, none⟩), .int .u64 150] 117)))
  have hg2 := (HB.out.cell zg).trans hg
  have HBT := Lib.hid (hbt.below HB.out hbt.lt)
  have KA := as_hit_seen ⟨b, 0, none⟩ ⟨w.heap.size, 0, none⟩ ⟨tb, 0, none⟩ old ((w.alloc (.cells #[.pointer (some ⟨tb, 0, none⟩)] 88)).alloc (.cells #[.pointer (some ⟨4, 88, none⟩), .pointer (some ⟨w.heap.size, 0, none⟩), .int .u64 150] 117)) (by simp) (HBT.out.cell 0) (HBT.out.frozen 0)
  have HK := Lib.hid KA
  have HBk := Lib.hid (hb.below HB.out hb.lt)
  have HRr := Lib.hid (hr.below HB.out)
  have HNE := Lib.hid (Base.Blk.ne_ hb hbt (by decide))
  clear KA hb hr
  clear hbt
  go_enter Tryd.func48, Tryd.ntmps48
  go_wp2_with (first | (go_at_call 90; refine HK.out.mono ?_; rintro e w9 ⟨rfl, hb9⟩; have HB9 := Lib.hid hb9; clear hb9))
  go_ret
  have e9 := HB9.out
  subst e9
  have hbb := below_then HB.out (below_then (bel1 _ (.cells #[.pointer (some ⟨4, 88, none⟩), .pointer (some ⟨w.heap.size, 0, none⟩), .int .u64 150] 117)) (bel1 _ (.cells #[.pointer (some ⟨b, 0, none⟩)] 83)))
  have hm : Base.Mod (fun k => k = tb) _ _ := modSet (S := fun k => k = tb) (p := ⟨tb, 0, none⟩) (Mod.refl _ (((((w.alloc (.cells #[.pointer (some ⟨tb, 0, none⟩)] 88)).alloc (.cells #[.pointer (some ⟨4, 88, none⟩), .pointer (some ⟨w.heap.size, 0, none⟩), .int .u64 150] 117))).alloc (.cells #[.pointer (some ⟨4, 88, none⟩), .pointer (some ⟨w.heap.size, 0, none⟩), .int .u64 150] 117)).alloc (.cells #[.pointer (some ⟨b, 0, none⟩)] 83))) (.inr rfl) (.pointer (some ⟨b, 0, none⟩))
  refine ⟨rfl, ⟨b, u, (((HBT.out.alloc _).alloc _).set_ 0 _), ((HBk.out.alloc _).alloc _).far (p := ⟨tb, 0, none⟩) HNE.out _, ?_⟩, modSet (S := fun k => k = tb) (p := ⟨tb, 0, none⟩) (Mod.of_below hbb) (.inr rfl) _⟩
  exact ((HRr.out.below (bel1 _ _)).below (bel1 _ _)).mod hm (fun k t cs hB ht e => by
    subst e
    have h1 := ((HBT.out.alloc (.cells #[.pointer (some ⟨4, 88, none⟩), .pointer (some ⟨w.heap.size, 0, none⟩), .int .u64 150] 117)).alloc (.cells #[.pointer (some ⟨b, 0, none⟩)] 83))
    rcases ht with rfl | rfl
    · exact Base.Blk.ne_ hB h1 (by decide) rfl
    · exact Base.Blk.ne_ hB h1 (by decide) rfl)

set_option maxRecDepth 100000 in
set_option maxHeartbeats 4000000 in
theorem As_miss (tb : Nat) (old : Value) (w : World) (hg : Door w) {n at_ : Int} {v : Value} (h : ErrAt w n at_ [] v) (hbt : Blk w tb 83 #[old]) :
    Calls Tryd.prog 48 #[v, .iface 88 (.pointer (some ⟨tb, 0, none⟩))] w fun ev w' =>
      ev = .returned (.bool false) ∧ Below w.heap.size w w' := by
  have hE1 := @run_callFunc_extern Tryd.prog 91 _ ReflectliteType.typeOf Tryd.func91 (by kernel_rfl) (by kernel_rfl) (by kernel_rfl) (by kernel_rfl)
  have hE2 := @run_callFunc_extern Tryd.prog 148 _ (ReflectliteType.relation "AssignableTo" ReflectliteType.assignableTo) Tryd.func148 (by kernel_rfl) (by kernel_rfl) (by kernel_rfl) (by kernel_rfl)
  have hE3 := @run_callFunc_extern Tryd.prog 108 _ (ReflectliteValue.method (ReflectliteValue.valueError "reflectlite.Value.Elem" 0) ReflectliteValue.elem) Tryd.func108 (by kernel_rfl) (by kernel_rfl) (by kernel_rfl) (by kernel_rfl)
  have hE4 := @run_callFunc_extern Tryd.prog 87 _ (fun args => ReflectliteValue.unpack (args.getD 0 (.tuple #[]))) Tryd.func87 (by kernel_rfl) (by kernel_rfl) (by kernel_rfl) (by kernel_rfl)
  have hE5 := @run_callFunc_extern Tryd.prog 109 _ ReflectliteValue.set Tryd.func109 (by kernel_rfl) (by kernel_rfl) (by kernel_rfl) (by kernel_rfl)
  have hE6 := @run_callFunc_extern Tryd.prog 88 _ (ReflectliteValue.methodAny (ReflectliteValue.valueError "reflectlite.Value.Type" 0) (fun t _ _ _ => ReflectliteType.toType t)) Tryd.func88 (by kernel_rfl) (by kernel_rfl) (by kernel_rfl) (by kernel_rfl)
  have hE7 := @run_callFunc_extern Tryd.prog 89 _ (ReflectliteValue.method (ReflectliteValue.valueError "reflectlite.Value.IsNil" 0) ReflectliteValue.isNil) Tryd.func89 (by kernel_rfl) (by kernel_rfl) (by kernel_rfl) (by kernel_rfl)
  have hE8 := @run_callFunc_extern Tryd.prog 137 _ (ReflectliteType.abiMethod fun t => do pure (.int .u8 (← Rtype.kind t))) Tryd.func137 (by kernel_rfl) (by kernel_rfl) (by kernel_rfl) (by kernel_rfl)
  have hE9 := @run_callFunc_extern Tryd.prog 150 _ (ReflectliteType.method ReflectliteType.elem) Tryd.func150 (by kernel_rfl) (by kernel_rfl) (by kernel_rfl) (by kernel_rfl)
  have hE10 := @run_callFunc_extern Tryd.prog 151 _ (ReflectliteType.relation "Implements" ReflectliteType.implements_) Tryd.func151 (by kernel_rfl) (by kernel_rfl) (by kernel_rfl) (by kernel_rfl)
  have hm1 := methodKind
  have hm2 := methodElem
  have hm3 := methodImplements
  have f1 := valueOf_seenP
  have f2 := type_seenP
  have f3 := kind_seenP
  have f4 := kind_seen
  have f5 := elem_seenP
  have f6 := implements_seen
  obtain ⟨b, rfl, hb⟩ := h
  have zg := cell_lt hg
  have hn := isNil_seenP ⟨w.heap.size, 0, none⟩ ⟨tb, 0, none⟩ ((w.alloc (.cells #[.pointer (some ⟨tb, 0, none⟩)] 88)).alloc (.cells #[.pointer (some ⟨4, 88, none⟩), .pointer (some ⟨w.heap.size, 0, none⟩), .int .u64 150] 117)) (by simp)
  have HB := Lib.hid (below_then (bel1 w (.cells #[.pointer (some ⟨tb, 0, none⟩)] 88)) (bel1 _ (.cells #[.pointer (some ⟨4, 88, none⟩), .pointer (some ⟨w.heap.size, 0, none⟩), .int .u64 150] 117)))
  have hg2 := (HB.out.cell zg).trans hg
  have HBT := Lib.hid (hbt.below HB.out hbt.lt)
  have KA := as_miss ⟨b, 0, none⟩ ⟨w.heap.size, 0, none⟩ (.iface 88 (.pointer (some ⟨tb, 0, none⟩))) ((w.alloc (.cells #[.pointer (some ⟨tb, 0, none⟩)] 88)).alloc (.cells #[.pointer (some ⟨4, 88, none⟩), .pointer (some ⟨w.heap.size, 0, none⟩), .int .u64 150] 117))
  have HK := Lib.hid KA
  clear KA hb
  clear hbt
  go_enter Tryd.func48, Tryd.ntmps48
  go_wp2_with (first | (go_at_call 90; refine HK.out.mono ?_; rintro e w9 ⟨rfl, hb9⟩; have HB9 := Lib.hid hb9; clear hb9))
  go_ret
  have e9 := HB9.out
  subst e9
  exact ⟨rfl, below_then HB.out (bel1 _ _)⟩

theorem trapSize : (Tryd.prog.info? 81).map (·.size) = some 2 := by kernel_rfl
set_option maxRecDepth 100000 in
theorem first_some {n at_ : Int} {l : List ByteArray} {v : Value} (w : World) (hg : Door w) (h : ErrAt w n at_ l v) :
    Calls Tryd.prog 47 #[v] w fun e w' => e = .returned (.agg #[.int .i64 n, .int .i64 at_]) ∧ Below w.heap.size w w' := by
  have hb := below_then (bel1 w (.cells #[.int .i64 0, .int .i64 0] 81)) (bel1 _ (.cells #[.pointer none] 60))
  have HB := Lib.hid hb
  have hT := (Blk.new w 81 #[.int .i64 0, .int .i64 0]).alloc (.cells #[.pointer none] 60)
  have hP := Blk.new (w.alloc (.cells #[.int .i64 0, .int .i64 0] 81)) 60 #[.pointer none]
  rw [World.size_alloc] at hP
  have HT := Lib.hid hT
  have HK := Lib.hid (As_trap (w.heap.size + 1) _ (hg.below hb) (h.below hb) hP)
  clear hb hT hP
  go_enter Tryd.func47, Tryd.ntmps47
  go_wp2_with (first | (go_at_call 48; refine HK.out.mono ?_; rintro e w9 ⟨rfl, ⟨b, h1, h2⟩, hm⟩; have HM := Lib.hid hm; have HT9 := Lib.hid (HT.out.mod hm (by simp)); have c0 := h1.cell 0; have c1 := h2.cell 0; have c2 := h2.cell 1; have c3 := HT9.out.cell 0; have c4 := HT9.out.cell 1; have c5 := HT9.out.frozen 0; have c6 := HT9.out.frozen 1; have c7 := HT9.out.lt; simp only [List.getElem?_toArray, List.getElem?_cons_zero, List.getElem?_cons_succ] at c0 c1 c2 c3 c4; clear h1 h2 hm))
  have hR := (HT9.out.set_ 0 (.int .i64 n)).set_ 1 (.int .i64 at_)
  refine bodyPost_ret (v := .agg #[.int .i64 n, .int .i64 at_]) (results_cell_row rfl _ _ w.heap.size 81 _ (0, 0) _ rfl hR Tryd.underlying81 rfl trapSize) rfl ⟨rfl, ?_⟩
  have hm := modSet (modSet (Mod.trans (Mod.of_below HB.out) (S := fun k => w.heap.size ≤ k) HM.out (fun k hk e => by omega)) (p := ⟨w.heap.size, 0, none⟩) (.inl (Nat.le_refl _)) (.int .i64 n)) (p := ⟨w.heap.size, 1, none⟩) (.inl (Nat.le_refl _)) (.int .i64 at_)
  exact hm.below (fun b hb h => by omega)
theorem first_nil (w : World) : Calls Tryd.prog 47 #[.nilIface] w fun e w' => e = .returned (.agg #[.int .i64 0, .int .i64 0]) ∧ Below w.heap.size w w' := by
  have HB := Lib.hid (below_then (bel1 w (.cells #[.int .i64 0, .int .i64 0] 81)) (bel1 _ (.cells #[.pointer none] 60)))
  have HT := Lib.hid ((Blk.new w 81 #[.int .i64 0, .int .i64 0]).alloc (.cells #[.pointer none] 60))
  go_enter Tryd.func47, Tryd.ntmps47
  go_wp2_with (first | (go_at_call 48; refine (As_nil _ _).mono ?_; rintro e w9 ⟨rfl, rfl⟩))
  exact bodyPost_ret (v := .agg #[.int .i64 0, .int .i64 0]) (results_cell_row rfl _ _ w.heap.size 81 _ (0, 0) _ rfl HT.out Tryd.underlying81 rfl trapSize) rfl ⟨rfl, HB.out⟩
theorem errno_some {n at_ : Int} {l : List ByteArray} {v : Value} (w : World) (hg : Door w) (h : ErrAt w n at_ l v) :
    Calls Tryd.prog 26 #[v] w fun e w' => e = .returned (.int .i64 n) ∧ Below w.heap.size w w' := by
  have HK := Lib.hid (first_some w hg h)
  have hF : ∀ (a b : Value) (w : World), (Instr.field 81 (.agg #[a, b]) 0).run Tryd.prog w = .ok a w := fun a b w => by simp [go_sem, Instr.field, run_underlying Tryd.underlying81, part, asAgg]
  clear hg h
  go_enter Tryd.func26, Tryd.ntmps26
  go_wp2_with (first | (go_at_call 47; refine HK.out.mono ?_; rintro e w9 ⟨rfl, hb⟩))
  go_ret
  exact ⟨rfl, hb⟩
theorem errno_nil (w : World) : Calls Tryd.prog 26 #[.nilIface] w fun e w' => e = .returned (.int .i64 0) ∧ Below w.heap.size w w' := by
  have hF : ∀ (a b : Value) (w : World), (Instr.field 81 (.agg #[a, b]) 0).run Tryd.prog w = .ok a w := fun a b w => by simp [go_sem, Instr.field, run_underlying Tryd.underlying81, part, asAgg]
  go_enter Tryd.func26, Tryd.ntmps26
  go_wp2_with (first | (go_at_call 47; refine (first_nil _).mono ?_; rintro e w9 ⟨rfl, hb⟩))
  go_ret
  exact ⟨rfl, hb⟩
theorem at_some {n at_ : Int} {l : List ByteArray} {v : Value} (w : World) (hg : Door w) (h : ErrAt w n at_ l v) :
    Calls Tryd.prog 27 #[v] w fun e w' => e = .returned (.int .i64 at_) ∧ Below w.heap.size w w' := by
  have HK := Lib.hid (first_some w hg h)
  have hF : ∀ (a b : Value) (w : World), (Instr.field 81 (.agg #[a, b]) 1).run Tryd.prog w = .ok b w := fun a b w => by simp [go_sem, Instr.field, run_underlying Tryd.underlying81, part, asAgg]
  clear hg h
  go_enter Tryd.func27, Tryd.ntmps27
  go_wp2_with (first | (go_at_call 47; refine HK.out.mono ?_; rintro e w9 ⟨rfl, hb⟩))
  go_ret
  exact ⟨rfl, hb⟩

end Go.Proofs.YtbelbhdhcgpcpaaDoor.Trap
