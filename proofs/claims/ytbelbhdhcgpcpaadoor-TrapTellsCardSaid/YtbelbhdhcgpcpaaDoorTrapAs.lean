/- errors.As at the two targets of trap: a Trap is found behind every chain of wheres; the first where is found, if there is one. Printed by gen_trapas.py, a program of this session. -/
import Derived.Test.YtbelbhdhcgpcpaaDoorTrap
namespace Go.Proofs.YtbelbhdhcgpcpaaDoor.Trap
open Go.RowKit Go.Proofs.YtbelbhdhcgpcpaaDoor.Base Go.Extern.Stop Go.Stop Go.Extern
set_option linter.unusedVariables false
set_option linter.unusedSimpArgs false

theorem rlm (z : Sem Value) (f : TypeId → Addr → Nat → Nat → Sem Value) (v : Value) :
    ReflectliteValue.method z f #[v] = (do match ← ReflectliteValue.parts v with | none => z | some (t, a, fl) => f t a fl (fl % 32)) := rfl
theorem rls (v x : Value) : ReflectliteValue.set #[v, x] = (do
    let (some (dst, a, fl), some (src, b, _)) := (← ReflectliteValue.parts v, ← ReflectliteValue.parts x)
      | unsupported (.noEntry "extern/(internal/reflectlite.Value).Set.zeroValue")
    if fl / ReflectliteValue.flagAddr % 2 == 0 then unsupported (.noEntry "extern/(internal/reflectlite.Value).Set.unaddressable")
    let val ← loadVar src b
    if ← Rtype.directlyAssignable dst src then storeVar dst a val
    else if ← Rtype.implements dst src then
      if (← Rtype.kind src) == 20 then
        match val with
        | .nilIface => unsupported (.noEntry "extern/reflectlite: a nil value of one interface type handed on as a value of another")
        | _ => storeVar dst a val
      else storeVar dst a (.iface src val)
    else panicString ("reflectlite.Set: value of type " ++ (← Rtype.spelt src) ++ " is not assignable to type " ++ (← Rtype.spelt dst))
    pure (.tuple #[])) := rfl
theorem methodKind (h : Value) (w : World) : (Go.method 311 152 (.agg #[h]) "Kind").run Tryd.prog w = .ok (137, h) w := by kernel_rfl
theorem methodElem (h : Value) (w : World) : (Go.method 311 152 (.agg #[h]) "Elem").run Tryd.prog w = .ok (150, .agg #[h]) w := by kernel_rfl
theorem methodImplements (h : Value) (w : World) : (Go.method 311 152 (.agg #[h]) "Implements").run Tryd.prog w = .ok (151, .agg #[h]) w := by kernel_rfl
theorem methodAssignableTo (h : Value) (w : World) : (Go.method 311 152 (.agg #[h]) "AssignableTo").run Tryd.prog w = .ok (148, .agg #[h]) w := by kernel_rfl
theorem noAs_Trap (v : Value) (xT : TypeId) (w : World) : (Instr.typeAssert (.iface 60 v) xT 156 true).run Tryd.prog w = .ok (.tuple #[.nilIface, .bool false]) w := run_typeAssert_lacksB Tryd.underlying156 (by kernel_rfl) (by kernel_rfl) v xT w
theorem noAs_seen (v : Value) (xT : TypeId) (w : World) : (Instr.typeAssert (.iface 83 v) xT 156 true).run Tryd.prog w = .ok (.tuple #[.nilIface, .bool false]) w := run_typeAssert_lacksB Tryd.underlying156 (by kernel_rfl) (by kernel_rfl) v xT w
theorem noUn_Trap (v : Value) (xT : TypeId) (w : World) : (Instr.typeAssert (.iface 60 v) xT 159 true).run Tryd.prog w = .ok (.tuple #[.nilIface, .bool false]) w := run_typeAssert_lacksB Tryd.underlying159 (by kernel_rfl) (by kernel_rfl) v xT w
theorem noUns_Trap (v : Value) (xT : TypeId) (w : World) : (Instr.typeAssert (.iface 60 v) xT 161 true).run Tryd.prog w = .ok (.tuple #[.nilIface, .bool false]) w := run_typeAssert_lacksB Tryd.underlying161 (by kernel_rfl) (by kernel_rfl) v xT w
theorem un_seen (v : Value) (xT : TypeId) (w : World) : (Instr.typeAssert (.iface 83 v) xT 159 true).run Tryd.prog w = .ok (.tuple #[.iface 83 v, .bool true]) w := run_typeAssert_hasB Tryd.underlying159 (by kernel_rfl) v xT w
theorem methodUnwrap (b : Addr) (w : World) : (Go.method 311 83 (.pointer (some b)) "Unwrap").run Tryd.prog w = .ok (143, .pointer (some b)) w := by kernel_rfl
theorem unwrap_any (b : Nat) (s : ByteArray) (u : Value) (w : World) (h : Blk w b 85 #[.string s, u]) :
    Calls Tryd.prog 143 #[.pointer (some ⟨b, 0, none⟩)] w fun e w' => e = .returned u ∧ w' = w := by
  have c0 := h.cell 1
  simp only [List.getElem?_toArray, List.getElem?_cons_zero, List.getElem?_cons_succ] at c0
  go_enter Tryd.func143, Tryd.ntmps143
  go_wp2_with fail
  go_ret
  exact ⟨rfl, rfl⟩

/-! ### the target **Trap -/
theorem valueOf_TrapP (t : Addr) (w : World) : (ReflectliteValue.unpack (.iface 113 (.pointer (some t)))).run Tryd.prog w
    = .ok (.agg #[.pointer (some ⟨4, 113, none⟩), .pointer (some ⟨w.heap.size, 0, none⟩), .int .u64 150]) (w.alloc (.cells #[.pointer (some t)] 113)) := by kernel_rfl
theorem type_TrapP (a : Addr) (w : World) : (ReflectliteValue.methodAny (ReflectliteValue.valueError "reflectlite.Value.Type" 0) (fun t _ _ _ => ReflectliteType.toType t) #[.agg #[.pointer (some ⟨4, 113, none⟩), .pointer (some a), .int .u64 150]]).run Tryd.prog w
    = .ok (.iface 152 (.agg #[.pointer (some ⟨4, 113, none⟩)])) w := by kernel_rfl
theorem kind_TrapP (w : World) : ((ReflectliteType.abiMethod fun t => (fun a : Nat => Value.int IntKind.u8 (a : Int)) <$> Rtype.kind t) #[.pointer (some ⟨4, 113, none⟩)]).run Tryd.prog w = .ok (.int .u8 22) w := by kernel_rfl
theorem kind_Trap (w : World) : ((ReflectliteType.abiMethod fun t => (fun a : Nat => Value.int IntKind.u8 (a : Int)) <$> Rtype.kind t) #[.pointer (some ⟨4, 60, none⟩)]).run Tryd.prog w = .ok (.int .u8 22) w := by kernel_rfl
theorem parts_TrapP (a : Addr) (w : World) : (ReflectliteValue.parts (.agg #[.pointer (some ⟨4, 113, none⟩), .pointer (some a), .int .u64 150])).run Tryd.prog w = .ok (some (113, a, 150)) w := by kernel_rfl
theorem isNil_TrapP (a p : Addr) (W : World) (ha : W.cell? a = some (.pointer (some p))) :
    (ReflectliteValue.method (ReflectliteValue.valueError "reflectlite.Value.IsNil" 0) ReflectliteValue.isNil #[.agg #[.pointer (some ⟨4, 113, none⟩), .pointer (some a), .int .u64 150]]).run Tryd.prog W = .ok (.bool false) W := by
  rw [rlm]
  simp only [Sem.run_bind, parts_TrapP, Result.andThen]
  simp [ReflectliteValue.isNil, loadVar, isAgg, underlying, Tryd.underlying113, ha, Result.andThen]
theorem elem_TrapP (w : World) : (ReflectliteType.method ReflectliteType.elem #[.agg #[.pointer (some ⟨4, 113, none⟩)]]).run Tryd.prog w = .ok (.iface 152 (.agg #[.pointer (some ⟨4, 60, none⟩)])) w := by kernel_rfl
theorem implements_Trap (w : World) : (ReflectliteType.relation "Implements" ReflectliteType.implements_ #[.agg #[.pointer (some ⟨4, 60, none⟩)], .iface 152 (.agg #[.pointer (some ⟨4, 41, none⟩)])]).run Tryd.prog w = .ok (.bool true) w := by kernel_rfl
theorem typeOf_Trap (v : Value) (w : World) : (ReflectliteType.typeOf #[.iface 60 v]).run Tryd.prog w = .ok (.iface 152 (.agg #[.pointer (some ⟨4, 60, none⟩)])) w := by kernel_rfl
theorem assignable_Trap (w : World) : (ReflectliteType.relation "AssignableTo" ReflectliteType.assignableTo #[.agg #[.pointer (some ⟨4, 60, none⟩)], .iface 152 (.agg #[.pointer (some ⟨4, 60, none⟩)])]).run Tryd.prog w = .ok (.bool true) w := by kernel_rfl
theorem valueOf_Trap (e : Addr) (w : World) : (ReflectliteValue.unpack (.iface 60 (.pointer (some e)))).run Tryd.prog w
    = .ok (.agg #[.pointer (some ⟨4, 60, none⟩), .pointer (some ⟨w.heap.size, 0, none⟩), .int .u64 150]) (w.alloc (.cells #[.pointer (some e)] 60)) := by kernel_rfl
theorem elemOf_TrapP (w : World) : (Rtype.elem? 113).run Tryd.prog w = .ok (some 60) w := by kernel_rfl
theorem mk_Trap (p : Addr) (w : World) : (ReflectliteValue.mk 60 p ReflectliteValue.flagAddr).run Tryd.prog w = .ok (.agg #[.pointer (some ⟨4, 60, none⟩), .pointer (some p), .int .u64 406]) w := by kernel_rfl
theorem elemV_TrapP (a p : Addr) (W : World) (ha : W.cell? a = some (.pointer (some p))) :
    (ReflectliteValue.method (ReflectliteValue.valueError "reflectlite.Value.Elem" 0) ReflectliteValue.elem #[.agg #[.pointer (some ⟨4, 113, none⟩), .pointer (some a), .int .u64 150]]).run Tryd.prog W
      = .ok (.agg #[.pointer (some ⟨4, 60, none⟩), .pointer (some p), .int .u64 406]) W := by
  rw [rlm]
  simp only [Sem.run_bind, parts_TrapP, Result.andThen]
  simp [ReflectliteValue.elem, loadVar, isAgg, underlying, Tryd.underlying113, ha, Result.andThen, elemOf_TrapP, mk_Trap]
theorem parts_Trapa (a : Addr) (w : World) : (ReflectliteValue.parts (.agg #[.pointer (some ⟨4, 60, none⟩), .pointer (some a), .int .u64 406])).run Tryd.prog w = .ok (some (60, a, 406)) w := by kernel_rfl
theorem parts_Trap (a : Addr) (w : World) : (ReflectliteValue.parts (.agg #[.pointer (some ⟨4, 60, none⟩), .pointer (some a), .int .u64 150])).run Tryd.prog w = .ok (some (60, a, 150)) w := by kernel_rfl
theorem direct_Trap (w : World) : (Rtype.directlyAssignable 60 60).run Tryd.prog w = .ok true w := by kernel_rfl
theorem set_Trap (ta b e : Addr) (old : Value) (W : World) (hb : W.cell? b = some (.pointer (some e))) (ht : W.cell? ta = some old) (hf : W.frozen? ta = false) :
    (ReflectliteValue.set #[.agg #[.pointer (some ⟨4, 60, none⟩), .pointer (some ta), .int .u64 406], .agg #[.pointer (some ⟨4, 60, none⟩), .pointer (some b), .int .u64 150]]).run Tryd.prog W
      = .ok (.tuple #[]) (W.setCell ta (.pointer (some e))) := by
  rw [rls]
  simp only [Sem.run_bind, parts_Trapa, parts_Trap, Result.andThen]
  simp [ReflectliteValue.flagAddr, loadVar, isAgg, underlying, Tryd.underlying60, hb, Result.andThen, direct_Trap, storeVar, Value.cells, storeCells, Addr.add]
  rw [run_store Tryd.prog W ta _ _ (by rfl)]
  simp [ht, hf]

/-! ### the target **seen -/
theorem valueOf_seenP (t : Addr) (w : World) : (ReflectliteValue.unpack (.iface 88 (.pointer (some t)))).run Tryd.prog w
    = .ok (.agg #[.pointer (some ⟨4, 88, none⟩), .pointer (some ⟨w.heap.size, 0, none⟩), .int .u64 150]) (w.alloc (.cells #[.pointer (some t)] 88)) := by kernel_rfl
theorem type_seenP (a : Addr) (w : World) : (ReflectliteValue.methodAny (ReflectliteValue.valueError "reflectlite.Value.Type" 0) (fun t _ _ _ => ReflectliteType.toType t) #[.agg #[.pointer (some ⟨4, 88, none⟩), .pointer (some a), .int .u64 150]]).run Tryd.prog w
    = .ok (.iface 152 (.agg #[.pointer (some ⟨4, 88, none⟩)])) w := by kernel_rfl
theorem kind_seenP (w : World) : ((ReflectliteType.abiMethod fun t => (fun a : Nat => Value.int IntKind.u8 (a : Int)) <$> Rtype.kind t) #[.pointer (some ⟨4, 88, none⟩)]).run Tryd.prog w = .ok (.int .u8 22) w := by kernel_rfl
theorem kind_seen (w : World) : ((ReflectliteType.abiMethod fun t => (fun a : Nat => Value.int IntKind.u8 (a : Int)) <$> Rtype.kind t) #[.pointer (some ⟨4, 83, none⟩)]).run Tryd.prog w = .ok (.int .u8 22) w := by kernel_rfl
theorem parts_seenP (a : Addr) (w : World) : (ReflectliteValue.parts (.agg #[.pointer (some ⟨4, 88, none⟩), .pointer (some a), .int .u64 150])).run Tryd.prog w = .ok (some (88, a, 150)) w := by kernel_rfl
theorem isNil_seenP (a p : Addr) (W : World) (ha : W.cell? a = some (.pointer (some p))) :
    (ReflectliteValue.method (ReflectliteValue.valueError "reflectlite.Value.IsNil" 0) ReflectliteValue.isNil #[.agg #[.pointer (some ⟨4, 88, none⟩), .pointer (some a), .int .u64 150]]).run Tryd.prog W = .ok (.bool false) W := by
  rw [rlm]
  simp only [Sem.run_bind, parts_seenP, Result.andThen]
  simp [ReflectliteValue.isNil, loadVar, isAgg, underlying, Tryd.underlying88, ha, Result.andThen]
theorem elem_seenP (w : World) : (ReflectliteType.method ReflectliteType.elem #[.agg #[.pointer (some ⟨4, 88, none⟩)]]).run Tryd.prog w = .ok (.iface 152 (.agg #[.pointer (some ⟨4, 83, none⟩)])) w := by kernel_rfl
theorem implements_seen (w : World) : (ReflectliteType.relation "Implements" ReflectliteType.implements_ #[.agg #[.pointer (some ⟨4, 83, none⟩)], .iface 152 (.agg #[.pointer (some ⟨4, 41, none⟩)])]).run Tryd.prog w = .ok (.bool true) w := by kernel_rfl
theorem typeOf_seen (v : Value) (w : World) : (ReflectliteType.typeOf #[.iface 83 v]).run Tryd.prog w = .ok (.iface 152 (.agg #[.pointer (some ⟨4, 83, none⟩)])) w := by kernel_rfl
theorem assignable_seen (w : World) : (ReflectliteType.relation "AssignableTo" ReflectliteType.assignableTo #[.agg #[.pointer (some ⟨4, 83, none⟩)], .iface 152 (.agg #[.pointer (some ⟨4, 83, none⟩)])]).run Tryd.prog w = .ok (.bool true) w := by kernel_rfl
theorem valueOf_seen (e : Addr) (w : World) : (ReflectliteValue.unpack (.iface 83 (.pointer (some e)))).run Tryd.prog w
    = .ok (.agg #[.pointer (some ⟨4, 83, none⟩), .pointer (some ⟨w.heap.size, 0, none⟩), .int .u64 150]) (w.alloc (.cells #[.pointer (some e)] 83)) := by kernel_rfl
theorem elemOf_seenP (w : World) : (Rtype.elem? 88).run Tryd.prog w = .ok (some 83) w := by kernel_rfl
theorem mk_seen (p : Addr) (w : World) : (ReflectliteValue.mk 83 p ReflectliteValue.flagAddr).run Tryd.prog w = .ok (.agg #[.pointer (some ⟨4, 83, none⟩), .pointer (some p), .int .u64 406]) w := by kernel_rfl
theorem elemV_seenP (a p : Addr) (W : World) (ha : W.cell? a = some (.pointer (some p))) :
    (ReflectliteValue.method (ReflectliteValue.valueError "reflectlite.Value.Elem" 0) ReflectliteValue.elem #[.agg #[.pointer (some ⟨4, 88, none⟩), .pointer (some a), .int .u64 150]]).run Tryd.prog W
      = .ok (.agg #[.pointer (some ⟨4, 83, none⟩), .pointer (some p), .int .u64 406]) W := by
  rw [rlm]
  simp only [Sem.run_bind, parts_seenP, Result.andThen]
  simp [ReflectliteValue.elem, loadVar, isAgg, underlying, Tryd.underlying88, ha, Result.andThen, elemOf_seenP, mk_seen]
theorem parts_seena (a : Addr) (w : World) : (ReflectliteValue.parts (.agg #[.pointer (some ⟨4, 83, none⟩), .pointer (some a), .int .u64 406])).run Tryd.prog w = .ok (some (83, a, 406)) w := by kernel_rfl
theorem parts_seen (a : Addr) (w : World) : (ReflectliteValue.parts (.agg #[.pointer (some ⟨4, 83, none⟩), .pointer (some a), .int .u64 150])).run Tryd.prog w = .ok (some (83, a, 150)) w := by kernel_rfl
theorem direct_seen (w : World) : (Rtype.directlyAssignable 83 83).run Tryd.prog w = .ok true w := by kernel_rfl
theorem set_seen (ta b e : Addr) (old : Value) (W : World) (hb : W.cell? b = some (.pointer (some e))) (ht : W.cell? ta = some old) (hf : W.frozen? ta = false) :
    (ReflectliteValue.set #[.agg #[.pointer (some ⟨4, 83, none⟩), .pointer (some ta), .int .u64 406], .agg #[.pointer (some ⟨4, 83, none⟩), .pointer (some b), .int .u64 150]]).run Tryd.prog W
      = .ok (.tuple #[]) (W.setCell ta (.pointer (some e))) := by
  rw [rls]
  simp only [Sem.run_bind, parts_seena, parts_seen, Result.andThen]
  simp [ReflectliteValue.flagAddr, loadVar, isAgg, underlying, Tryd.underlying83, hb, Result.andThen, direct_seen, storeVar, Value.cells, storeCells, Addr.add]
  rw [run_store Tryd.prog W ta _ _ (by rfl)]
  simp [ht, hf]

theorem unassignable_seen (w : World) : (ReflectliteType.relation "AssignableTo" ReflectliteType.assignableTo #[.agg #[.pointer (some ⟨4, 83, none⟩)], .iface 152 (.agg #[.pointer (some ⟨4, 60, none⟩)])]).run Tryd.prog w = .ok (.bool false) w := by kernel_rfl
theorem unassignable_Trap (w : World) : (ReflectliteType.relation "AssignableTo" ReflectliteType.assignableTo #[.agg #[.pointer (some ⟨4, 60, none⟩)], .iface 152 (.agg #[.pointer (some ⟨4, 83, none⟩)])]).run Tryd.prog w = .ok (.bool false) w := by kernel_rfl

set_option maxHeartbeats 4000000 in
/-- errors.as at an error whose own type is the target's. -/
theorem as_hit_Trap (e a t : Addr) (old : Value) (w : World) (ha : w.cell? a = some (.pointer (some t))) (ht : w.cell? t = some old) (hf : w.frozen? t = false) :
    Calls Tryd.prog 90 #[.iface 60 (.pointer (some e)), .iface 113 (.pointer (some t)), .agg #[.pointer (some ⟨4, 113, none⟩), .pointer (some a), .int .u64 150], .iface 152 (.agg #[.pointer (some ⟨4, 60, none⟩)])] w fun ev w' =>
      ev = .returned (.bool true) ∧ w' = ((w.alloc (.cells #[.pointer (some ⟨4, 113, none⟩), .pointer (some a), .int .u64 150] 117)).alloc (.cells #[.pointer (some e)] 60)).setCell t (.pointer (some e)) := by
  have hE1 := @run_callFunc_extern Tryd.prog 91 _ ReflectliteType.typeOf Tryd.func91 (by kernel_rfl) (by kernel_rfl) (by kernel_rfl) (by kernel_rfl)
  have hE2 := @run_callFunc_extern Tryd.prog 148 _ (ReflectliteType.relation "AssignableTo" ReflectliteType.assignableTo) Tryd.func148 (by kernel_rfl) (by kernel_rfl) (by kernel_rfl) (by kernel_rfl)
  have hE3 := @run_callFunc_extern Tryd.prog 108 _ (ReflectliteValue.method (ReflectliteValue.valueError "reflectlite.Value.Elem" 0) ReflectliteValue.elem) Tryd.func108 (by kernel_rfl) (by kernel_rfl) (by kernel_rfl) (by kernel_rfl)
  have hE4 := @run_callFunc_extern Tryd.prog 87 _ (fun args => ReflectliteValue.unpack (args.getD 0 (.tuple #[]))) Tryd.func87 (by kernel_rfl) (by kernel_rfl) (by kernel_rfl) (by kernel_rfl)
  have hE5 := @run_callFunc_extern Tryd.prog 109 _ ReflectliteValue.set Tryd.func109 (by kernel_rfl) (by kernel_rfl) (by kernel_rfl) (by kernel_rfl)
  have hA := methodAssignableTo
  have hT := typeOf_Trap
  have hS := assignable_Trap
  have hV := valueOf_Trap
  have zt := cell_lt ht
  have za := cell_lt ha
  have hL := elemV_TrapP a t (w.alloc (.cells #[.pointer (some ⟨4, 113, none⟩), .pointer (some a), .int .u64 150] 117)) (((bel1 w _).cell za).trans ha)
  have hW := set_Trap t ⟨w.heap.size + 1, 0, none⟩ e old ((w.alloc (.cells #[.pointer (some ⟨4, 113, none⟩), .pointer (some a), .int .u64 150] 117)).alloc (.cells #[.pointer (some e)] 60))
    (by rw [World.cell?_alloc_at _ _ _ _ (by simp)]; rfl) (((below_then (bel1 w _) (bel1 _ _)).cell zt).trans ht) (((below_then (bel1 w _) (bel1 _ _)).frozen zt).trans hf)
  go_enter Tryd.func90, Tryd.ntmps90
  go_wp2
  refine wp_loop_rounds 1 ?_
  rw [rounds_succ]
  go_wp2
  go_ret
  exact ⟨rfl, rfl⟩

set_option maxHeartbeats 4000000 in
/-- errors.as at an error whose own type is the target's. -/
theorem as_hit_seen (e a t : Addr) (old : Value) (w : World) (ha : w.cell? a = some (.pointer (some t))) (ht : w.cell? t = some old) (hf : w.frozen? t = false) :
    Calls Tryd.prog 90 #[.iface 83 (.pointer (some e)), .iface 88 (.pointer (some t)), .agg #[.pointer (some ⟨4, 88, none⟩), .pointer (some a), .int .u64 150], .iface 152 (.agg #[.pointer (some ⟨4, 83, none⟩)])] w fun ev w' =>
      ev = .returned (.bool true) ∧ w' = ((w.alloc (.cells #[.pointer (some ⟨4, 88, none⟩), .pointer (some a), .int .u64 150] 117)).alloc (.cells #[.pointer (some e)] 83)).setCell t (.pointer (some e)) := by
  have hE1 := @run_callFunc_extern Tryd.prog 91 _ ReflectliteType.typeOf Tryd.func91 (by kernel_rfl) (by kernel_rfl) (by kernel_rfl) (by kernel_rfl)
  have hE2 := @run_callFunc_extern Tryd.prog 148 _ (ReflectliteType.relation "AssignableTo" ReflectliteType.assignableTo) Tryd.func148 (by kernel_rfl) (by kernel_rfl) (by kernel_rfl) (by kernel_rfl)
  have hE3 := @run_callFunc_extern Tryd.prog 108 _ (ReflectliteValue.method (ReflectliteValue.valueError "reflectlite.Value.Elem" 0) ReflectliteValue.elem) Tryd.func108 (by kernel_rfl) (by kernel_rfl) (by kernel_rfl) (by kernel_rfl)
  have hE4 := @run_callFunc_extern Tryd.prog 87 _ (fun args => ReflectliteValue.unpack (args.getD 0 (.tuple #[]))) Tryd.func87 (by kernel_rfl) (by kernel_rfl) (by kernel_rfl) (by kernel_rfl)
  have hE5 := @run_callFunc_extern Tryd.prog 109 _ ReflectliteValue.set Tryd.func109 (by kernel_rfl) (by kernel_rfl) (by kernel_rfl) (by kernel_rfl)
  have hA := methodAssignableTo
  have hT := typeOf_seen
  have hS := assignable_seen
  have hV := valueOf_seen
  have zt := cell_lt ht
  have za := cell_lt ha
  have hL := elemV_seenP a t (w.alloc (.cells #[.pointer (some ⟨4, 88, none⟩), .pointer (some a), .int .u64 150] 117)) (((bel1 w _).cell za).trans ha)
  have hW := set_seen t ⟨w.heap.size + 1, 0, none⟩ e old ((w.alloc (.cells #[.pointer (some ⟨4, 88, none⟩), .pointer (some a), .int .u64 150] 117)).alloc (.cells #[.pointer (some e)] 83))
    (by rw [World.cell?_alloc_at _ _ _ _ (by simp)]; rfl) (((below_then (bel1 w _) (bel1 _ _)).cell zt).trans ht) (((below_then (bel1 w _) (bel1 _ _)).frozen zt).trans hf)
  go_enter Tryd.func90, Tryd.ntmps90
  go_wp2
  refine wp_loop_rounds 1 ?_
  rw [rounds_succ]
  go_wp2
  go_ret
  exact ⟨rfl, rfl⟩
end Go.Proofs.YtbelbhdhcgpcpaaDoor.Trap
