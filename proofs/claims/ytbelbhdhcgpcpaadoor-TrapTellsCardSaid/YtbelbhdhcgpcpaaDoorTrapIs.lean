/- errors.Is with a trap: an error has just its own number. -/
import Derived.Test.YtbelbhdhcgpcpaaDoorTrapAlive
namespace Go.Proofs.YtbelbhdhcgpcpaaDoor.Trap
open Go.RowKit Go.Proofs.YtbelbhdhcgpcpaaDoor.Base Go.Extern.Stop Go.Stop Go.Extern
set_option linter.unusedVariables false
set_option linter.unusedSimpArgs false

theorem methodComparable (h : Value) (w : World) : (Go.method 311 152 (.agg #[h]) "Comparable").run Tryd.prog w = .ok (149, .agg #[h]) w := by kernel_rfl
theorem methodIs (b : Addr) (w : World) : (Go.method 311 60 (.pointer (some b)) "Is").run Tryd.prog w = .ok (140, .pointer (some b)) w := by kernel_rfl
theorem comparable_Trap (w : World) : (ReflectliteType.method (fun t => do
    Rtype.noPackHeld "Comparable" t
    (fun a => Value.bool a.comparable) <$> typeInfo t) #[.agg #[.pointer (some ⟨4, 60, none⟩)]]).run Tryd.prog w = .ok (.bool true) w := by kernel_rfl
theorem hasIs_Trap (v : Value) (xT : TypeId) (w : World) : (Instr.typeAssert (.iface 60 v) xT 164 true).run Tryd.prog w = .ok (.tuple #[.iface 60 v, .bool true]) w := run_typeAssert_hasB Tryd.underlying164 (by kernel_rfl) v xT w
theorem noIs_seen (v : Value) (xT : TypeId) (w : World) : (Instr.typeAssert (.iface 83 v) xT 164 true).run Tryd.prog w = .ok (.tuple #[.nilIface, .bool false]) w := run_typeAssert_lacksB Tryd.underlying164 (by kernel_rfl) (by kernel_rfl) v xT w

theorem as_same (b : Addr) (w : World) : (Instr.typeAssert (.iface 60 (.pointer (some b))) 41 60 true).run Tryd.prog w = .ok (.tuple #[.pointer (some b), .bool true]) w := by kernel_rfl
theorem eq_types (p q : Addr) (w : World) : (binOp BinOp.eql 41 (.iface 83 (.pointer (some p))) (.iface 60 (.pointer (some q)))).run Tryd.prog w = .ok (.bool false) w := by kernel_rfl
theorem info_some {β : Type} {P : Program} {t : TypeId} {f : TypeInfo → β} {x : β} (h : (P.info? t).map f = some x) : ∃ i, P.info? t = some i ∧ f i = x := by
  cases hi : P.info? t with
  | none => rw [hi] at h; cases h
  | some i => rw [hi] at h; exact ⟨i, rfl, by simpa using h⟩
theorem eq_traps_no {b c : Nat} {x y : Array Value} (h : b ≠ c) (w : World) (hb : Blk w b 81 x) (hc : Blk w c 81 y) : (binOp BinOp.eql 41 (.iface 60 (.pointer (some ⟨b, 0, none⟩))) (.iface 60 (.pointer (some ⟨c, 0, none⟩)))).run Tryd.prog w = .ok (.bool false) w := by
  obtain ⟨i, h1, h2⟩ := info_some (P := Tryd.prog) (t := 60) (f := (·.comparable)) (x := true) (by kernel_rfl)
  obtain ⟨j, h3, h4⟩ := info_some (P := Tryd.prog) (t := 81) (f := (·.size)) (x := 2) (by kernel_rfl)
  exact run_eql_iface_ptr_other w Tryd.underlying41 Tryd.underlying60 h1 h2 h3 (by rw [h4]; decide) (fun e => h (by injection e)) hb hc
set_option maxRecDepth 100000 in
/-- (*Trap).Is of two that are there. -/
theorem trap_is (b c : Nat) (n at_ m : Int) (w : World) (hb : Blk w b 81 #[.int .i64 n, .int .i64 at_]) (hc : Blk w c 81 #[.int .i64 m, .int .i64 0]) :
    Calls Tryd.prog 140 #[.pointer (some ⟨b, 0, none⟩), .iface 60 (.pointer (some ⟨c, 0, none⟩))] w fun e w' => e = .returned (.bool (m == n)) ∧ ∃ k, w' = w.drewN k := by
  have hA := as_same
  have c0 := hb.cell 0
  have c1 := hc.cell 0
  have z0 := hb.lt
  have z1 := hc.lt
  simp only [List.getElem?_toArray, List.getElem?_cons_zero, List.getElem?_cons_succ] at c0 c1
  clear hb hc
  go_enter Tryd.func140, Tryd.ntmps140
  go_wp2_with fail
  go_quiet (fail)
  go_wp2_with fail
  go_ret
  exact ⟨rfl, ⟨_, rfl⟩⟩

set_option maxRecDepth 100000 in
set_option maxHeartbeats 4000000 in
/-- errors.is looks for a trap of a number. -/
theorem is_walk {n at_ : Int} {l : List ByteArray} {v : Value} (c : Nat) (m : Int) (w0 w : World) (h : ErrAt w0 n at_ l v) (hb0 : Below w0.heap.size w0 w) (hc : Blk w c 81 #[.int .i64 m, .int .i64 0]) (hne : w0.heap.size ≤ c) :
    Calls Tryd.prog 92 #[v, .iface 60 (.pointer (some ⟨c, 0, none⟩)), .bool true] w fun e w' => e = .returned (.bool (m == n)) ∧ ∃ k, w' = w.drewN k := by
  have hM := methodUnwrap
  have hM2 := methodIs
  have hU := un_seen
  have hN := noUn_Trap
  have hN2 := noUns_Trap
  have hI := hasIs_Trap
  have hI2 := noIs_seen
  have hQ := eq_types
  have HH := Lib.hid h
  have HC := Lib.hid hc
  have HNE := Lib.hid hne
  have HB0 := Lib.hid hb0
  obtain ⟨r, hr⟩ : ∃ r, (m == n) = r := ⟨_, rfl⟩
  rw [hr]
  have HRR := Lib.hid hr
  clear h hc hne hr hb0
  go_enter Tryd.func92, Tryd.ntmps92
  go_wp2_with fail
  go_loopg [0] l.length (fun gl u wr => Hid (wr = w) ∧ Hid (∃ l', l'.length = gl ∧ ErrAt w0 n at_ l' u))
  case atStart => exact ⟨rfl, l, rfl, HH.out⟩
  case round =>
    obtain ⟨HR, HL⟩ := hrel
    obtain rfl := HR.out
    obtain ⟨l', hl, he⟩ := HL.out
    cases l' with
    | nil =>
      obtain ⟨b, rfl, hb⟩ := he
      have hlt := hb.lt
      have hle := HNE.out
      replace hb := hb.below HB0.out hlt
      have hbc := eq_traps_no (by omega) wr hb HC.out
      have KI := Lib.hid (trap_is b c n at_ m wr hb HC.out)
      clear hb HL hl hlt hle hQ
      rw [HRR.out] at KI
      cases r
      all_goals
        go_wp2_with (first | (go_at_call 140; refine KI.out.mono ?_; rintro e w9 ⟨rfl, hk9⟩; have HK9 := Lib.hid hk9; clear hk9))
        go_ret
        exact ⟨rfl, HK9.out⟩
    | cons s l'' =>
      obtain ⟨b, u, rfl, hb, hr⟩ := he
      have HBk := Lib.hid hb
      obtain ⟨tu, bu, rfl⟩ := hr.iface
      have HRr := Lib.hid hr
      clear hb hr
      go_wp2_with (first | (go_at_call 143; refine (unwrap_any _ _ _ _ (HBk.out.below HB0.out HBk.out.lt)).mono ?_; rintro e w9 ⟨rfl, rfl⟩))
      go_roundg l''.length
      case measure => simp at hl; omega
      case rel => exact ⟨Lib.hid rfl, Lib.hid ⟨l'', rfl, HRr.out⟩⟩

set_option maxRecDepth 100000 in
/-- errors.Is with a trap that was made just now. -/
theorem Is_walk {n at_ : Int} {l : List ByteArray} {v : Value} (c : Nat) (m : Int) (w0 w : World) (h : ErrAt w0 n at_ l v) (hb0 : Below w0.heap.size w0 w) (hc : Blk w c 81 #[.int .i64 m, .int .i64 0]) (hne : w0.heap.size ≤ c) :
    Calls Tryd.prog 49 #[v, .iface 60 (.pointer (some ⟨c, 0, none⟩))] w fun e w' => e = .returned (.bool (m == n)) ∧ ∃ k, w' = w.drewN k := by
  have hE1 := @run_callFunc_extern Tryd.prog 91 _ ReflectliteType.typeOf Tryd.func91 (by kernel_rfl) (by kernel_rfl) (by kernel_rfl) (by kernel_rfl)
  have hE2 := @run_callFunc_extern Tryd.prog 149 _ (ReflectliteType.method (fun t => do Rtype.noPackHeld "Comparable" t; pure (.bool (← typeInfo t).comparable))) Tryd.func149 (by kernel_rfl) (by kernel_rfl) (by kernel_rfl) (by kernel_rfl)
  have hT := typeOf_Trap
  have hM := methodComparable
  have hC := comparable_Trap
  have K := Lib.hid (is_walk c m w0 w h hb0 hc hne)
  obtain ⟨tv, bv, rfl⟩ := h.iface
  clear h hc hne hb0
  go_enter Tryd.func49, Tryd.ntmps49
  go_wp2_with (first | (go_at_call 92; refine K.out.mono ?_; rintro e w9 ⟨rfl, hk⟩))
  go_ret
  exact ⟨rfl, hk⟩
set_option maxRecDepth 100000 in
/-- trap.Is of an error that is there. -/
theorem is_some {n at_ : Int} {l : List ByteArray} {v : Value} (m : Int) (w : World) (hn : n ≠ 0) (h : ErrAt w n at_ l v) :
    Calls Tryd.prog 29 #[v, .int .i64 m] w fun e w' => e = .returned (.bool (m == n)) ∧ Below w.heap.size w w' := by
  by_cases hm : m = 0
  · subst hm
    have e : ((0 : Int) == n) = false := beq_eq_false_iff_ne.mpr (fun e => hn e.symm)
    rw [e]
    refine (is_ok w h).mono ?_
    rintro e w1 ⟨rfl, rfl⟩
    exact ⟨rfl, Below.refl _ _⟩
  · have p1 : (m == 0) = false := beq_eq_false_iff_ne.mpr hm
    have HB := Lib.hid (bel1 w (.cells #[.int .i64 m, .int .i64 0] 81))
    have K := Lib.hid (Is_walk w.heap.size m w _ h HB.out (Blk.new w 81 #[.int .i64 m, .int .i64 0]) (Nat.le_refl _))
    obtain ⟨tv, bv, rfl⟩ := h.iface
    clear h hm
    go_enter Tryd.func29, Tryd.ntmps29
    go_wp2_with (first | (go_at_call 49; refine K.out.mono ?_; rintro e w9 ⟨rfl, hk⟩))
    go_ret
    obtain ⟨k, rfl⟩ := hk
    exact ⟨rfl, belN HB.out _⟩
end Go.Proofs.YtbelbhdhcgpcpaaDoor.Trap
