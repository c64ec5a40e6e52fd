/- trap's errors: made, wrapped, and what errors.As finds in them: by contracts, for every chain of wheres. -/
import Derived.Test.YtbelbhdhcgpcpaaDoorW0
import Derived.LaidEql
import Derived.Stop.Asserts
import Derived.RowKitTokens
namespace Go.Proofs.YtbelbhdhcgpcpaaDoor.Trap
open Go.RowKit Go.Proofs.YtbelbhdhcgpcpaaDoor.Base Go.Extern.Stop Go.Stop Go.Extern
set_option linter.unusedVariables false
set_option linter.unusedSimpArgs false

/-- An error that trap made: its number, where it was, its wheres, the outermost first. -/
def ErrAt (w : World) (n at_ : Int) : List ByteArray → Value → Prop
  | [], v => ∃ b, v = .iface 60 (.pointer (some ⟨b, 0, none⟩)) ∧ Blk w b 81 #[.int .i64 n, .int .i64 at_]
  | s :: l, v => ∃ b u, v = .iface 83 (.pointer (some ⟨b, 0, none⟩)) ∧ Blk w b 85 #[.string s, u] ∧ ErrAt w n at_ l u
theorem ErrAt.keep {w w' : World} {n a : Int} : ∀ {l : List ByteArray} {v : Value}, ErrAt w n a l v → (∀ b t cs, Blk w b t cs → (t = 81 ∨ t = 85) → Blk w' b t cs) → ErrAt w' n a l v
  | [], v, ⟨b, e, h⟩, k => ⟨b, e, k _ _ _ h (.inl rfl)⟩
  | s :: l, v, ⟨b, u, e, h, r⟩, k => ⟨b, u, e, k _ _ _ h (.inr rfl), ErrAt.keep r k⟩
theorem ErrAt.below {w w' : World} {n a : Int} {l : List ByteArray} {v : Value} (h : ErrAt w n a l v) (hb : Below w.heap.size w w') : ErrAt w' n a l v :=
  h.keep fun _ _ _ hB _ => hB.below hb hB.lt
theorem ErrAt.mod {w w' : World} {S : Nat → Prop} {n a : Int} {l : List ByteArray} {v : Value} (h : ErrAt w n a l v) (hb : Mod S w w') (hs : ∀ b t cs, Blk w b t cs → (t = 81 ∨ t = 85) → ¬ S b) : ErrAt w' n a l v :=
  h.keep fun _ _ _ hB ht => hB.mod hb (hs _ _ _ hB ht)
theorem ErrAt.iface {w : World} {n a : Int} {l : List ByteArray} {v : Value} (h : ErrAt w n a l v) : ∃ t b, v = .iface t (.pointer (some ⟨b, 0, none⟩)) := by
  cases l with
  | nil => obtain ⟨b, rfl, _⟩ := h; exact ⟨_, b, rfl⟩
  | cons s l => obtain ⟨b, u, rfl, _⟩ := h; exact ⟨_, b, rfl⟩

theorem new_none (at_ : Int) (w : World) : Calls Tryd.prog 23 #[.int .i64 0, .int .i64 at_] w fun e w' => e = .returned .nilIface ∧ w' = w := by
  go_enter Tryd.func23, Tryd.ntmps23
  go_wp2_with fail
  go_ret
  exact ⟨rfl, rfl⟩
theorem new_some (n at_ : Int) (hn : n ≠ 0) (w : World) : Calls Tryd.prog 23 #[.int .i64 n, .int .i64 at_] w fun e w' => ∃ v, e = .returned v ∧ ErrAt w' n at_ [] v ∧ Below w.heap.size w w' := by
  have hb : (n == 0) = false := beq_eq_false_iff_ne.mpr hn
  have HB := Lib.hid (bel1 w (.cells #[.int .i64 n, .int .i64 at_] 81))
  have HN := Lib.hid (Blk.new w 81 #[.int .i64 n, .int .i64 at_])
  go_enter Tryd.func23, Tryd.ntmps23
  go_wp2_with fail
  go_ret
  exact ⟨_, rfl, ⟨_, rfl, HN.out⟩, HB.out⟩
theorem in_none (s : ByteArray) (w : World) : Calls Tryd.prog 25 #[.nilIface, .string s] w fun e w' => e = .returned .nilIface ∧ w' = w := by
  go_enter Tryd.func25, Tryd.ntmps25
  go_wp2_with fail
  go_ret
  exact ⟨rfl, rfl⟩
theorem in_some {n at_ : Int} {l : List ByteArray} {v : Value} {w : World} (s : ByteArray) (h : ErrAt w n at_ l v) : Calls Tryd.prog 25 #[v, .string s] w fun e w' => ∃ v', e = .returned v' ∧ ErrAt w' n at_ (s :: l) v' ∧ Below w.heap.size w w' := by
  obtain ⟨t, b, rfl⟩ := h.iface
  have HB := Lib.hid (bel1 w (.cells #[.string s, .iface t (.pointer (some ⟨b, 0, none⟩))] 85))
  have HN := Lib.hid (Blk.new w 85 #[.string s, .iface t (.pointer (some ⟨b, 0, none⟩))])
  have HH := Lib.hid h
  clear h
  go_enter Tryd.func25, Tryd.ntmps25
  go_wp2_with fail
  go_ret
  exact ⟨_, rfl, ⟨_, _, rfl, HN.out, HH.out.below HB.out⟩, HB.out⟩
end Go.Proofs.YtbelbhdhcgpcpaaDoor.Trap
