/- slices.Clone over numbers. -/
import Derived.Test.YtbelbhdhcgpcpaaGreatDoorGrRight
namespace Go.Proofs.YtbelbhdhcgpcpaaGreatDoor.Gr
open Go.RowKit Go.Proofs.YtbelbhdhcgpcpaaGreatDoor.Base
set_option linter.unusedVariables false
set_option linter.unusedSimpArgs false

theorem intInfo : (Tryz.prog.info? 3).map (fun i => (i.zero, i.size, i.bytes)) = some (some (.int .i64 0), 1, 8) := by kernel_rfl
theorem info_parts1 {P : Program} {e : TypeId} {z : Option Value} {s b : Nat} (h : (P.info? e).map (fun i => (i.zero, i.size, i.bytes)) = some (z, s, b)) : ∃ i, P.info? e = some i ∧ i.zero = z ∧ i.size = s ∧ i.bytes = b := by
  cases hi : P.info? e with
  | none => rw [hi] at h; cases h
  | some i =>
    rw [hi] at h
    simp only [Option.map_some, Option.some.injEq, Prod.mk.injEq] at h
    exact ⟨i, rfl, h.1, h.2.1, h.2.2⟩
theorem own_new' (w : World) (base e size n : Nat) (cs : Array Value) (hb : base ≤ w.heap.size) (hs : cs.size = n * size) (hn : n ≤ maxLen) :
    (w.alloc (.cells cs e)).ownsRow base e size (.slice (some ⟨w.heap.size, 0, none⟩) n n) n cs.toList :=
  ⟨by simpa using hs, .inr ⟨w.heap.size, n, cs, rfl, hb, heap_alloc_new w _, Nat.le_refl _, hn, hs, by rw [List.take_of_length_le]; simpa using Nat.le_of_eq hs⟩⟩
theorem ic_one (l : List Int) : ∀ u ∈ enc ic l, u.oneCell' = true := by
  intro u hu
  rw [enc_ic, List.mem_map] at hu
  obtain ⟨x, _, rfl⟩ := hu
  rfl

set_option maxRecDepth 100000 in
theorem clone_any (A : Option Addr) (l : List Int) (c : Nat) (w : World) (hA : Ints w A l) :
    Calls Tryz.prog 71 #[.slice A l.length c] w fun e w' => ∃ v, e = .returned v ∧ w'.ownsRow w.heap.size 3 1 v l.length (enc ic l) ∧ Below w.heap.size w w' := by
  obtain ⟨i0, hi0, hz0, hz1, hz2⟩ := info_parts1 intInfo
  have qT : ∀ (a : Option Addr) (n c : Nat) (w : World), (binOp .eql 22 (.slice a n c) (.slice none 0 0)).run Tryz.prog w = .ok (.bool a.isNone) w := fun a n c w => Lib.run_eql_slice_nil w _ _ _ _ _ _ _ Tryz.underlying22
  rcases A with _ | ad
  · have hl : l.length = 0 := hA.1.len ic_len (by omega) rfl
    have : l = [] := List.eq_nil_of_length_eq_zero hl
    subst this
    clear hl hA
    go_enter Tryz.func71, Tryz.ntmps71
    go_wp2
    go_ret
    exact ⟨_, rfl, own_nil _ _ _ _, Below.refl _ _⟩
  · have HA := Lib.hid hA
    have hsz := hA.2
    clear hA
    go_enter Tryz.func71, Tryz.ntmps71
    go_wp2_with (refine wpList_append_any _ (by rfl) _ _ _ (by rfl) w.heap.size 3 i0 _ 1 8 Tryz.underlying22 hi0 hz0 hz1 hz2 rfl (by omega) _ 0 [] (by rfl) (own_new' w w.heap.size 3 1 0 #[] (Nat.le_refl _) rfl (by simp [maxLen])) _ l.length c _ (by rfl) (HA.out.below (below_1 _ _)).1 (ic_one l) (fun e => by cases e) (by simp only [maxLen]; omega) (by omega) (by simp) ?_; intro v4 w4 hown4 hg4 hat4)
    go_ret
    refine ⟨v4, rfl, ?_, ?_⟩
    · have := hown4
      rw [Nat.zero_add, List.nil_append] at this
      exact this
    · refine (below_1 w _).grown hg4 (by simp) ?_
      intro b hb
      simp [Value.ownBlock] at hb
      omega


end Go.Proofs.YtbelbhdhcgpcpaaGreatDoor.Gr
