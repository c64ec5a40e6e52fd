/- flittinglaw16.alive. -/
import Derived.Test.YtbelbhdhcgpcpaaGreatDoorGrText
import Derived.Test.YtbelbhdhcgpcpaaGreatDoorGrSame
namespace Go.Proofs.YtbelbhdhcgpcpaaGreatDoor.Gr
open Go.RowKit Go.Proofs.YtbelbhdhcgpcpaaGreatDoor.Base Go.Proofs.YtbelbhdhcgpcpaaGreatDoor.Str
set_option linter.unusedVariables false
set_option linter.unusedSimpArgs false

def g0 : Gr := ⟨[2, 0, 0, 0, 0, 0, 0, 0], [⟨[], []⟩, ⟨[], [5]⟩]⟩
def c0 : Gr := ⟨[1, 0, 0, 0, 0, 0, 0, 0], [⟨[], [5]⟩]⟩
theorem g0_right : right g0 = true := by decide
theorem g0_canon : canon g0 = c0 := by decide
theorem g0_same : same g0 c0 = true := by decide
theorem g0_size : size g0 = 2 := by decide
theorem g0_ne : decide (g0 = c0) = false := by decide
theorem c0_text : grText c0 = [114, 32, 49, 32, 48, 32, 48, 32, 48, 32, 48, 32, 48, 32, 48, 32, 48, 59, 124, 32, 53] := by
  have h0 : Lib.itoa 0 = [48] := by simp [Lib.itoa, Lib.decDigits_one]
  have h1 : Lib.itoa 1 = [49] := by simp [Lib.itoa, Lib.decDigits_one]
  have h5 : Lib.itoa 5 = [53] := by simp [Lib.itoa, Lib.decDigits_one]
  simp [grText, numsText, ndText, c0, h0, h1, h5]

theorem add_zero_of (r n : Nat) : (⟨r, 0, none⟩ : Addr).add n = ⟨r, n, none⟩ := by
  unfold Addr.add
  by_cases h : n = 0 <;> simp [h]
theorem g0_at {W : World} {p q r : Nat} (hp : Blk W p 3 #[.int .i64 2, .int .i64 0, .int .i64 0, .int .i64 0, .int .i64 0, .int .i64 0, .int .i64 0, .int .i64 0]) (hq : Blk W q 3 #[.int .i64 5])
    (hr : Blk W r 45 #[.slice none 0 0, .slice none 0 0, .slice none 0 0, .slice (some ⟨q, 0, none⟩) 1 1]) : Ints W (some ⟨p, 0, none⟩) g0.roots ∧ Nodes W (some ⟨r, 0, none⟩) g0.nodes := by
  refine ⟨ints_blk (t := 3) (by exact hp) (by decide), by decide, fun i hi => ⟨_, rfl, ?_⟩⟩
  have hi' : i < 2 := hi
  rw [add_zero_of]
  match i, hi' with
  | 0, _ => exact ⟨none, 0, none, 0, hr.cell 0, hr.cell 1, Ints.nil _, Ints.nil _⟩
  | 1, _ => exact ⟨none, 0, some ⟨q, 0, none⟩, 1, hr.cell 2, hr.cell 3, Ints.nil _, ints_blk (t := 3) (l := [5]) (by exact hq) (by decide)⟩

/-- What stays while alive goes on. -/
structure Alv (w wk : World) (A D A1 D1 : Option Addr) (p b c1 d1 : Nat) : Prop where
  blk : Blk wk p 25 #[.slice A 8 8, .slice D 2 2]
  blk1 : Blk wk b 25 #[.slice A1 8 c1, .slice D1 1 d1]
  g : Ints wk A g0.roots ∧ Nodes wk D g0.nodes
  c : Ints wk A1 c0.roots ∧ Nodes wk D1 c0.nodes
  tab : Tab wk
  low : Below w.heap.size w wk
theorem Alv.below {w wk wl : World} {A D A1 D1 : Option Addr} {p b c1 d1 : Nat} (h : Alv w wk A D A1 D1 p b c1 d1) (hb : Below wk.heap.size wk wl) : Alv w wl A D A1 D1 p b c1 d1 :=
  ⟨h.blk.below hb h.blk.lt, h.blk1.below hb h.blk1.lt, ⟨h.g.1.below hb, h.g.2.below hb⟩, ⟨h.c.1.below hb, h.c.2.below hb⟩, h.tab.below hb, below_then h.low hb⟩
theorem Alv.cells {w wk : World} {A D A1 D1 : Option Addr} {p b c1 d1 : Nat} (h : Alv w wk A D A1 D1 p b c1 d1) :
    wk.cell? ⟨p, 0, none⟩ = some (.slice A 8 8) ∧ wk.cell? ⟨p, 1, none⟩ = some (.slice D 2 2) ∧ wk.cell? ⟨b, 0, none⟩ = some (.slice A1 8 c1) ∧ wk.cell? ⟨b, 1, none⟩ = some (.slice D1 1 d1) :=
  ⟨h.blk.cell 0, h.blk.cell 1, h.blk1.cell 0, h.blk1.cell 1⟩

set_option maxRecDepth 100000 in
set_option maxHeartbeats 4000000 in
theorem alive_any (w : World) (ht : Tab w) :
    Calls Tryz.prog 5 #[] w fun e w' => e = .returned (.bool true) ∧ Below w.heap.size w w' := by
  have HT := Lib.hid ht
  have K1 : ∀ W4, W4 = ((((w.alloc (.cells #[.int .i64 2, .int .i64 0, .int .i64 0, .int .i64 0, .int .i64 0, .int .i64 0, .int .i64 0, .int .i64 0] 3)).alloc (.cells #[.int .i64 5] 3)).alloc (.cells #[.slice none 0 0, .slice none 0 0, .slice none 0 0, .slice (some ⟨w.heap.size + 1, 0, none⟩) 1 1] 45)).alloc
        (.cells #[.slice (some ⟨w.heap.size, 0, none⟩) 8 8, .slice (some ⟨w.heap.size + 1 + 1, 0, none⟩) 2 2] 25)) →
      Calls Tryz.prog 11 #[.agg #[.slice (some ⟨w.heap.size, 0, none⟩) 8 8, .slice (some ⟨w.heap.size + 1 + 1, 0, none⟩) 2 2]] W4 fun e w1 => ∃ A1 c1 D1 d1, e = .returned (.agg #[.slice A1 8 c1, .slice D1 1 d1]) ∧
        Hid (Alv w (w1.alloc (.cells #[.slice A1 8 c1, .slice D1 1 d1] 25)) (some ⟨w.heap.size, 0, none⟩) (some ⟨w.heap.size + 1 + 1, 0, none⟩) A1 D1 (w.heap.size + 1 + 1 + 1) w1.heap.size c1 d1) := by
    intro W4 hW
    have e1 : (w.alloc (.cells #[.int .i64 2, .int .i64 0, .int .i64 0, .int .i64 0, .int .i64 0, .int .i64 0, .int .i64 0, .int .i64 0] 3)).heap.size = w.heap.size + 1 := by simp
    have hb4 : Below w.heap.size w W4 := by
      rw [hW]
      exact below_then (below_then (below_1 _ _) (below_1 _ _)) (below_then (below_1 _ _) (below_1 _ _))
    have h1 : Blk W4 w.heap.size 3 #[.int .i64 2, .int .i64 0, .int .i64 0, .int .i64 0, .int .i64 0, .int .i64 0, .int .i64 0, .int .i64 0] := by
      rw [hW]; exact (((Blk.new w _ _).alloc _).alloc _).alloc _
    have h2 : Blk W4 (w.heap.size + 1) 3 #[.int .i64 5] := by
      rw [hW]
      have := Blk.new (w.alloc (.cells #[.int .i64 2, .int .i64 0, .int .i64 0, .int .i64 0, .int .i64 0, .int .i64 0, .int .i64 0, .int .i64 0] 3)) 3 #[.int .i64 5]
      rw [e1] at this
      exact (this.alloc _).alloc _
    have h3 : Blk W4 (w.heap.size + 1 + 1) 45 #[.slice none 0 0, .slice none 0 0, .slice none 0 0, .slice (some ⟨w.heap.size + 1, 0, none⟩) 1 1] := by
      rw [hW]
      have := Blk.new ((w.alloc (.cells #[.int .i64 2, .int .i64 0, .int .i64 0, .int .i64 0, .int .i64 0, .int .i64 0, .int .i64 0, .int .i64 0] 3)).alloc (.cells #[.int .i64 5] 3)) 45 #[.slice none 0 0, .slice none 0 0, .slice none 0 0, .slice (some ⟨w.heap.size + 1, 0, none⟩) 1 1]
      rw [World.size_alloc, e1] at this
      exact this.alloc _
    have h4 : Blk W4 (w.heap.size + 1 + 1 + 1) 25 #[.slice (some ⟨w.heap.size, 0, none⟩) 8 8, .slice (some ⟨w.heap.size + 1 + 1, 0, none⟩) 2 2] := by
      rw [hW]
      have := Blk.new (((w.alloc (.cells #[.int .i64 2, .int .i64 0, .int .i64 0, .int .i64 0, .int .i64 0, .int .i64 0, .int .i64 0, .int .i64 0] 3)).alloc (.cells #[.int .i64 5] 3)).alloc (.cells #[.slice none 0 0, .slice none 0 0, .slice none 0 0, .slice (some ⟨w.heap.size + 1, 0, none⟩) 1 1] 45))
        25 #[.slice (some ⟨w.heap.size, 0, none⟩) 8 8, .slice (some ⟨w.heap.size + 1 + 1, 0, none⟩) 2 2]
      rw [World.size_alloc, World.size_alloc, e1] at this
      exact this
    have hg := g0_at h1 h2 h3
    refine (canon_any (some ⟨w.heap.size, 0, none⟩) (some ⟨w.heap.size + 1 + 1, 0, none⟩) g0 8 2 W4 g0_right hg.1 hg.2).mono ?_
    rintro e w1 ⟨v, rfl, hV, hb⟩
    have hV' := hV.now
    rw [g0_canon] at hV'
    obtain ⟨A1, c1, D1, d1, rfl, i1, i2⟩ := hV'
    have hb5 : Below W4.heap.size W4 (w1.alloc (.cells #[.slice A1 8 c1, .slice D1 1 d1] 25)) := below_then hb (below_1 _ _)
    have hb6 : Below w.heap.size w (w1.alloc (.cells #[.slice A1 8 c1, .slice D1 1 d1] 25)) := below_then hb4 hb5
    exact ⟨A1, c1, D1, d1, rfl, ⟨h4.below hb5 h4.lt, Blk.new _ _ _, ⟨hg.1.below hb5, hg.2.below hb5⟩, ⟨i1.below (below_1 _ _), i2.below (below_1 _ _)⟩, HT.out.below hb6, hb6⟩⟩
  have HK1 := Lib.hid (K1 _ rfl)
  clear ht K1
  go_enter Tryz.func5, Tryz.ntmps5
  go_wp2_with fail
  refine HK1.out.mono ?_
  rintro e w1 ⟨A1, c1, D1, d1, rfl, HV⟩
  obtain ⟨x1, x2, x3, x4⟩ := HV.out.cells
  go_wp2_with fail
  have k := text_any A1 D1 c0 c1 d1 _ HV.out.c.1 HV.out.c.2 (by decide) (by decide) (by unfold fits; decide) (by unfold ndFits fits; decide) HV.out.tab
  rw [c0_text] at k
  refine k.mono ?_
  rintro e w2 ⟨rfl, hb2⟩
  have HV2 := Lib.hid (HV.out.below hb2)
  clear k hb2 x1 x2 x3 x4
  generalize w.heap.size + 1 + 1 + 1 = p at *
  generalize w1.heap.size = b at *
  generalize (some (⟨w.heap.size, 0, none⟩ : Addr)) = A at *
  generalize (some (⟨w.heap.size + 1 + 1, 0, none⟩ : Addr)) = D at *
  obtain ⟨y1, y2, y3, y4⟩ := HV2.out.cells
  go_wp2_with fail
  have k := same_any A D A1 D1 g0 c0 8 2 c1 d1 w2 HV2.out.g.1 HV2.out.g.2 HV2.out.c.1 HV2.out.c.2
  rw [g0_same] at k
  refine k.mono ?_
  rintro e w3 ⟨rfl, hb3⟩
  have HV3 := Lib.hid (HV2.out.below hb3)
  clear k hb3 y1 y2 y3 y4
  obtain ⟨y1, y2, y3, y4⟩ := HV3.out.cells
  go_wp2_with fail
  have k := alikeg_any A D A1 D1 g0 c0 8 2 c1 d1 w3 HV3.out.g.1 HV3.out.g.2 HV3.out.c.1 HV3.out.c.2
  rw [g0_ne] at k
  refine k.mono ?_
  rintro e w4 ⟨rfl, hb4⟩
  have HV4 := Lib.hid (HV3.out.below hb4)
  clear k hb4 y1 y2 y3 y4
  obtain ⟨y1, y2, y3, y4⟩ := HV4.out.cells
  go_wp2_with fail
  have k := size_any A D g0 8 2 w4 HV4.out.g.1 HV4.out.g.2
  rw [g0_size] at k
  refine k.mono ?_
  rintro e w5 ⟨rfl, hb5⟩
  have HV5 := Lib.hid (HV4.out.below hb5)
  clear k hb5 y1 y2 y3 y4
  obtain ⟨y1, y2, y3, y4⟩ := HV5.out.cells
  go_wp2_with fail
  have k := right_any A D g0 8 2 w5 HV5.out.g.1 HV5.out.g.2
  rw [g0_right] at k
  refine k.mono ?_
  rintro e w6 ⟨rfl, hb6⟩
  have HV6 := Lib.hid (HV5.out.below hb6)
  clear k hb6 y1 y2 y3 y4
  go_wp2
  go_ret
  exact ⟨rfl, HV6.out.low⟩

end Go.Proofs.YtbelbhdhcgpcpaaGreatDoor.Gr
