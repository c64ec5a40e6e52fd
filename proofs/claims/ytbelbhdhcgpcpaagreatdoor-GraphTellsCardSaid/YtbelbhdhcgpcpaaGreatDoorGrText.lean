/- graph.numbers, graph.Text. -/
import Derived.Test.YtbelbhdhcgpcpaaGreatDoorGrTop
import Derived.Test.YtbelbhdhcgpcpaaGreatDoorBuilder
import Derived.WalkSmall
import Derived.Deep.RegionLaw
namespace Go.Proofs.YtbelbhdhcgpcpaaGreatDoor.Gr
open Go.RowKit Go.Proofs.YtbelbhdhcgpcpaaGreatDoor.Base Go.Proofs.YtbelbhdhcgpcpaaGreatDoor.Str
set_option linter.unusedVariables false
set_option linter.unusedSimpArgs false

/-- Numbers as a text, a blank ahead of each. -/
def numsText (l : List Int) : List UInt8 := l.flatMap fun v => 32 :: Lib.itoa v
def ndText (x : Nd) : List UInt8 := 59 :: numsText x.slots ++ 124 :: numsText x.words
def grText (g : Gr) : List UInt8 := 114 :: numsText g.roots ++ g.nodes.flatMap ndText
def fits (l : List Int) : Prop := ∀ v ∈ l, -9223372036854775808 ≤ v ∧ v ≤ 9223372036854775807

theorem numsText_take (l : List Int) (k : Nat) (h : k < l.length) : numsText (l.take (k + 1)) = numsText (l.take k) ++ (32 :: Lib.itoa l[k]) := by
  rw [List.take_succ_eq_append_getElem h, numsText, List.flatMap_append]
  simp [numsText]
theorem numsText_len {l : List Int} (h : fits l) : (numsText l).length ≤ 22 * l.length := by
  induction l with
  | nil => simp [numsText]
  | cons v l ih =>
    have h1 := ih (fun y hy => h y (List.mem_cons_of_mem _ hy))
    have h2 := h v (List.mem_cons_self)
    have h3 := Lib.itoa_length_le v h2.1 h2.2
    simp only [numsText, List.flatMap_cons, List.length_append, List.length_cons] at *
    omega
theorem str_append (l m : List UInt8) : (⟨l.toArray⟩ ++ ⟨m.toArray⟩ : ByteArray) = ⟨(l ++ m).toArray⟩ := by
  apply ByteArray.ext
  simp [ByteArray.data_append]

set_option maxRecDepth 100000 in
set_option maxHeartbeats 2000000 in
theorem numbers_any (A : Option Addr) (l : List Int) (c : Nat) (w : World) (hA : Ints w A l) (hl : l.length ≤ 1000000) (hf : fits l) (ht : Tab w) :
    Calls Tryz.prog 40 #[.slice A l.length c] w fun e w' => e = .returned (.string ⟨(numsText l).toArray⟩) ∧ Below w.heap.size w w' := by
  have HA := Lib.hid hA
  have HF := Lib.hid hf
  have HT := Lib.hid ht
  clear hA hf ht
  go_enter Tryz.func40, Tryz.ntmps40
  go_wp2
  go_loopw [8] (fun i wr => ∃ (k : Nat), k ≤ l.length ∧ i = .int .i64 k ∧ Hid (Bld w.heap.size w.heap.size (numsText (l.take k)) wr) ∧ Hid (Below w.heap.size w wr)) (fun i _ => l.length - (intOf i).toNat)
  case atStart => exact ⟨0, Nat.zero_le _, rfl, Lib.hid (Bld.new _ _ (Nat.le_refl _)), Lib.hid (below_1 _ _)⟩
  case round =>
    obtain ⟨k, hk, rfl, HS, HB⟩ := hrel
    by_cases hlt : k < l.length
    · obtain ⟨ad, rfl, c1⟩ := (HA.out.below HB.out).at_ k hlt
      have hfk := HF.out l[k] (List.getElem_mem hlt)
      have HN := Lib.hid (numsText_take l k hlt)
      have hlen : (numsText (l.take k)).length ≤ 22 * k := by
        have := numsText_len (l := l.take k) (fun v hv => HF.out v (List.mem_of_mem_take hv))
        rw [List.length_take] at this
        omega
      generalize numsText (l.take k) = z at HS HN hlen
      generalize l[k] = a at c1 hfk HN
      obtain ⟨hf1, hf2⟩ := hfk
      have hil := Lib.itoa_length_le a hf1 hf2
      go_wp2_with fail
      refine (itoa_any a hf1 hf2 _ (HT.out.below HB.out)).mono ?_
      rintro e w1 ⟨rfl, hb1⟩
      have HB1 := Lib.hid (below_then HB.out hb1)
      have HS1 := Lib.hid (HS.out.below hb1)
      clear hb1
      generalize hy : Lib.itoa a = y at hil HN
      have HY := Lib.hid hy
      clear hy
      go_wp2_with fail
      rw [show (({ data := #[32] } : ByteArray) ++ { data := y.toArray }) = ⟨(32 :: y).toArray⟩ from str_append [32] y]
      refine (put_any w.heap.size w.heap.size z (32 :: y) w1 HS1.out (by simp only [List.length_cons]; omega) HB1.out.size).mono ?_
      rintro e w2 ⟨rfl, HS2, HB2⟩
      go_wp2
      go_roundw
      case rel =>
        refine ⟨k + 1, by omega, by go_num, ?_, Lib.hid (HB1.out.trans HB2.out)⟩
        rw [HN.out]
        exact HS2
      case measure => simp [intOf]; omega
    · go_wp2_with fail
      have hkl : k = l.length := by omega
      subst hkl
      rw [List.take_length] at HS
      refine (string_any _ _ _ _ HS.out HB.out.size).mono ?_
      rintro e w1 ⟨rfl, hb1⟩
      have HB1 := Lib.hid (HB.out.trans hb1)
      go_wp2_with fail
      go_ret
      exact ⟨rfl, HB1.out⟩

/-- What a node's two lists may hold. -/
def ndFits (x : Nd) : Prop := x.slots.length ≤ 1000 ∧ x.words.length ≤ 1000 ∧ fits x.slots ∧ fits x.words
theorem ndText_len {x : Nd} (h : ndFits x) : (ndText x).length ≤ 50000 := by
  have h1 := numsText_len h.2.2.1
  have h2 := numsText_len h.2.2.2
  have h3 := h.1
  have h4 := h.2.1
  simp only [ndText, List.length_cons, List.length_append]
  omega
theorem grText_take (l : List Nd) (k : Nat) (h : k < l.length) : (l.take (k + 1)).flatMap ndText = (l.take k).flatMap ndText ++ ndText l[k] := by
  rw [List.take_succ_eq_append_getElem h, List.flatMap_append]
  simp
theorem grText_len {l : List Nd} (h : ∀ x ∈ l, ndFits x) : (l.flatMap ndText).length ≤ 50000 * l.length := by
  induction l with
  | nil => simp
  | cons v l ih =>
    have h1 := ih (fun y hy => h y (List.mem_cons_of_mem _ hy))
    have h2 := ndText_len (h v (List.mem_cons_self))
    simp only [List.flatMap_cons, List.length_append, List.length_cons]
    omega

set_option maxRecDepth 100000 in
set_option maxHeartbeats 4000000 in
theorem text_any (A D : Option Addr) (g : Gr) (c d : Nat) (w : World) (hA : Ints w A g.roots) (hD : Nodes w D g.nodes) (hl : g.roots.length ≤ 1000) (hl2 : g.nodes.length ≤ 1000000) (hf : fits g.roots) (hf2 : ∀ x ∈ g.nodes, ndFits x) (ht : Tab w) :
    Calls Tryz.prog 18 #[.agg #[.slice A g.roots.length c, .slice D g.nodes.length d]] w fun e w' => e = .returned (.string ⟨(grText g).toArray⟩) ∧ Below w.heap.size w w' := by
  have HA := Lib.hid hA
  have HD := Lib.hid hD
  have HF := Lib.hid hf
  have HF2 := Lib.hid hf2
  have HT := Lib.hid ht
  have hlr := numsText_len hf
  have HB := Lib.hid (box_zero w #[.slice A g.roots.length c, .slice D g.nodes.length d] 25 (.cells #[.pointer none, .slice none 0 0] 63))
  have HG := Lib.hid ((Blk.new w 25 #[.slice A g.roots.length c, .slice D g.nodes.length d]).alloc (.cells #[.pointer none, .slice none 0 0] 63))
  have hS := Bld.new (w.heap.size + 1) (w.alloc (.cells #[.slice A g.roots.length c, .slice D g.nodes.length d] 25)) (by simp)
  rw [World.size_alloc] at hS
  have HS := Lib.hid hS
  clear hA hD hf hf2 ht hS
  go_enter Tryz.func18, Tryz.ntmps18
  go_wp2_with fail
  refine (numbers_any A g.roots c _ (HA.out.below HB.out) (by omega) HF.out (HT.out.below HB.out)).mono ?_
  rintro e w1 ⟨rfl, hb⟩
  have HB1 := Lib.hid (below_then HB.out hb)
  have HG1 := Lib.hid (HG.out.below hb HG.out.lt)
  have HS1 := Lib.hid (HS.out.below hb)
  clear hb HG HS
  have HR := Lib.hid (show grText g = 114 :: numsText g.roots ++ g.nodes.flatMap ndText from rfl)
  generalize numsText g.roots = z at hlr HR
  go_wp2_with fail
  rw [show (({ data := #[114] } : ByteArray) ++ { data := z.toArray }) = ⟨(114 :: z).toArray⟩ from str_append [114] z]
  have hz1 := HG1.out.lt
  have hz2 : w.heap.size + 1 < w1.heap.size := by rcases HS1.out with h | h <;> exact h.lt
  refine (put_any (w.heap.size + 1) (w.heap.size + 1) [] (114 :: z) w1 HS1.out (by simp only [List.length_cons, List.length_nil]; omega) (by omega)).mono ?_
  rintro e w2 ⟨rfl, HS2, HB2⟩
  have HB3 := Lib.hid (HB1.out.trans (HB2.out.mono (by omega)))
  have HG2 := Lib.hid (HG1.out.below HB2.out (by omega))
  have c1 := HG2.out.cell 1
  simp only [List.getElem?_toArray, List.getElem?_cons_zero, List.getElem?_cons_succ] at c1
  have hz3 := HG2.out.lt
  have hz4 := HB2.out.size
  go_wp2_with fail
  go_loopw [14] (fun i wr => ∃ (k : Nat), k ≤ g.nodes.length ∧ i = .int .i64 k ∧ Hid (Bld (w.heap.size + 1) (w.heap.size + 1) (114 :: z ++ (g.nodes.take k).flatMap ndText) wr) ∧ Hid (Below w.heap.size w wr) ∧ Hid (w.heap.size + 1 < wr.heap.size)) (fun i _ => g.nodes.length - (intOf i).toNat)
  case atStart => exact ⟨0, Nat.zero_le _, rfl, Lib.hid (by simpa using HS2.out), HB3, Lib.hid (by omega)⟩
  case round =>
    obtain ⟨k, hk, rfl, HS, HB', HZ⟩ := hrel
    by_cases hlt : k < g.nodes.length
    · obtain ⟨dd, As, cs, Bs, ds, rfl, d2, d3, i1, i2⟩ := nds_at (HD.out.below HB'.out) k hlt
      have hxk := HF2.out g.nodes[k] (List.getElem_mem hlt)
      have HN := Lib.hid (grText_take g.nodes k hlt)
      have hlen : ((g.nodes.take k).flatMap ndText).length ≤ 50000 * k := by
        have := grText_len (l := g.nodes.take k) (fun v hv => HF2.out v (List.mem_of_mem_take hv))
        rw [List.length_take] at this
        omega
      generalize (g.nodes.take k).flatMap ndText = q at HS HN hlen
      have hxl := ndText_len hxk
      have hy1 : (numsText g.nodes[k].slots).length ≤ 22000 := by have := numsText_len hxk.2.2.1; have := hxk.1; omega
      have hy2 : (numsText g.nodes[k].words).length ≤ 22000 := by have := numsText_len hxk.2.2.2; have := hxk.2.1; omega
      have hxt : ndText g.nodes[k] = 59 :: numsText g.nodes[k].slots ++ 124 :: numsText g.nodes[k].words := rfl
      generalize g.nodes[k] = x at d2 d3 i1 i2 hxk HN hxl hy1 hy2 hxt
      have HX := Lib.hid hxk
      have hx1 := hxk.1
      have hx2 := hxk.2.1
      have HB4 := Lib.hid (show Below wr.heap.size wr (wr.alloc (.cells #[.slice As x.slots.length cs, .slice Bs x.words.length ds] 45)) from below_1 _ _)
      have HX4 := Lib.hid (Blk.new wr 45 #[.slice As x.slots.length cs, .slice Bs x.words.length ds])
      generalize hW0 : wr.alloc (.cells #[.slice As x.slots.length cs, .slice Bs x.words.length ds] 45) = W0 at HB4 HX4
      have h01 : W0.heap.size = wr.heap.size + 1 := by rw [← hW0]; simp
      have h0 : ∀ W', Below (wr.heap.size + 1) W0 W' → Below w.heap.size w W' := fun W' hb => HB'.out.trans ((HB4.out.trans (hb.mono (by omega))).mono HB'.out.size)
      have h2 : ∀ W', Below (wr.heap.size + 1) W0 W' → W'.cell? ⟨wr.heap.size, 0, none⟩ = some (.slice As x.slots.length cs) ∧ W'.cell? ⟨wr.heap.size, 1, none⟩ = some (.slice Bs x.words.length ds) := fun W' hb => by
        have h := HX4.out.below hb (by omega)
        have e0 := h.cell 0
        have e1 := h.cell 1
        simp only [List.getElem?_toArray, List.getElem?_cons_zero, List.getElem?_cons_succ] at e0 e1
        exact ⟨e0, e1⟩
      have hi1 : ∀ W', Below (wr.heap.size + 1) W0 W' → Ints W' As x.slots := fun W' hb => (i1.below HB4.out).below (hb.mono (by omega))
      have hi2 : ∀ W', Below (wr.heap.size + 1) W0 W' → Ints W' Bs x.words := fun W' hb => (i2.below HB4.out).below (hb.mono (by omega))
      have K1 : ∀ W', Below (wr.heap.size + 1) W0 W' → Calls Tryz.prog 40 #[.slice As x.slots.length cs] W' fun e w' => e = .returned (.string ⟨(numsText x.slots).toArray⟩) ∧
          w'.cell? ⟨wr.heap.size, 0, none⟩ = some (.slice As x.slots.length cs) ∧ w'.cell? ⟨wr.heap.size, 1, none⟩ = some (.slice Bs x.words.length ds) ∧ Hid (Below (wr.heap.size + 1) W0 w') := by
        intro W' hb
        refine (numbers_any As x.slots cs W' (hi1 _ hb) (by omega) HX.out.2.2.1 (HT.out.below (h0 _ hb))).mono ?_
        rintro e w' ⟨rfl, hb'⟩
        have hb2 := hb.trans (hb'.mono (by have := hb.size; omega))
        exact ⟨rfl, (h2 _ hb2).1, (h2 _ hb2).2, hb2⟩
      have K2 : ∀ W', Below (wr.heap.size + 1) W0 W' → Calls Tryz.prog 40 #[.slice Bs x.words.length ds] W' fun e w' => e = .returned (.string ⟨(numsText x.words).toArray⟩) ∧
          w'.cell? ⟨wr.heap.size, 0, none⟩ = some (.slice As x.slots.length cs) ∧ w'.cell? ⟨wr.heap.size, 1, none⟩ = some (.slice Bs x.words.length ds) ∧ Hid (Below (wr.heap.size + 1) W0 w') := by
        intro W' hb
        refine (numbers_any Bs x.words ds W' (hi2 _ hb) (by omega) HX.out.2.2.2 (HT.out.below (h0 _ hb))).mono ?_
        rintro e w' ⟨rfl, hb'⟩
        have hb2 := hb.trans (hb'.mono (by have := hb.size; omega))
        exact ⟨rfl, (h2 _ hb2).1, (h2 _ hb2).2, hb2⟩
      have K3 : ∀ W', Below (wr.heap.size + 1) W0 W' → Calls Tryz.prog 39 #[.pointer (some ⟨w.heap.size + 1, 0, none⟩), .string ((({ data := #[59] } ++ { data := (numsText x.slots).toArray }) ++ { data := #[124] }) ++ { data := (numsText x.words).toArray })] W' fun e w' =>
          (∃ n : Int, e = .returned (.tuple #[.int .i64 n, .nilIface])) ∧ Hid (Bld (w.heap.size + 1) (w.heap.size + 1) (114 :: z ++ (q ++ ndText x)) w') ∧ Hid (Below w.heap.size w w') ∧ Hid (w.heap.size + 1 < w'.heap.size) := by
        intro W' hb
        rw [show ((({ data := #[59] } ++ { data := (numsText x.slots).toArray }) ++ { data := #[124] }) ++ { data := (numsText x.words).toArray } : ByteArray) = ⟨(ndText x).toArray⟩ by
          rw [show (({ data := #[59] } : ByteArray) ++ { data := (numsText x.slots).toArray }) = ⟨(59 :: numsText x.slots).toArray⟩ from str_append [59] _,
            show (({ data := (59 :: numsText x.slots).toArray } : ByteArray) ++ { data := #[124] }) = ⟨((59 :: numsText x.slots) ++ [124]).toArray⟩ from str_append _ [124], str_append, hxt]
          simp]
        have hS := HS.out.below (HB4.out.trans (hb.mono (by omega)))
        have hzz := HZ.out
        have hsz := hb.size
        refine (put_any (w.heap.size + 1) (w.heap.size + 1) (114 :: z ++ q) (ndText x) W' hS (by simp only [List.length_cons, List.length_append]; omega) (by omega)).mono ?_
        rintro e w' ⟨rfl, h3, h4⟩
        refine ⟨⟨_, rfl⟩, ?_, (h0 _ hb).trans (h4.out.mono (by omega)), Lib.hid (by have := h4.out.size; omega)⟩
        rw [List.append_assoc] at h3
        exact h3
      have b0 : Below (wr.heap.size + 1) W0 W0 := Below.refl _ _
      obtain ⟨a1, a2⟩ := h2 W0 b0
      have HK1 := Lib.hid K1
      have HK2 := Lib.hid K2
      have HK3 := Lib.hid K3
      have HH2 := Lib.hid h2
      have HB0 := Lib.hid b0
      subst hW0
      clear K1 K2 K3 h2 h0 hi1 hi2 i1 i2 hxt b0 h01
      generalize hg1 : numsText x.slots = y1 at hy1 HK1 HK3
      generalize hg2 : numsText x.words = y2 at hy2 HK2 HK3
      clear hg1 hg2 hxl hxk
      generalize x.slots.length = xl at *
      generalize x.words.length = xm at *
      have q1 : ¬ 9223372036854775807 < 1 + y1.length := by omega
      have q2 : ¬ 9223372036854775807 < 1 + y1.length + 1 := by omega
      have q3 : ¬ 9223372036854775807 < 1 + y1.length + 1 + y2.length := by omega
      go_wp2_with fail
      go_region_law (first
        | ((try go_simp)
           go_at_call 39
           revert HB6; intro HB6
           refine (HK3.out _ ?_).mono ?_
           (first | exact HB6.out | exact HB6.out.drew | exact HB6.out.drew.drew | exact HB6.out.drew.drew.drew | exact HB6.out.drew.drew.drew.drew)
           rintro e w5 ⟨⟨n3, rfl⟩, HS3, HB3, HZ3⟩)
        | ((try go_simp)
           go_at_call 40
           revert HB5; intro HB5
           refine (HK2.out _ ?_).mono ?_
           (first | exact HB5.out | exact HB5.out.drew | exact HB5.out.drew.drew | exact HB5.out.drew.drew.drew | exact HB5.out.drew.drew.drew.drew)
           rintro e w4 ⟨rfl, e3, e4, HB6⟩)
        | ((try go_simp)
           go_at_call 40
           refine (HK1.out _ ?_).mono ?_
           (first | exact HB0.out | exact HB0.out.drew | exact HB0.out.drew.drew | exact HB0.out.drew.drew.drew | exact HB0.out.drew.drew.drew.drew)
           rintro e w3 ⟨rfl, e1, e2, HB5⟩))
      all_goals
        go_wp2
        go_roundw
        case rel =>
          refine ⟨k + 1, by omega, by go_num, ?_, HB3, HZ3⟩
          rw [HN.out]
          exact HS3
        case measure => simp [intOf]; omega
    · go_wp2_with fail
      have hkl : k = g.nodes.length := by omega
      subst hkl
      rw [List.take_length, ← HR.out] at HS
      refine (string_any _ _ _ _ HS.out (by have := HZ.out; omega)).mono ?_
      rintro e w1 ⟨rfl, hb1⟩
      have HB1 := Lib.hid (HB'.out.trans (hb1.mono (by omega)))
      go_wp2_with fail
      go_ret
      exact ⟨rfl, HB1.out⟩

end Go.Proofs.YtbelbhdhcgpcpaaGreatDoor.Gr
