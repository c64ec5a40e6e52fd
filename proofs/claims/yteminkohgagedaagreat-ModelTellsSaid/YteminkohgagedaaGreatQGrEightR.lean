/- What Eight gives may be. -/
import Derived.Test.YteminkohgagedaaGreatQGrNum
import Derived.IntWalk
import Derived.Deep.RegionLaw
import Derived.Test.YteminkohgagedaaGreatQMoMem
namespace Go.Proofs.YteminkohgagedaaGreat.Gr
open Go.RowKit Go.Proofs.YteminkohgagedaaGreat.Base
set_option linter.unusedVariables false
set_option linter.unusedSimpArgs false

theorem place_eq (v : Int) (n : Nat) : (v.tmod ((n : Int) + 1) + n + 1) % ((n : Int) + 1) = v % ((n : Int) + 1) := by
  have h2 : v.tmod ((n : Int) + 1) + n + 1 = v.tmod ((n : Int) + 1) + ((n : Int) + 1) := by omega
  rw [h2, Int.add_emod_right, Int.tmod_eq_emod]
  split
  · simp
  · have : ((((n : Int) + 1).natAbs : Nat) : Int) = (n : Int) + 1 := by omega
    rw [this, Int.sub_emod, Int.emod_self]
    simp

theorem place_any (v : Int) (n : Nat) (w : World) (hn : n ≤ 1000000) :
    Calls Tryz.prog 21 #[.int .i64 v, .int .i64 n] w fun e w' => e = .returned (.int .i64 (v % ((n : Int) + 1))) ∧ w' = w := by
  have hp : (0 : Int) < (n : Int) + 1 := by omega
  have h1 : -((n : Int) + 1) < v.tmod ((n : Int) + 1) := Int.lt_tmod_of_pos v hp
  have h2 : v.tmod ((n : Int) + 1) < (n : Int) + 1 := Int.tmod_lt_of_pos v hp
  have h3 : ((n : Int) + 1 == 0) = false := beq_eq_false_iff_ne.mpr (by omega)
  have HE := Lib.hid (place_eq v n)
  go_enter Tryz.func21, Tryz.ntmps21
  go_wp2
  go_ret
  refine ⟨?_, rfl⟩
  rw [← HE.out]
  rfl

/-- Small enough. -/
def Small (g : Gr) : Prop := g.nodes.length ≤ 60 ∧ g.roots.length ≤ 20 ∧ ∀ x ∈ g.nodes, x.slots.length ≤ 30 ∧ x.words.length ≤ 60
def LightOut (e : Ending) (g : Gr) : Prop := ∃ b, e = .returned (.bool b) ∧ (b = true → Small g)
theorem LightOut.no {e : Ending} {g : Gr} (h : e = .returned (.bool false)) : LightOut e g := ⟨false, h, fun h => by cases h⟩
theorem LightOut.yes {e : Ending} {g : Gr} (h : e = .returned (.bool true)) (hs : Small g) : LightOut e g := ⟨true, h, fun _ => hs⟩

set_option maxRecDepth 100000 in
set_option maxHeartbeats 4000000 in
theorem light_any (A D : Option Addr) (g : Gr) (a d : Nat) (w : World) (hA : Ints w A g.roots) (hD : Nodes w D g.nodes) :
    Calls Tryz.prog 4 #[.agg #[.slice A g.roots.length a, .slice D g.nodes.length d]] w fun e w' => LightOut e g ∧ Below w.heap.size w w' := by
  have hal := hA.2
  have hdl := hD.1
  have HD := Lib.hid hD
  have HG := Lib.hid (Blk.new w 25 #[.slice A g.roots.length a, .slice D g.nodes.length d])
  have c0 := HG.out.cell 0
  have c1 := HG.out.cell 1
  simp only [List.getElem?_toArray, List.getElem?_cons_zero, List.getElem?_cons_succ] at c0 c1
  have HB := Lib.hid (below_1 w (.cells #[.slice A g.roots.length a, .slice D g.nodes.length d] 25))
  clear hA hD c0 c1
  go_enter Tryz.func4, Tryz.ntmps4
  go_wp2
  go_loopw [3] (fun i wr => ∃ (k : Nat), k ≤ g.nodes.length ∧ k ≤ 100 ∧ i = .int .i64 k ∧ wr = w.alloc (.cells #[.slice A g.roots.length a, .slice D g.nodes.length d] 25) ∧ Hid (∀ j, (h : j < g.nodes.length) → j < k → g.nodes[j].slots.length ≤ 30 ∧ g.nodes[j].words.length ≤ 60)) (fun i _ => g.nodes.length - (intOf i).toNat)
  case atStart => exact ⟨0, Nat.zero_le _, by omega, rfl, rfl, Lib.hid (fun j h hj => absurd hj (by omega))⟩
  case round =>
    obtain ⟨k, hk, hk2, rfl, rfl, HS⟩ := hrel
    by_cases hlt : k < g.nodes.length
    · by_cases hlt2 : k < 100
      · obtain ⟨dd, As, cs, Bs, ds, rfl, d2', d3', i1, i2⟩ := nds_at HD.out k hlt
        have d2 := (HB.out.cell (cell_lt d2')).trans d2'
        have d3 := (HB.out.cell (cell_lt d3')).trans d3'
        have HN : Hid (∀ (b : Prop), (g.nodes[k].slots.length ≤ 30 ∧ g.nodes[k].words.length ≤ 60) → ∀ j, (h : j < g.nodes.length) → j < k + 1 → g.nodes[j].slots.length ≤ 30 ∧ g.nodes[j].words.length ≤ 60) := by
          intro _ hb j h hj
          rcases Nat.lt_or_ge j k with h1 | h1
          · exact HS.out j h h1
          · have : j = k := by omega
            subst this
            exact hb
        have z1 := i1.2
        have z2 := i2.2
        generalize g.nodes[k] = x at d2 d3 HN z1 z2
        generalize x.slots.length = sl at d2 HN z1
        generalize x.words.length = wl at d3 HN z2
        clear d2' d3' i1 i2
        by_cases h1 : sl ≤ 30
        · by_cases h2 : wl ≤ 60
          · have d100 : decide ((k : Int) < 100) = true := decide_eq_true (by omega)
            go_wp2
            go_roundw
            case rel => exact ⟨k + 1, by omega, by omega, by go_num, trivial, Lib.hid (HN.out True ⟨h1, h2⟩)⟩
            case measure => simp [intOf]; omega
          · have d100 : decide ((k : Int) < 100) = true := decide_eq_true (by omega)
            go_wp2
            go_ret
            exact ⟨LightOut.no rfl, HB.out⟩
        · have d100 : decide ((k : Int) < 100) = true := decide_eq_true (by omega)
          go_wp2
          go_ret
          exact ⟨LightOut.no rfl, HB.out⟩
      · by_cases h3 : g.nodes.length ≤ 60
        · omega
        · have d100 : decide ((k : Int) < 100) = false := decide_eq_false (by omega)
          go_wp2
          go_ret
          exact ⟨LightOut.no rfl, HB.out⟩
    · have hkl : k = g.nodes.length := by omega
      by_cases h3 : g.nodes.length ≤ 60
      · by_cases h4 : g.roots.length ≤ 20
        · go_wp2
          go_ret
          refine ⟨LightOut.yes (ret_bool (decide_eq_true (by omega))) ⟨h3, h4, fun x hx => ?_⟩, HB.out⟩
          obtain ⟨j, hj, rfl⟩ := List.getElem_of_mem hx
          exact HS.out j hj (by omega)
        · go_wp2
          go_ret
          exact ⟨LightOut.no (ret_bool (decide_eq_false (by omega))), HB.out⟩
      · go_wp2
        go_ret
        exact ⟨LightOut.no rfl, HB.out⟩

end Go.Proofs.YteminkohgagedaaGreat.Gr
namespace Go.Proofs.YteminkohgagedaaGreat.Gr
open Go.RowKit Go.Proofs.YteminkohgagedaaGreat.Base
set_option linter.unusedVariables false
set_option linter.unusedSimpArgs false

def placeI (n : Nat) (v : Int) : Int := v % ((n : Int) + 1)
def wordI (v : Int) : Int := v % 4294967296
theorem bits_word (v : Int) : bits .and .i64 v 4294967295 = wordI v := by
  unfold bits wordI
  have h1 : ((BitVec.ofInt IntKind.i64.bits v &&& BitVec.ofInt IntKind.i64.bits 4294967295).toNat : Int) = v % 4294967296 := by
    have h64 : IntKind.i64.bits = 64 := rfl
    rw [h64, BitVec.toNat_and]
    have e : (BitVec.ofInt 64 4294967295).toNat = 2 ^ 32 - 1 := by decide
    rw [e, Nat.and_two_pow_sub_one_eq_mod, BitVec.toNat_ofInt]
    omega
  simp only [h1]
  exact IntWalk.i64_in _ (by omega)
def rts (g : Gr) (n k : Nat) : List Int := (List.range 8).map fun i => if i < k then placeI n (g.roots.getD i 0) else 0
def eightNd (n : Nat) (x : Nd) : Nd := ⟨(x.slots.take 15).map (placeI n), (x.words.take 30).map wordI⟩
def eight (g : Gr) : Gr := ⟨rts g g.nodes.length (min g.roots.length 8), g.nodes.map (eightNd g.nodes.length)⟩
theorem rts_len (g : Gr) (n k : Nat) : (rts g n k).length = 8 := by simp [rts]
theorem rts_zero (g : Gr) (n : Nat) : (enc ic (rts g n 0)).toArray = (List.replicate 8 (Value.int .i64 0)).toArray := by
  rw [enc_ic]
  simp [rts, List.replicate, List.range_succ]
theorem rts_set (g : Gr) (n k : Nat) (hk : k < g.roots.length) (h8 : k < 8) : (enc ic (rts g n k)).toArray.setIfInBounds k (.int .i64 (placeI n g.roots[k])) = (enc ic (rts g n (k + 1))).toArray := by
  rw [enc_ic, enc_ic]
  apply Array.ext
  · simp [rts]
  · intro i h1 h2
    have hi : i < 8 := by simpa [rts] using h2
    rw [Array.getElem_setIfInBounds (by simpa [rts] using hi)]
    simp only [rts, List.getElem_toArray, List.getElem_map, List.getElem_range]
    by_cases e : k = i
    · subst e
      simp [hk]
    · by_cases hlt : i < k
      · have h3 : i < k + 1 := by omega
        simp [e, hlt, h3]
      · have h3 : ¬ i < k + 1 := by omega
        simp [e, hlt, h3]

theorem take_min {α : Type} {l : List α} {j n : Nat} (h : j = min l.length n) : l.take n = l.take j := by
  subst h
  rw [List.take_eq_take_iff]
  omega

set_option maxRecDepth 100000 in
set_option maxHeartbeats 8000000 in
theorem eight_any (A D : Option Addr) (g : Gr) (a d : Nat) (w : World) (hs : Small g) (hA : Ints w A g.roots) (hD : Nodes w D g.nodes) :
    Calls Tryz.prog 6 #[.agg #[.slice A g.roots.length a, .slice D g.nodes.length d]] w fun e w' => ∃ v, e = .returned v ∧ Firm w.heap.size w' v (eight g) ∧ Below w.heap.size w w' := by
  have hs1 := hs.1
  have hs2 := hs.2.1
  have HS3 := Lib.hid hs.2.2
  have HA := Lib.hid hA
  have HD := Lib.hid hD
  obtain ⟨i0, hi0, hz01, hz02, hz03⟩ := info_parts1 intInfo
  obtain ⟨i1, hi1, hz11, hz12, hz13⟩ := info_parts1 nodeInfo
  have hmk := make_ints 8 (by omega)
  rw [show ((8 : Nat) : Int) = 8 from rfl] at hmk
  have hW4 : ∀ W4, W4 = (((w.alloc (.cells #[.slice A g.roots.length a, .slice D g.nodes.length d] 25)).alloc (.cells #[.slice none 0 0, .slice none 0 0] 25)).alloc (.cells #[.int .i64 0, .int .i64 0, .int .i64 0, .int .i64 0, .int .i64 0, .int .i64 0, .int .i64 0, .int .i64 0] 3)).alloc (.cells #[.slice (some ⟨w.heap.size + 1 + 1, 0, none⟩) 8 8, .slice none 0 0] 25) →
      Hid (Blk W4 w.heap.size 25 #[.slice A g.roots.length a, .slice D g.nodes.length d]) ∧ Hid (Blk W4 (w.heap.size + 1) 25 #[.slice none 0 0, .slice none 0 0]) ∧
      Hid (Blk W4 (w.heap.size + 1 + 1) 3 (enc ic (rts g g.nodes.length 0)).toArray) ∧ Hid (Blk W4 (w.heap.size + 1 + 1 + 1) 25 #[.slice (some ⟨w.heap.size + 1 + 1, 0, none⟩) 8 8, .slice none 0 0]) ∧ Hid (Below w.heap.size w W4) := by
    intro W4 hW
    have h2 := Blk.new (w.alloc (.cells #[.slice A g.roots.length a, .slice D g.nodes.length d] 25)) 25 #[.slice none 0 0, .slice none 0 0]
    have h3 := Blk.new ((w.alloc (.cells #[.slice A g.roots.length a, .slice D g.nodes.length d] 25)).alloc (.cells #[.slice none 0 0, .slice none 0 0] 25)) 3 (List.replicate 8 (Value.int .i64 0)).toArray
    have h4 := Blk.new (((w.alloc (.cells #[.slice A g.roots.length a, .slice D g.nodes.length d] 25)).alloc (.cells #[.slice none 0 0, .slice none 0 0] 25)).alloc (.cells #[.int .i64 0, .int .i64 0, .int .i64 0, .int .i64 0, .int .i64 0, .int .i64 0, .int .i64 0, .int .i64 0] 3)) 25 #[.slice (some ⟨w.heap.size + 1 + 1, 0, none⟩) 8 8, .slice none 0 0]
    simp only [World.size_alloc] at h2 h3 h4
    rw [hW, rts_zero]
    refine ⟨(((Blk.new w _ _).alloc _).alloc _).alloc _, (h2.alloc _).alloc _, h3.alloc _, h4, below_then (below_then (below_1 _ _) (below_1 _ _)) (below_then (below_1 _ _) (below_1 _ _))⟩
  have HW4 := Lib.hid hW4
  clear hs hA hD hW4
  go_enter Tryz.func6, Tryz.ntmps6
  go_upto_block 0 with fail
  go_cut [] (fun wx => Hid (Blk wx w.heap.size 25 #[.slice A g.roots.length a, .slice D g.nodes.length d]) ∧ Hid (Blk wx (w.heap.size + 1) 25 #[.slice none 0 0, .slice none 0 0]) ∧
      Hid (Blk wx (w.heap.size + 1 + 1) 3 (enc ic (eight g).roots).toArray) ∧ Hid (Blk wx (w.heap.size + 1 + 1 + 1) 25 #[.slice (some ⟨w.heap.size + 1 + 1, 0, none⟩) 8 8, .slice none 0 0]) ∧ Hid (Below w.heap.size w wx))
  case first =>
    go_wp2_with fail
    go_loopw [5] (fun i wr => ∃ (k : Nat), k ≤ g.roots.length ∧ k ≤ 8 ∧ i = .int .i64 k ∧ Hid (Blk wr w.heap.size 25 #[.slice A g.roots.length a, .slice D g.nodes.length d]) ∧ Hid (Blk wr (w.heap.size + 1) 25 #[.slice none 0 0, .slice none 0 0]) ∧
        Hid (Blk wr (w.heap.size + 1 + 1) 3 (enc ic (rts g g.nodes.length k)).toArray) ∧ Hid (Blk wr (w.heap.size + 1 + 1 + 1) 25 #[.slice (some ⟨w.heap.size + 1 + 1, 0, none⟩) 8 8, .slice none 0 0]) ∧ Hid (Below w.heap.size w wr))
      (fun i _ => g.roots.length - (intOf i).toNat)
    case atStart =>
      obtain ⟨s1, s2, s3, s4, s5⟩ := HW4.out _ rfl
      exact ⟨0, Nat.zero_le _, by omega, rfl, s1, s2, s3, s4, s5⟩
    case round =>
      obtain ⟨k, hk, hk8, rfl, H1, H2, HK, HX, HB⟩ := hrel
      have x0 := HX.out.cell 0
      have x1 := HX.out.cell 1
      have b0 := H1.out.cell 0
      have b1 := H1.out.cell 1
      simp only [List.getElem?_toArray, List.getElem?_cons_zero, List.getElem?_cons_succ] at x0 x1 b0 b1
      have hzx := HX.out.lt
      have hzk := HK.out.lt
      by_cases hgo : k < g.roots.length ∧ k < 8
      · obtain ⟨hlt, hlt8⟩ := hgo
        obtain ⟨ad, rfl, d1⟩ := (HA.out.below HB.out).at_ k hlt
        have HS := Lib.hid (rts_set g g.nodes.length k hlt hlt8)
        have hks : k < (enc ic (rts g g.nodes.length k)).toArray.size := by simp [enc_ic, rts_len, hlt8]
        have hkf := HK.out.frozen k
        obtain ⟨x, hx⟩ : ∃ x, wr.cell? ⟨w.heap.size + 1 + 1, k, none⟩ = some x := ⟨_, (HK.out.cell k).trans (Array.getElem?_eq_getElem hks)⟩
        generalize g.roots[k] = v at d1 HS
        have z1 := cell_lt d1
        have p8 : (k : Int) < 8 := by omega
        clear hks
        go_wp2
        go_region_law (
          ((try go_simp)
           go_at_call 21
           refine (place_any v g.nodes.length _ (by omega)).mono ?_
           rintro e w3 ⟨rfl, rfl⟩))
        all_goals
          go_wp2
          go_roundw
          case rel =>
            refine ⟨k + 1, by omega, by omega, by go_num, (H1.out.far (by simp; omega) _).drewN 1, (H2.out.far (by simp) _).drewN 1, ?_, (HX.out.far (by simp) _).drewN 1, (HB.out.setCell (by simp; omega) _).drew⟩
            rw [← HS.out]
            exact (HK.out.set_ _ _).drewN 1
          case measure => simp [intOf]; omega
      · have hkl : k = min g.roots.length 8 := by omega
        have hcase : (k < g.roots.length ∧ decide ((k : Int) < 8) = false) ∨ ¬ k < g.roots.length := by
          by_cases h : k < g.roots.length
          · exact .inl ⟨h, decide_eq_false (by omega)⟩
          · exact .inr h
        have HK8 : Hid (Blk wr (w.heap.size + 1 + 1) 3 (enc ic (eight g).roots).toArray) := by
          subst hkl; exact HK
        clear hgo hkl
        rcases hcase with ⟨hlt, p8⟩ | hlt
        all_goals
          go_wp2_with fail
          go_meet
          exact ⟨H1, H2, HK8, HX, HB⟩
  case rest =>
    obtain ⟨H1, H2, HK, HX, HB⟩ := hcut
    have hzk := HK.out.lt
    go_wp2
    go_loopg [6] g.nodes.length (fun gl i wr => ∃ (k : Nat) (vN : Value) (xs : List Value), k ≤ g.nodes.length ∧ gl = g.nodes.length - k ∧ i = .int .i64 k ∧ Hid (Blk wr w.heap.size 25 #[.slice A g.roots.length a, .slice D g.nodes.length d]) ∧ Hid (Blk wr (w.heap.size + 1) 25 #[.slice none 0 0, .slice none 0 0]) ∧
        Hid (CInts wr (fun b => b = w.heap.size + 1 + 1 + 1 ∨ vN.ownBlock = some b) (w.heap.size + 1 + 1) (some ⟨w.heap.size + 1 + 1, 0, none⟩) (eight g).roots) ∧
        Hid (Blk wr (w.heap.size + 1 + 1 + 1) 25 #[.slice (some ⟨w.heap.size + 1 + 1, 0, none⟩) 8 8, vN]) ∧
        Hid (NdRow wr (fun b => b = w.heap.size + 1 + 1 + 1 ∨ vN.ownBlock = some b) (w.heap.size + 1 + 1) vN xs ((g.nodes.take k).map (eightNd g.nodes.length))) ∧ Hid (Below w.heap.size w wr))
    case atStart =>
      refine ⟨0, .slice none 0 0, [], Nat.zero_le _, by omega, rfl, H1, H2, ?_, HX, Lib.hid (NdRow.nil _ _ _), HB⟩
      refine ⟨ints_blk HK.out (by show (rts _ _ _).length ≤ _; rw [rts_len]; omega), ?_⟩
      intro ad e _
      injection e with e
      subst e
      exact ⟨Nat.le_refl _, hzk, by simp [Value.ownBlock]⟩
    case round =>
      clear hzk HX HK H1 H2 HB
      obtain ⟨wq, hwq⟩ : ∃ wq, wq = wr := ⟨_, rfl⟩
      obtain ⟨k, vN, xs, hk, rfl, rfl, H1, H2, HR, HX, HN, HB⟩ := hrel
      subst hwq
      have b1 := H1.out.cell 1
      simp only [List.getElem?_toArray, List.getElem?_cons_zero, List.getElem?_cons_succ] at b1
      have HB1' := Lib.hid b1
      have zp := H1.out.lt
      have hown : wq.ownsRow (w.heap.size + 1 + 1) 55 2 vN k xs := by
        have := HN.out.own
        rwa [show ((g.nodes.take k).map (eightNd g.nodes.length)).length = k by rw [List.length_map, List.length_take]; omega] at this
      obtain ⟨AN, cN, rfl, hcN⟩ := own_form hown
      have HOwn := Lib.hid hown
      clear hown
      by_cases hlt : k < g.nodes.length
      · obtain ⟨dd, As, cs, Bs, ds, rfl, d2, d3, i1, i2⟩ := nds_at (HD.out.below HB.out) k hlt
        have hx := HS3.out g.nodes[k] (List.getElem_mem hlt)
        have HT := Lib.hid (List.take_succ_eq_append_getElem hlt)
        generalize g.nodes[k] = x at d2 d3 i1 i2 HT hx
        have z2 := cell_lt d2
        have z3 := cell_lt d3
        have HD2 := Lib.hid d2
        have HD3 := Lib.hid d3
        have HI1 := Lib.hid i1
        have HI2 := Lib.hid i2
        have hx1 := hx.1
        have hx2 := hx.2
        have HNY := Lib.hid (Blk.new wq 55 #[.slice none 0 0, .slice none 0 0])
        clear i1 i2 hx
        go_upto_block 4 with fail
        go_cut [] (fun wx => ∃ (AS : Option Addr) (cS : Nat), Hid (Blk wx wq.heap.size 55 #[.slice AS (eightNd g.nodes.length x).slots.length cS, .slice none 0 0]) ∧
            Hid (wx.ownsRow wq.heap.size 3 1 (.slice AS (eightNd g.nodes.length x).slots.length cS) (eightNd g.nodes.length x).slots.length (enc ic (eightNd g.nodes.length x).slots)) ∧ Hid (Below wq.heap.size wq wx))
        case first =>
          go_wp2_with fail
          go_loopw [8] (fun i wr => ∃ (j : Nat) (vS : Value), j ≤ x.slots.length ∧ j ≤ 15 ∧ i = .int .i64 j ∧ Hid (Blk wr wq.heap.size 55 #[vS, .slice none 0 0]) ∧
              Hid (wr.ownsRow wq.heap.size 3 1 vS j (enc ic ((x.slots.take j).map (placeI g.nodes.length)))) ∧ Hid (Below wq.heap.size wq wr)) (fun i _ => x.slots.length - (intOf i).toNat)
          case atStart => exact ⟨0, .slice none 0 0, Nat.zero_le _, by omega, rfl, HNY, Lib.hid (own_nil _ _ _ _), Lib.hid (below_1 _ _)⟩
          case round =>
            obtain ⟨j, vS, hj, hj15, rfl, HY, HS, HBi⟩ := hrel
            have y0 := HY.out.cell 0
            have y1 := HY.out.frozen 0
            simp only [List.getElem?_toArray, List.getElem?_cons_zero, List.getElem?_cons_succ] at y0
            have zy := HY.out.lt
            have e1 := (HBi.out.cell (p := ⟨w.heap.size, 1, none⟩) zp).trans b1
            have e2 := (HBi.out.cell z2).trans d2
            have e3 := (HBi.out.cell (p := ⟨(dd.add (k * 2)).block, (dd.add (k * 2)).off + 1, none⟩) z3).trans d3
            have z1 := HBi.out.size
            clear b1 d2 d3
            by_cases hgo : j < x.slots.length ∧ j < 15
            · obtain ⟨hjl, hj8⟩ := hgo
              obtain ⟨AS, cS, rfl, hcS⟩ := own_form HS.out
              obtain ⟨ad, rfl, d1⟩ := (HI1.out.below HBi.out).at_ j hjl
              have HTs := Lib.hid (List.take_succ_eq_append_getElem hjl)
              generalize x.slots[j] = v at d1 HTs
              have hz4 := cell_lt d1
              have p8 : (j : Int) < 15 := by omega
              have HNS := Lib.hid (own_blk_ne HS.out HY.out (by decide))
              have HNB := Lib.hid (show ∀ b, (Value.slice AS j cS).ownBlock = some b → b < wq.heap.size → False from fun b e hb => by have := (own_block HS.out b e).1; omega)
              have hbz : wq.heap.size ≤ wr.heap.size := z1
              go_wp2
              go_region_law (first
                | ((try go_simp)
                   go_at_call 21
                   refine (place_any v g.nodes.length _ (by omega)).mono ?_
                   rintro e w3 ⟨rfl, rfl⟩)
                | (refine step_append_any _ rfl _ _ _ (by rfl) wq.heap.size 3 i0 _ 1 8 Tryz.underlying22 hi0 hz01 hz02 hz03 rfl (by omega) (.slice AS j cS) j _ (by rfl) (own_ahead HS.out _ (by (first | exact like_self _ | exact like_drew (like_self _) | exact like_drew (like_drew (like_self _))))) _ 1 1 _ (by rfl) (Reads.new _ _ rfl) (by simp [Value.oneCell']) (fun e => by cases e) (by simp only [maxLen]; omega) (by omega) (by simp; omega) ?_; intro v4 w4 hown4 hg4 hat4; obtain ⟨A4, cap4, rfl, hc4⟩ := own_form hown4; have hY4 := grow_keep HY.out _ (by (first | exact like_self _ | exact like_drew (like_self _) | exact like_drew (like_drew (like_self _)))) hg4 HNS.out; have hM4 := grow_mod (S := fun _ => False) (Mod.of_below HBi.out) _ (by (first | exact like_self _ | exact like_drew (like_self _) | exact like_drew (like_drew (like_self _)))) hg4 HNB.out; have r1 := hY4.cell 0; have r2 := hY4.frozen 0; have r3 := hY4.lt; simp only [List.getElem?_toArray, List.getElem?_cons_zero, List.getElem?_cons_succ] at r1; have HY4 := Lib.hid hY4; have HM4 := Lib.hid hM4; have HO4 := Lib.hid hown4; have HA4 := Lib.hid hat4; clear hY4 hM4 hown4 hg4 hat4)
                | (refine step_append_any _ rfl _ _ _ (by rfl) wq.heap.size 3 i0 _ 1 8 Tryz.underlying22 hi0 hz01 hz02 hz03 rfl (by omega) (.slice AS j cS) j _ (by rfl) (own_ahead HS.out _ (by (first | exact like_self _ | exact like_drew (like_self _) | exact like_drew (like_drew (like_self _))))) _ 1 1 _ (by rfl) (reads_drew (Reads.new _ _ rfl)) (by simp [Value.oneCell']) (fun e => by cases e) (by simp only [maxLen]; omega) (by omega) (by simp; omega) ?_; intro v4 w4 hown4 hg4 hat4; obtain ⟨A4, cap4, rfl, hc4⟩ := own_form hown4; have hY4 := grow_keep HY.out _ (by (first | exact like_self _ | exact like_drew (like_self _) | exact like_drew (like_drew (like_self _)))) hg4 HNS.out; have hM4 := grow_mod (S := fun _ => False) (Mod.of_below HBi.out) _ (by (first | exact like_self _ | exact like_drew (like_self _) | exact like_drew (like_drew (like_self _)))) hg4 HNB.out; have r1 := hY4.cell 0; have r2 := hY4.frozen 0; have r3 := hY4.lt; simp only [List.getElem?_toArray, List.getElem?_cons_zero, List.getElem?_cons_succ] at r1; have HY4 := Lib.hid hY4; have HM4 := Lib.hid hM4; have HO4 := Lib.hid hown4; have HA4 := Lib.hid hat4; clear hY4 hM4 hown4 hg4 hat4))
              all_goals
                go_wp2
                go_roundw
                case rel =>
                  have hv4 : (Value.slice A4 (j + 1) cap4).ownBlock ≠ some wq.heap.size := by
                    rcases HA4.out with h | h
                    · rw [h]; exact HNS.out
                    · rw [h]; intro e; injection e with e; simp at e; omega
                  refine ⟨j + 1, .slice A4 (j + 1) cap4, by omega, by omega, by go_num, ?_, ?_, Lib.hid ((HM4.out.below (fun _ _ h => h)).setCell (by simp) _)⟩
                  · show Blk _ _ _ _
                    exact HY4.out.set_ 0 _
                  · show World.ownsRow _ _ _ _ _ _ _
                    rw [HTs.out, List.map_append, enc_append]
                    exact own_far HO4.out hv4 _
                case measure => simp [intOf]; omega
            · have hjl : x.slots.take 15 = x.slots.take j := take_min (by omega)
              have hcase : (j < x.slots.length ∧ decide ((j : Int) < 15) = false) ∨ ¬ j < x.slots.length := by
                by_cases h : j < x.slots.length
                · exact .inl ⟨h, decide_eq_false (by omega)⟩
                · exact .inr h
              have HS' : Hid (wr.ownsRow wq.heap.size 3 1 vS (eightNd g.nodes.length x).slots.length (enc ic (eightNd g.nodes.length x).slots)) := by
                have h := HS.out
                rw [← hjl] at h
                have hl : (eightNd g.nodes.length x).slots.length = j := by
                  show ((x.slots.take 15).map _).length = j
                  rw [List.length_map, List.length_take]; omega
                rw [hl]; exact h
              obtain ⟨AS, cS, rfl, hcS⟩ := own_form HS'.out
              clear hgo hjl
              rcases hcase with ⟨hlt', p8⟩ | hlt'
              all_goals
                go_wp2_with fail
                go_meet
                exact ⟨AS, cS, HY, HS', HBi⟩
        case rest =>
          obtain ⟨AS, cS, HY, HS, HBi⟩ := hcut
          have hsl : (eightNd g.nodes.length x).slots.length ≤ 15 := by show ((x.slots.take 15).map _).length ≤ 15; rw [List.length_map, List.length_take]; omega
          obtain ⟨wz, hwz⟩ : ∃ wz, wz = wc := ⟨_, rfl⟩
          subst hwz
          have hzz := HBi.out.size
          have zy := HY.out.lt
          go_upto_block 6 with fail
          go_cut [] (fun wx => ∃ (AW : Option Addr) (cW : Nat), Hid (Blk wx wq.heap.size 55 #[.slice AS (eightNd g.nodes.length x).slots.length cS, .slice AW (eightNd g.nodes.length x).words.length cW]) ∧
              Hid (wx.ownsRow wz.heap.size 3 1 (.slice AW (eightNd g.nodes.length x).words.length cW) (eightNd g.nodes.length x).words.length (enc ic (eightNd g.nodes.length x).words)) ∧ Hid (Mod (fun b => b = wq.heap.size) wz wx))
          case first =>
              go_wp2_with fail
              go_loopw [9] (fun i wr => ∃ (l : Nat) (vW : Value), l ≤ x.words.length ∧ l ≤ 30 ∧ i = .int .i64 l ∧ Hid (Blk wr wq.heap.size 55 #[.slice AS (eightNd g.nodes.length x).slots.length cS, vW]) ∧
                  Hid (wr.ownsRow wz.heap.size 3 1 vW l (enc ic ((x.words.take l).map wordI))) ∧ Hid (Mod (fun b => b = wq.heap.size) wz wr)) (fun i _ => x.words.length - (intOf i).toNat)
              case atStart =>
                exact ⟨0, .slice none 0 0, Nat.zero_le _, by omega, rfl, HY, Lib.hid (own_nil _ _ _ _), Lib.hid (Mod.refl _ _)⟩
              case round =>
                obtain ⟨l, vW, hl, hl30, rfl, HYw, HW, HMz⟩ := hrel
                have y0 := HYw.out.cell 0
                have y1 := HYw.out.cell 1
                have y2 := HYw.out.frozen 1
                simp only [List.getElem?_toArray, List.getElem?_cons_zero, List.getElem?_cons_succ] at y0 y1
                have zy' := HYw.out.lt
                have HBq := Lib.hid (mod_below HBi.out HMz.out HBi.out.size (fun b hb e => by omega))
                have g1 := (HBq.out.cell (p := ⟨w.heap.size, 1, none⟩) zp).trans HB1'.out
                have g2 := (HBq.out.cell z2).trans HD2.out
                have g3 := (HBq.out.cell (p := ⟨(dd.add (k * 2)).block, (dd.add (k * 2)).off + 1, none⟩) z3).trans HD3.out
                have zw := HBq.out.size
                have zz := HMz.out.size
                clear y0
                obtain ⟨AW, cW, rfl, hcW⟩ := own_form HW.out
                have HNW := Lib.hid (own_blk_ne HW.out HYw.out (by decide))
                by_cases hgo : l < x.words.length ∧ l < 30
                · obtain ⟨hll, hl8⟩ := hgo
                  obtain ⟨ad, rfl, d1⟩ := (HI2.out.below HBq.out).at_ l hll
                  have HTs := Lib.hid (List.take_succ_eq_append_getElem hll)
                  generalize x.words[l] = v at d1 HTs
                  have hz4 := cell_lt d1
                  have p8' : (l : Int) < 30 := by omega
                  have HNV := Lib.hid (show ∀ b, (Value.slice AW l cW).ownBlock = some b → b < wz.heap.size → b = wq.heap.size from fun b e hb => by have := (own_block HW.out b e).1; omega)
                  have hbits := bits_word v
                  go_wp2
                  go_region_law (first
                    | (refine step_append_any _ rfl _ _ _ (by rfl) wz.heap.size 3 i0 _ 1 8 Tryz.underlying22 hi0 hz01 hz02 hz03 rfl (by omega) (.slice AW l cW) l _ (by rfl) (own_ahead HW.out _ (by (first | exact like_self _ | exact like_drew (like_self _) | exact like_drew (like_drew (like_self _))))) _ 1 1 _ (by rfl) (Reads.new _ _ rfl) (by simp [Value.oneCell']) (fun e => by cases e) (by simp only [maxLen]; omega) (by omega) (by simp; omega) ?_; intro v4 w4 hown4 hg4 hat4; obtain ⟨A4, cap4, rfl, hc4⟩ := own_form hown4; have hY4 := grow_keep HYw.out _ (by (first | exact like_self _ | exact like_drew (like_self _) | exact like_drew (like_drew (like_self _)))) hg4 HNW.out; have hM4 := grow_mod (S := fun b => b = wq.heap.size) HMz.out _ (by (first | exact like_self _ | exact like_drew (like_self _) | exact like_drew (like_drew (like_self _)))) hg4 HNV.out; have r1 := hY4.cell 1; have r2 := hY4.frozen 1; have r3 := hY4.lt; simp only [List.getElem?_toArray, List.getElem?_cons_zero, List.getElem?_cons_succ] at r1; have HY4 := Lib.hid hY4; have HM4 := Lib.hid hM4; have HO4 := Lib.hid hown4; have HA4 := Lib.hid hat4; clear hY4 hM4 hown4 hg4 hat4)
                    | (refine step_append_any _ rfl _ _ _ (by rfl) wz.heap.size 3 i0 _ 1 8 Tryz.underlying22 hi0 hz01 hz02 hz03 rfl (by omega) (.slice AW l cW) l _ (by rfl) (own_ahead HW.out _ (by (first | exact like_self _ | exact like_drew (like_self _) | exact like_drew (like_drew (like_self _))))) _ 1 1 _ (by rfl) (reads_drew (Reads.new _ _ rfl)) (by simp [Value.oneCell']) (fun e => by cases e) (by simp only [maxLen]; omega) (by omega) (by simp; omega) ?_; intro v4 w4 hown4 hg4 hat4; obtain ⟨A4, cap4, rfl, hc4⟩ := own_form hown4; have hY4 := grow_keep HYw.out _ (by (first | exact like_self _ | exact like_drew (like_self _) | exact like_drew (like_drew (like_self _)))) hg4 HNW.out; have hM4 := grow_mod (S := fun b => b = wq.heap.size) HMz.out _ (by (first | exact like_self _ | exact like_drew (like_self _) | exact like_drew (like_drew (like_self _)))) hg4 HNV.out; have r1 := hY4.cell 1; have r2 := hY4.frozen 1; have r3 := hY4.lt; simp only [List.getElem?_toArray, List.getElem?_cons_zero, List.getElem?_cons_succ] at r1; have HY4 := Lib.hid hY4; have HM4 := Lib.hid hM4; have HO4 := Lib.hid hown4; have HA4 := Lib.hid hat4; clear hY4 hM4 hown4 hg4 hat4))
                  all_goals
                    go_wp2
                    go_roundw
                    case rel =>
                      have hv4 : (Value.slice A4 (l + 1) cap4).ownBlock ≠ some wq.heap.size := by
                        rcases HA4.out with h | h
                        · rw [h]; exact HNW.out
                        · rw [h]; intro e; injection e with e; simp at e; omega
                      refine ⟨l + 1, .slice A4 (l + 1) cap4, by omega, by omega, by go_num, ?_, ?_, ?_⟩
                      · show Blk _ _ _ _
                        exact HY4.out.set_ 1 _
                      · show World.ownsRow _ _ _ _ _ _ _
                        rw [HTs.out, List.map_append, enc_append]
                        exact own_far HO4.out hv4 _
                      · show Mod _ _ _
                        exact mod_set' HM4.out rfl _
                    case measure => simp [intOf]; omega
                · have hll : x.words.take 30 = x.words.take l := take_min (by omega)
                  have hcase : (l < x.words.length ∧ decide ((l : Int) < 30) = false) ∨ ¬ l < x.words.length := by
                    by_cases h : l < x.words.length
                    · exact .inl ⟨h, decide_eq_false (by omega)⟩
                    · exact .inr h
                  have hl4 : (eightNd g.nodes.length x).words.length = l := by
                    show ((x.words.take 30).map _).length = l
                    rw [List.length_map, List.length_take]; omega
                  have HW' : Hid (wr.ownsRow wz.heap.size 3 1 (.slice AW (eightNd g.nodes.length x).words.length cW) (eightNd g.nodes.length x).words.length (enc ic (eightNd g.nodes.length x).words)) := by
                    have h := HW.out
                    rw [← hll] at h
                    rw [hl4]; exact h
                  have HYw' : Hid (Blk wr wq.heap.size 55 #[.slice AS (eightNd g.nodes.length x).slots.length cS, .slice AW (eightNd g.nodes.length x).words.length cW]) := by
                    rw [hl4]; exact HYw
                  clear hgo hll hl4
                  rcases hcase with ⟨hlt', p8⟩ | hlt'
                  all_goals
                    go_wp2_with fail
                    go_meet
                    exact ⟨AW, cW, HYw', HW', HMz⟩
          case rest =>
            obtain ⟨AW, cW, HYw, HW, HMz⟩ := hcut
            have hwl : (eightNd g.nodes.length x).words.length ≤ 30 := by show ((x.words.take 30).map _).length ≤ 30; rw [List.length_map, List.length_take]; omega
            have HBq := Lib.hid (mod_below HBi.out HMz.out HBi.out.size (fun b hb e => by omega))
            have zw := HBq.out.size
            have y0 := HYw.out.cell 0
            have y1 := HYw.out.cell 1
            simp only [List.getElem?_toArray, List.getElem?_cons_zero, List.getElem?_cons_succ] at y0 y1
            have zy' := HYw.out.lt
            have hX5 := HX.out.below HBq.out HX.out.lt
            have x1 := hX5.cell 1
            have x2 := hX5.frozen 1
            have x3 := hX5.lt
            simp only [List.getElem?_toArray, List.getElem?_cons_zero, List.getElem?_cons_succ] at x1
            have HX5 := Lib.hid hX5
            clear hX5
            have HO5 := Lib.hid (own_below HOwn.out HBq.out)
            have HN5 := Lib.hid (HN.out.step (Mod.of_below (S := fun _ => False) HBq.out) (fun _ _ h => h.elim) (fun k h => .inl h) HN.out.hotN)
            have HNN := Lib.hid (own_blk_ne HO5.out HX5.out (by decide))
            have HR5 := Lib.hid (HR.out.step (Mod.of_below (S := fun _ => False) HBq.out) (fun _ _ h => h.elim) (fun k h => .inl h))
            have hno : ∀ q, wq.heap.size ≤ q → ¬ (q = w.heap.size + 1 + 1 + 1 ∨ (Value.slice AN k cN).ownBlock = some q) := by
              rintro q hq (e | e)
              · have := HX.out.lt; omega
              · have := (own_block HOwn.out q e).2; omega
            have hzx := HX.out.lt
            have HCA := Lib.hid (show CInts wc (fun b => b = w.heap.size + 1 + 1 + 1 ∨ (Value.slice AN k cN).ownBlock = some b) (w.heap.size + 1 + 1) AS (eightNd g.nodes.length x).slots from
              CInts.of_own (own_mod HS.out HMz.out (fun q hq e => by
                subst e
                exact own_blk_ne HS.out HY.out (by decide) hq)) (by omega) (by omega) (fun q hq => hno q (own_block HS.out q hq).1))
            have HCB := Lib.hid (show CInts wc (fun b => b = w.heap.size + 1 + 1 + 1 ∨ (Value.slice AN k cN).ownBlock = some b) (w.heap.size + 1 + 1) AW (eightNd g.nodes.length x).words from
              CInts.of_own HW.out (by omega) (by have := HBi.out.size; omega) (fun q hq => hno q (by have := (own_block HW.out q hq).1; have := HBi.out.size; omega)))
            have HLA := Lib.hid (show (eightNd g.nodes.length x).slots.length = (eightNd g.nodes.length x).slots.length from rfl)
            have HLB := Lib.hid (show (eightNd g.nodes.length x).words.length = (eightNd g.nodes.length x).words.length from rfl)
            have HLK := Lib.hid (show ((g.nodes.take k).map (eightNd g.nodes.length)).length = k by rw [List.length_map, List.length_take]; omega)
            clear hno
            go_wp2_with (refine wpList_append_any _ (by rfl) _ _ _ (by rfl) (w.heap.size + 1 + 1) 55 i1 _ 2 48 Tryz.underlying23 hi1 hz11 hz12 hz13 rfl (by omega) (.slice AN k cN) k xs (by rfl) (own_below HO5.out (below_1 _ _)) _ 1 1 _ (by rfl) (Reads.new _ _ rfl) (by simp [Value.oneCell']) (fun e => by cases e) (by simp only [maxLen]; omega) (by omega) (by simp; omega) ?_; intro v4 w4 hown4 hg4 hat4; obtain ⟨A4, cap4, rfl, hc4⟩ := own_form hown4; have hX4 := grow_keep HX5.out _ (like_self _) hg4 HNN.out; have r1 := hX4.cell 1; have r2 := hX4.frozen 1; have r3 := hX4.lt; simp only [List.getElem?_toArray, List.getElem?_cons_zero, List.getElem?_cons_succ] at r1; have HRR := Lib.hid (row_round HN5.out (eightNd g.nodes.length x) HLA.out HLB.out HCA.out HCB.out HLK.out x3 HNN.out _ (like_self _) hg4 hown4 hat4 1); have HA4 := Lib.hid hat4; have HX4 := Lib.hid hX4; have HMG := Lib.hid (Mod.of_grown hg4); clear hX4 hown4 hg4 hat4)
            go_roundg (g.nodes.length - (k + 1))
            case rel =>
              have hwB := mod_below HB.out (Mod.of_below (S := fun _ => False) HBq.out) HB.out.size (fun _ _ h => h)
              have hsz := HB.out.size
              refine ⟨k + 1, .slice A4 (k + 1) cap4, xs ++ [.slice AS (eightNd g.nodes.length x).slots.length cS, .slice AW (eightNd g.nodes.length x).words.length cW], by omega, rfl, by go_num, ?_, ?_, ?_, ?_, ?_, ?_⟩
              · show Blk _ _ _ _
                refine (H1.out.below HBq.out H1.out.lt).mod HRR.out.2 ?_
                rintro (e | e)
                · omega
                · exact own_blk_ne HOwn.out H1.out (by decide) e
              · show Blk _ _ _ _
                refine (H2.out.below HBq.out H2.out.lt).mod HRR.out.2 ?_
                rintro (e | e)
                · omega
                · exact own_blk_ne HOwn.out H2.out (by decide) e
              · show CInts _ _ _ _ _
                refine HR5.out.step HRR.out.2 (fun b _ h => .inl h) ?_
                rintro b (e | e)
                · exact .inl (.inl e)
                · rcases HA4.out with e' | e'
                  · rw [e'] at e; exact .inl (.inr e)
                  · rw [e'] at e; injection e with e; refine .inr ?_; simp at e; omega
              · show Blk _ _ _ _
                exact HX4.out.set_ 1 _
              · show NdRow _ _ _ _ _ _
                rw [HT.out, List.map_append]
                exact HRR.out.1
              · show Below _ _ _
                refine mod_below hwB HRR.out.2 hwB.size ?_
                rintro b hb (e | e)
                · omega
                · have := (own_block HOwn.out b e).1; omega
            case measure => omega
      · have x0 := HX.out.cell 0
        have x1 := HX.out.cell 1
        have p0 := H2.out.cell 0
        have p1 := H2.out.cell 1
        have p2 := H2.out.frozen 0
        have p3 := H2.out.frozen 1
        have p4 := H2.out.lt
        have x2 := HX.out.lt
        simp only [List.getElem?_toArray, List.getElem?_cons_zero, List.getElem?_cons_succ] at x0 x1 p0 p1
        have hkn : k = g.nodes.length := by omega
        have hl1 : (eight g).roots.length = 8 := rts_len _ _ _
        have hl2 : (eight g).nodes.length = k := by rw [hkn]; show (g.nodes.map _).length = _; rw [List.length_map]
        have hN' := HN.out
        rw [show (g.nodes.take k).map (eightNd g.nodes.length) = (eight g).nodes by rw [hkn, List.take_length]; rfl] at hN'
        have hF := NdRow.firm (cr := 8) hN' HR.out (Nat.le_refl _) (by omega)
        rw [hl1, hl2] at hF
        have HF := Lib.hid hF
        have HKN := Lib.hid hkn
        clear hl1 hl2 hN' hF hkn
        go_wp2_with fail
        (try simp only [Exit.inBlock, Exit.then])
        have hB2 := (H2.out.set_ 0 (.slice (some ⟨w.heap.size + 1 + 1, 0, none⟩) 8 8)).set_ 1 (.slice AN k cN)
        refine bodyPost_ret (v := .agg #[.slice (some ⟨w.heap.size + 1 + 1, 0, none⟩) 8 8, .slice AN k cN]) (results_cell_row rfl _ _ (w.heap.size + 1) 25 _ (0, 0) _ rfl hB2 Tryz.underlying25 rfl graphSize) rfl ?_
        have hm : Mod (fun b => b = w.heap.size + 1) wq ((wq.setCell ⟨w.heap.size + 1, 0, none⟩ (.slice (some ⟨w.heap.size + 1 + 1, 0, none⟩) 8 8)).setCell ⟨w.heap.size + 1, 1, none⟩ (.slice AN k cN)) :=
          mod_set' (S := fun b => b = w.heap.size + 1) (mod_set' (S := fun b => b = w.heap.size + 1) (Mod.refl _ _) rfl _) rfl _
        exact ⟨_, rfl, (HF.out.mod hm (by rintro b rfl; omega)).low (by omega), mod_below HB.out hm HB.out.size (by rintro b hb rfl; omega)⟩

end Go.Proofs.YteminkohgagedaaGreat.Gr
namespace Go.Proofs.YteminkohgagedaaGreat.Gr
open Go.RowKit Go.Proofs.YteminkohgagedaaGreat.Base
set_option linter.unusedVariables false
set_option linter.unusedSimpArgs false

theorem eight_mod (n : Nat) (v : Int) : 0 ≤ placeI n v ∧ placeI n v ≤ n := by
  unfold placeI
  have := Int.emod_nonneg v (b := (n : Int) + 1) (by omega)
  have := Int.emod_lt_of_pos v (b := (n : Int) + 1) (by omega)
  omega
theorem eight_right {g : Gr} (hs : Small g) : right (eight g) = true := by
  have hn : (eight g).nodes.length = g.nodes.length := by show (g.nodes.map _).length = _; rw [List.length_map]
  have h1 := hs.1
  simp only [right, Bool.and_eq_true, decide_eq_true_eq, List.all_eq_true, hn]
  refine ⟨⟨⟨rts_len _ _ _, by omega⟩, ?_⟩, ?_⟩
  · rw [named, List.all_eq_true]
    intro v hv
    simp only [eight, rts, List.mem_map, List.mem_range] at hv
    obtain ⟨i, hi, rfl⟩ := hv
    have := eight_mod g.nodes.length (g.roots.getD i 0)
    simp only [Bool.and_eq_true, decide_eq_true_eq]
    split <;> omega
  · intro x hx
    simp only [eight, List.mem_map] at hx
    obtain ⟨y, hy, rfl⟩ := hx
    simp only [ndOk, eightNd, Bool.and_eq_true, decide_eq_true_eq, List.length_map, List.length_take]
    refine ⟨⟨⟨by omega, by omega⟩, ?_⟩, ?_⟩
    · rw [wordsOk, List.all_eq_true]
      intro v hv
      simp only [List.mem_map] at hv
      obtain ⟨u, hu, rfl⟩ := hv
      unfold wordI
      simp only [Bool.and_eq_true, decide_eq_true_eq]
      omega
    · rw [named, List.all_eq_true]
      intro v hv
      simp only [List.mem_map] at hv
      obtain ⟨u, hu, rfl⟩ := hv
      have := eight_mod g.nodes.length u
      simp only [Bool.and_eq_true, decide_eq_true_eq]
      omega

end Go.Proofs.YteminkohgagedaaGreat.Gr
