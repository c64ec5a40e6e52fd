/- What code.Text comes to: an instruction's name and its numbers, a blank between. -/
import Derived.Test.YtdlapjfcmhkieaaDoorCodeNames
import Derived.Test.YtdlapjfcmhkieaaDoorShelf
import Derived.WalkSmall
namespace Go.Proofs.YtdlapjfcmhkieaaDoor.Ver
open Go.RowKit Go.Proofs.YtdlapjfcmhkieaaDoor.Base
set_option linter.unusedVariables false
set_option linter.unusedSimpArgs false

/-- The library's table of powers of ten is laid. -/
def Tab (w : World) : Prop := Lib.TabIs Tryd.prog w "internal/strconv.uint64pow10" .u64 Lib.pow10Tab
theorem tabG : Tryd.prog.globalNamed "internal/strconv.uint64pow10" = some 0 := by kernel_rfl
theorem Tab.lt {w : World} (h : Tab w) : 0 < w.heap.size := by
  have h1 := World.var?_cell tabG h 0
  have h2 : ((Lib.pow10Tab.map fun z => Value.int .u64 z).toArray)[0]? = some (.int .u64 1) := by kernel_rfl
  exact cell_lt (h1.trans h2)
theorem Tab.below {w w' : World} (h : Tab w) (hb : Below w.heap.size w w') : Tab w' := var?_below hb tabG h.lt h
theorem Tab.mod {S : Nat → Prop} {w w' : World} (h : Tab w) (hb : Mod S w w') (hs : ¬ S 0) : Tab w' := by
  have hbl := hb.block _ h.lt hs
  unfold Tab Lib.TabIs World.var? at *
  rw [tabG] at *
  simpa [hbl] using h
theorem itoa_any (n : Int) (h0 : -9223372036854775808 ≤ n) (h1 : n ≤ 9223372036854775807) (w : World) (ht : Tab w) :
    Calls Tryd.prog 22 #[.int .i64 n] w fun e w' => e = .returned (.string ⟨(Lib.itoa n).toArray⟩) ∧ Below w.heap.size w w' := by
  refine (Tryd.strconv_Itoa n h0 h1 w ht).mono ?_
  rintro e w' ⟨rfl, k, os, rfl⟩
  exact ⟨rfl, ⟨rfl, rfl, rfl, by simp [Sort.grow], fun i hi => by simp [Sort.grow, Array.getElem?_append_left hi]⟩⟩

/-- Texts as cells. -/
def strCells (xs : List (List UInt8)) : List Value := xs.map fun l => .string ⟨l.toArray⟩
theorem strCells_len (xs : List (List UInt8)) : (strCells xs).length = xs.length := List.length_map _
theorem strCells_one (xs : List (List UInt8)) : ∀ u ∈ strCells xs, u.oneCell' = true := by
  intro u hu
  simp only [strCells, List.mem_map] at hu
  obtain ⟨x, _, rfl⟩ := hu
  rfl
theorem strInfo : (Tryd.prog.info? 9).map (fun i => (i.zero, i.size, i.bytes)) = some (some (.string ByteArray.empty), 1, 16) := by kernel_rfl
theorem own_new (w : World) (base e size n : Nat) (cs : Array Value) (hb : base ≤ w.heap.size) (hs : cs.size = n * size) (hn : n ≤ maxLen) :
    (w.alloc (.cells cs e)).ownsRow base e size (.slice (some ⟨w.heap.size, 0, none⟩) n n) n cs.toList :=
  ⟨by simpa using hs, .inr ⟨w.heap.size, n, cs, rfl, hb, heap_alloc_new w _, Nat.le_refl _, hn, hs, by rw [List.take_of_length_le]; simpa using Nat.le_of_eq hs⟩⟩

def Ins.words (x : Ins) : List (List UInt8) := [opName x.op, Lib.itoa x.a, Lib.itoa x.b, Lib.itoa x.c]
def Ins.num3 (x : Ins) : Nat → Int
  | 0 => x.a
  | 1 => x.b
  | _ => x.c
theorem words_take (x : Ins) (j : Nat) (h : j < 3) : x.words.take (j + 1 + 1) = x.words.take (j + 1) ++ [Lib.itoa (x.num3 j)] := by
  match j, h with
  | 0, _ => rfl
  | 1, _ => rfl
  | 2, _ => rfl
theorem num3_cell (x : Ins) (j : Nat) (h : j < 3) : (#[Value.int .i64 x.a, .int .i64 x.b, .int .i64 x.c])[j]? = some (.int .i64 (x.num3 j)) := by
  match j, h with
  | 0, _ => rfl
  | 1, _ => rfl
  | 2, _ => rfl
theorem num3_fits {x : Ins} (h : x.fits) (j : Nat) : -9223372036854775808 ≤ x.num3 j ∧ x.num3 j ≤ 9223372036854775807 := by
  match j with
  | 0 => exact h.1
  | 1 => exact h.2.1
  | j + 2 => exact h.2.2
theorem words_len {x : Ins} (h : x.fits) : ((x.words.map List.length).sum) ≤ 80 := by
  have h0 := opName_len x.op
  have h1 := Lib.itoa_length_le x.a h.1.1 h.1.2
  have h2 := Lib.itoa_length_le x.b h.2.1.1 h.2.1.2
  have h3 := Lib.itoa_length_le x.c h.2.2.1 h.2.2.2
  simp only [Ins.words, List.map_cons, List.map_nil, List.sum_cons, List.sum_nil]
  omega
theorem insText_len {x : Ins} (h : x.fits) : (insText x).length ≤ 90 := by
  have := words_len h
  simp only [Ins.words, List.map_cons, List.map_nil, List.sum_cons, List.sum_nil] at this
  simp only [insText, Lib.join, List.intercalate, List.intersperse, List.flatten_cons, List.flatten_nil, List.length_append, List.length_cons, List.length_nil]
  omega

set_option maxRecDepth 100000 in
set_option maxHeartbeats 2000000 in
theorem text_any (x : Ins) (w : World) (hx : x.fits) (ht : Tab w) :
    Calls Tryd.prog 12 #[.agg #[.int .i64 x.op, .int .i64 x.a, .int .i64 x.b, .int .i64 x.c]] w fun e w' => e = .returned (.string ⟨(insText x).toArray⟩) ∧ Below w.heap.size w w' := by
  obtain ⟨i0, hi0, hz0, hz1, hz2⟩ := info_parts strInfo
  have HT := Lib.hid ht
  have HX := Lib.hid hx
  clear ht hx
  go_enter Tryd.func12, Tryd.ntmps12
  go_wp2_with fail
  refine (name_any x.op _).mono ?_
  rintro e w1 ⟨rfl, hb1⟩
  have hb0 : Below w.heap.size w w1 := ((Below.refl _ _).alloc (Nat.le_refl _) _).trans (hb1.mono (by simp))
  have hK : Blk w1 w.heap.size 28 (#[.int .i64 x.op, .int .i64 x.a, .int .i64 x.b, .int .i64 x.c]) := Blk.below (Blk.new w _ _) hb1 (by simp)
  have d1 := hK.cell 1
  have d2 := hK.cell 2
  have d3 := hK.cell 3
  simp only [List.getElem?_toArray, List.getElem?_cons_succ, List.getElem?_cons_zero] at d1 d2 d3
  have hz : w.heap.size < w1.heap.size := hK.lt
  have HB0 := Lib.hid hb0
  clear hb0 hb1 hK
  go_wp2_with fail
  have hO : Hid (((w1.alloc (.cells #[.string ⟨(opName x.op).toArray⟩] 9)).alloc (.cells #[.int .i64 x.a, .int .i64 x.b, .int .i64 x.c] 3)).ownsRow w.heap.size 9 1 (.slice (some ⟨w1.heap.size, 0, none⟩) 1 1) 1 (strCells (x.words.take 1))) :=
    (own_new w1 w.heap.size 9 1 1 #[.string ⟨(opName x.op).toArray⟩] (by omega) rfl (by simp only [maxLen]; omega)).alloc _
  have hBB : Hid (Below w.heap.size w ((w1.alloc (.cells #[.string ⟨(opName x.op).toArray⟩] 9)).alloc (.cells #[.int .i64 x.a, .int .i64 x.b, .int .i64 x.c] 3))) :=
    (HB0.out.alloc HB0.out.size _).alloc (by simp; omega) _
  have hBlk : Hid (Blk ((w1.alloc (.cells #[.string ⟨(opName x.op).toArray⟩] 9)).alloc (.cells #[.int .i64 x.a, .int .i64 x.b, .int .i64 x.c] 3)) (w1.heap.size + 1) 3 #[.int .i64 x.a, .int .i64 x.b, .int .i64 x.c]) := by
    have := Blk.new (w1.alloc (.cells #[.string ⟨(opName x.op).toArray⟩] 9)) 3 #[.int .i64 x.a, .int .i64 x.b, .int .i64 x.c]
    have e : (w1.alloc (.cells #[.string ⟨(opName x.op).toArray⟩] 9)).heap.size = w1.heap.size + 1 := by simp
    rw [e] at this
    exact this
  obtain ⟨n1, hn1⟩ : ∃ n : Nat, n = w1.heap.size + 1 := ⟨_, rfl⟩
  rw [← hn1] at hBlk ⊢
  clear hn1
  go_loopw [3, 18] (fun v i wr => ∃ j : Nat, j ≤ 3 ∧ i = .int .i64 j ∧ Hid (Below w.heap.size w wr) ∧ Hid (wr.ownsRow w.heap.size 9 1 v (j + 1) (strCells (x.words.take (j + 1)))) ∧
    Hid (Blk wr n1 3 #[.int .i64 x.a, .int .i64 x.b, .int .i64 x.c])) (fun _ i _ => 3 - (intOf i).toNat)
  case atStart => exact ⟨0, by omega, rfl, hBB, hO, hBlk⟩
  case round =>
    clear d1 d2 d3 hz
    obtain ⟨j, hj, rfl, HB, HO, HK⟩ := hrel
    by_cases hjl : j < 3
    · have hcell := (HK.out.cell j).trans (num3_cell x j hjl)
      obtain ⟨y, hy⟩ : ∃ y, y = x.num3 j := ⟨_, rfl⟩
      rw [← hy] at hcell
      have HY := Lib.hid hy
      have hfit := num3_fits HX.out j
      rw [← hy] at hfit
      have HF := Lib.hid hfit
      clear hy hfit
      go_wp2_with fail
      refine (itoa_any y HF.out.1 HF.out.2 _ (HT.out.below HB.out)).mono ?_
      rintro e w2 ⟨rfl, hb2⟩
      have HB2 := Lib.hid (below_then HB.out hb2)
      have HO2 := Lib.hid (own_below HO.out hb2)
      have HK2 : Hid (Blk w2 n1 3 #[.int .i64 x.a, .int .i64 x.b, .int .i64 x.c]) := Blk.below HK.out hb2 HK.out.lt
      have hs2 := HB2.out.size
      clear hb2
      go_wp2_with (first
        | (at_builtin
           refine wpList_append_any _ rfl (.tmp 22) (.tmp 25) _ rfl w.heap.size 9 i0 _ 1 16 Tryd.underlying54 hi0 hz0 hz1 hz2 rfl (by omega) _ (j + 1) _ rfl
             (HO2.out.alloc _) (some ⟨w2.heap.size, 0, none⟩) 1 1 [.string ⟨(Lib.itoa y).toArray⟩] rfl (Reads.new w2 _ rfl) (by simp [Value.oneCell']) (fun e => by cases e) (by simp only [maxLen]; omega) (by omega) (by simp; omega) ?_
           intro v4 w4 hown4 hg4 hat4))
      go_roundw
      case rel =>
        have hnB : Below w.heap.size w (w2.alloc (.cells #[.string ⟨(Lib.itoa y).toArray⟩] 9)) := HB2.out.alloc hs2 _
        refine ⟨j + 1, by omega, by go_num, ?_, ?_, ?_⟩
        · refine hnB.grown hg4 hnB.size ?_
          intro b hb
          exact (own_block HO2.out b hb).1
        · show World.ownsRow _ _ _ _ _ _ _
          rw [words_take x j hjl, ← HY.out]
          have e : strCells (x.words.take (j + 1) ++ [Lib.itoa y]) = strCells (x.words.take (j + 1)) ++ [.string ⟨(Lib.itoa y).toArray⟩] := by simp [strCells]
          rw [e]
          exact hown4
        · have h1 := HK2.out.alloc (.cells #[.string ⟨(Lib.itoa y).toArray⟩] 9)
          exact Blk.mod h1 (Mod.of_grown hg4) (fun e => own_blk_ne HO2.out HK2.out (by decide) e.symm)
      case measure => simp [intOf]; omega
    · obtain rfl : j = 3 := by omega
      have hO4 := HO.out
      have e : x.words.take (3 + 1) = x.words := rfl
      rw [e] at hO4
      obtain ⟨A, m, rfl, hm⟩ := own_form hO4
      have hR := Reads.of_own hO4
      obtain ⟨ad, hA, hc⟩ := hR.2 (by rw [strCells_len]; exact Nat.succ_pos 3)
      subst hA
      obtain ⟨g, cap, hv, _, hlt⟩ := hO4.form (by omega)
      injection hv with hv1 hv2 hv3
      injection hv1 with hv1
      subst hv1
      subst hv3
      clear hv2
      have hJ := Tryd.strings_Join g 0 m (x.words.map fun l => (⟨l.toArray⟩ : ByteArray)) ⟨#[32]⟩ wr (fun j b hj => by
          rw [List.getElem?_map] at hj
          obtain ⟨l, hl, rfl⟩ := Option.map_eq_some_iff.1 hj
          have h1 := hc j (.string ⟨l.toArray⟩) (by rw [strCells, List.getElem?_map, hl]; rfl)
          rw [add_of_zero] at h1
          rw [Nat.zero_add]
          exact h1) hlt (by simp [Ins.words]) (by simp [Ins.words]; omega) (by
          have h1 := insText_len HX.out
          have h2 : Lib.join ((x.words.map fun l => (⟨l.toArray⟩ : ByteArray)).map (·.data.toList)) (⟨#[32]⟩ : ByteArray).data.toList = insText x := by simp [Ins.words, insText]
          rw [h2]; omega)
      have h2 : Lib.join ((x.words.map fun l => (⟨l.toArray⟩ : ByteArray)).map (·.data.toList)) (⟨#[32]⟩ : ByteArray).data.toList = insText x := by simp [Ins.words, insText]
      rw [h2] at hJ
      have h3 : (x.words.map fun l => (⟨l.toArray⟩ : ByteArray)).length = 4 := by simp [Ins.words]
      rw [h3] at hJ
      have HJ := Lib.hid hJ
      clear hJ h2 h3 hc hR e hO4
      go_wp2_with fail
      refine (HJ.out).mono ?_
      rintro e w5 ⟨rfl, hb5⟩
      go_wp2_with fail
      go_ret
      exact ⟨rfl, below_then HB.out hb5⟩

end Go.Proofs.YtdlapjfcmhkieaaDoor.Ver
