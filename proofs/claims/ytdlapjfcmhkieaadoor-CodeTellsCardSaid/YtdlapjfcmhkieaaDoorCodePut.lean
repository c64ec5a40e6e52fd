/- What code.Put comes to: every program as bytes, or that it may not be. -/
import Derived.Test.YtdlapjfcmhkieaaDoorCodePlain
import Derived.Test.YtdlapjfcmhkieaaDoorTarget
import Derived.Laws.IdiomStrings
namespace Go.Proofs.YtdlapjfcmhkieaaDoor.Ver
open Go.RowKit Go.Proofs.YtdlapjfcmhkieaaDoor.Base
set_option linter.unusedVariables false
set_option linter.unusedSimpArgs false

theorem byteInfo : (Tryd.prog.info? 5).map (fun i => (i.zero, i.size, i.bytes)) = some (some (.int .u8 0), 1, 1) := by kernel_rfl
theorem byteCells_one (l : List UInt8) : ∀ u ∈ Lib.byteCells l, u.oneCell' = true := by
  intro u hu
  simp only [Lib.byteCells, List.mem_map] at hu
  obtain ⟨x, _, rfl⟩ := hu
  rfl
theorem byteCells_append (l m : List UInt8) : Lib.byteCells (l ++ m) = Lib.byteCells l ++ Lib.byteCells m := List.map_append
/-- 'string(b)' of a row of the call's own. -/
theorem conv_own {w : World} {base : Nat} {v : Value} {l : List UInt8} (h : w.ownsRow base 5 1 v l.length (Lib.byteCells l)) :
    (convert 30 9 v).run Tryd.prog w = .ok (.string ⟨l.toArray⟩) w := by
  rcases h.2 with ⟨rfl, hn⟩ | ⟨g, cap, cur, rfl, hg, hh, hn, _⟩
  · have : l = [] := List.eq_nil_of_length_eq_zero hn
    subst this
    rw [run_convert_bytes_string w _ _ _ none 0 0 Tryd.underlying30 Tryd.underlying5 Tryd.underlying9]
    simp [Conv.bytesToString]
    rfl
  · refine run_convert_bytes_back w _ _ _ ⟨g, 0, none⟩ cap l Tryd.underlying30 Tryd.underlying5 Tryd.underlying9 (fun j hj => ?_)
    have hr := Reads.of_own h
    obtain ⟨ad, e, hc⟩ := hr.2 (by simp [Lib.byteCells]; omega)
    injection e with e
    subst e
    exact hc j _ (by simp [Lib.byteCells, List.getElem?_eq_getElem hj])

def putRes (l : List Ins) : Value := if progOk l then .tuple #[.string ⟨(bytesOf l).toArray⟩, .bool true] else .tuple #[.string ⟨#[]⟩, .bool false]

theorem put_far (A : Option Addr) (l : List Ins) (c : Nat) (w : World) (h : 200 < l.length) :
    Calls Tryd.prog 9 #[.slice A l.length c] w fun e w' => e = .returned (putRes l) ∧ Below w.heap.size w w' := by
  have hp : progOk l = false := by simp only [progOk, decide_eq_false (show ¬ l.length ≤ 200 by omega), Bool.false_and]
  simp only [putRes, hp]
  have hl : decide ((l.length : Int) > 200) = true := decide_eq_true (by omega)
  clear hp h
  go_enter Tryd.func9, Tryd.ntmps9
  go_wp2
  go_ret2
  exact ⟨rfl, Below.refl _ _⟩

def insCellsA (x : Ins) : Array Value := #[.int .i64 x.op, .int .i64 x.a, .int .i64 x.b, .int .i64 x.c]
theorem insCellsA_nth (x : Ins) (j : Nat) (h : j < 4) : (insCellsA x)[j]? = some (.int .i64 (x.nth j)) := by
  match j, h with
  | 0, _ => rfl
  | 1, _ => rfl
  | 2, _ => rfl
  | 3, _ => rfl
theorem bytes_take (x : Ins) (j : Nat) (h : j < 4) : x.bytes.take (j + 1) = x.bytes.take j ++ [byteOf (x.nth j)] := by
  match j, h with
  | 0, _ => rfl
  | 1, _ => rfl
  | 2, _ => rfl
  | 3, _ => rfl
theorem bytesOf_take (l : List Ins) (k : Nat) (h : k < l.length) : bytesOf (l.take (k + 1)) = bytesOf (l.take k) ++ l[k].bytes := by
  rw [List.take_succ_eq_append_getElem h, bytesOf, bytesOf, List.flatMap_append]; simp
theorem byteful_of (x : Ins) (h : ∀ j, j < 4 → byt (x.nth j) = true) : x.byteful = true := by
  simp only [Ins.byteful, Bool.and_eq_true]
  exact ⟨⟨⟨h 0 (by omega), h 1 (by omega)⟩, h 2 (by omega)⟩, h 3 (by omega)⟩

set_option maxRecDepth 100000 in
set_option maxHeartbeats 2000000 in
theorem put_any (A : Option Addr) (l : List Ins) (c : Nat) (w : World) (hr : Arr w Ins.cells 4 A l) :
    Calls Tryd.prog 9 #[.slice A l.length c] w fun e w' => e = .returned (putRes l) ∧ Below w.heap.size w w' := by
  rcases Nat.lt_or_ge 200 l.length with h | h
  · exact put_far A l c w h
  obtain ⟨q, hq⟩ : ∃ q, putRes l = q := ⟨_, rfl⟩
  rw [hq]
  have HQ := Lib.hid hq
  clear hq
  have hR := Lib.hid hr
  clear hr
  have hl : decide ((l.length : Int) > 200) = false := decide_eq_false (by omega)
  obtain ⟨i0, hi0, hz0, hz1, hz2⟩ := info_parts byteInfo
  go_enter Tryd.func9, Tryd.ntmps9
  go_wp2
  go_loopw [4, 14] (fun v i wr => ∃ k : Nat, k ≤ l.length ∧ i = .int .i64 k ∧ Hid (Below w.heap.size w wr) ∧ Hid (∀ j, (hj : j < k) → (hjl : j < l.length) → l[j].byteful = true) ∧
    Hid (wr.ownsRow w.heap.size 5 1 v (bytesOf (l.take k)).length (Lib.byteCells (bytesOf (l.take k))))) (fun _ i _ => l.length - (intOf i).toNat)
  case atStart => exact ⟨0, Nat.zero_le _, rfl, Below.refl _ _, fun j hj => absurd hj (by omega), own_nil _ _ _ _⟩
  case round =>
    obtain ⟨k, hk, rfl, HB, HA, HO⟩ := hrel
    by_cases hlt : k < l.length
    · obtain ⟨ad, rfl, c0, c1, c2, c3⟩ := codes_at (hR.out.below HB.out) k hlt
      obtain ⟨x, hx⟩ : ∃ x, x = l[k] := ⟨_, rfl⟩
      rw [← hx] at c0 c1 c2 c3
      have HX := Lib.hid hx
      clear hx
      go_wp2
      have hB0 := HB.out.size
      have hBlk : Hid (Blk ((wr.alloc (.cells #[.int .i64 x.op, .int .i64 x.a, .int .i64 x.b, .int .i64 x.c] 28)).alloc (.cells #[.int .i64 x.op, .int .i64 x.a, .int .i64 x.b, .int .i64 x.c] 3)) (wr.heap.size + 1) 3 (insCellsA x)) := by
        have := Blk.new (wr.alloc (.cells #[.int .i64 x.op, .int .i64 x.a, .int .i64 x.b, .int .i64 x.c] 28)) 3 (insCellsA x)
        have e : (wr.alloc (.cells #[.int .i64 x.op, .int .i64 x.a, .int .i64 x.b, .int .i64 x.c] 28)).heap.size = wr.heap.size + 1 := by simp
        rw [e] at this
        exact this
      have hB1 : Hid (Below w.heap.size w ((wr.alloc (.cells #[.int .i64 x.op, .int .i64 x.a, .int .i64 x.b, .int .i64 x.c] 28)).alloc (.cells #[.int .i64 x.op, .int .i64 x.a, .int .i64 x.b, .int .i64 x.c] 3))) :=
        (HB.out.alloc hB0 _).alloc (by simp; omega) _
      have hO1 : Hid (((wr.alloc (.cells #[.int .i64 x.op, .int .i64 x.a, .int .i64 x.b, .int .i64 x.c] 28)).alloc (.cells #[.int .i64 x.op, .int .i64 x.a, .int .i64 x.b, .int .i64 x.c] 3)).ownsRow w.heap.size 5 1 u4 (bytesOf (l.take k)).length (Lib.byteCells (bytesOf (l.take k)))) := (HO.out.alloc _).alloc _
      have HLN : Hid ((bytesOf (l.take k)).length ≤ 800) := by
        show _ ≤ _
        rw [bytesOf_len, List.length_take]; omega
      obtain ⟨wo, hwo⟩ : ∃ n : Nat, n = wr.heap.size := ⟨_, rfl⟩
      rw [← hwo]
      have HWO := Lib.hid hwo
      rw [← hwo] at hBlk
      clear hwo hB0
      go_loopw [4, 28] (fun v i wi => ∃ j : Nat, j ≤ 4 ∧ i = .int .i64 j ∧ Hid (Below w.heap.size w wi) ∧ Hid (∀ j', j' < j → byt (x.nth j') = true) ∧
        Hid (wi.ownsRow w.heap.size 5 1 v (bytesOf (l.take k) ++ x.bytes.take j).length (Lib.byteCells (bytesOf (l.take k) ++ x.bytes.take j))) ∧ Hid (Blk wi (wo + 1) 3 (insCellsA x))) (fun _ i _ => 4 - (intOf i).toNat)
      case atStart => exact ⟨0, by omega, rfl, hB1, fun j hj => absurd hj (by omega), by simpa [Hid] using hO1, hBlk⟩
      case round =>
        obtain ⟨j, hj, rfl, HB2, HA2, HO2, HK2⟩ := hrel
        by_cases hjl : j < 4
        · have hcell := (HK2.out.cell j).trans (insCellsA_nth x j hjl)
          obtain ⟨y, hy⟩ : ∃ y, y = x.nth j := ⟨_, rfl⟩
          rw [← hy] at hcell
          have HY := Lib.hid hy
          cases hb : byt y
          · have hbad := byt_no hb
            rcases (by omega : y < 0 ∨ (0 ≤ y ∧ 255 < y)) with hneg | ⟨hpos, hbig⟩
            · clear hbad hb hy
              go_wp2
              go_ret2
              refine ⟨?_, HB2.out⟩
              have e : putRes l = .tuple #[.string ⟨#[]⟩, .bool false] := by
                rw [putRes, progOk_no k hlt (by rw [← HX.out]; exact not_byteful (j := j) (by rw [← HY.out]; exact decide_eq_false (by omega)))]; rfl
              rw [HQ.out] at e
              subst e
              rfl
            · clear hbad hb hy
              go_wp2
              go_ret2
              refine ⟨?_, HB2.out⟩
              have e : putRes l = .tuple #[.string ⟨#[]⟩, .bool false] := by
                rw [putRes, progOk_no k hlt (by rw [← HX.out]; exact not_byteful (j := j) (by rw [← HY.out]; exact decide_eq_false (by omega)))]; rfl
              rw [HQ.out] at e
              subst e
              rfl
          · have hgood := byt_iff hb
            obtain ⟨hg1, hg2⟩ := hgood
            have HG := Lib.hid hb
            clear hy hb
            have hlen : (bytesOf (l.take k) ++ x.bytes.take j).length ≤ 804 := by
              have := HLN.out
              rw [List.length_append, List.length_take]
              omega
            have hs2 := HB2.out.size
            go_wp2_with (first
              | (at_builtin
                 refine wpList_append_any _ rfl (.tmp 38) (.tmp 41) _ rfl w.heap.size 5 i0 _ 1 1 Tryd.underlying30 hi0 hz0 hz1 hz2 rfl (by omega) _ _ _ rfl
                   (HO2.out.alloc _) (some ⟨wr.heap.size, 0, none⟩) 1 1 [.int .u8 y] rfl (Reads.new wr _ rfl) (by simp [Value.oneCell']) (fun e => by cases e) (by simp only [maxLen]; omega) (by omega) (by simp; omega) ?_
                 intro v4 w4 hown4 hg4 hat4))
            go_roundw
            case rel =>
              have hnB : Below w.heap.size w (wr.alloc (.cells #[.int .u8 y] 5)) := HB2.out.alloc hs2 _
              refine ⟨j + 1, by omega, by go_num, ?_, ?_, ?_, ?_⟩
              · refine hnB.grown hg4 hnB.size ?_
                intro b hb
                exact (own_block HO2.out b hb).1
              · intro j' hj'
                rcases Nat.lt_or_ge j' j with h | h
                · exact HA2.out j' h
                · obtain rfl : j' = j := by omega
                  rw [← HY.out]
                  exact HG.out
              · show World.ownsRow _ _ _ _ _ _ _
                rw [bytes_take x j hjl, ← HY.out, ← List.append_assoc, byteCells_append]
                have e : Lib.byteCells [byteOf y] = [.int .u8 y] := by
                  simp only [Lib.byteCells, List.map_cons, List.map_nil, byteOf_val HG.out]
                rw [e]
                have e2 : (bytesOf (l.take k) ++ x.bytes.take j ++ [byteOf y]).length = (bytesOf (l.take k) ++ x.bytes.take j).length + 1 := by simp; omega
                rw [e2]
                exact hown4
              · have h1 := HK2.out.alloc (.cells #[.int .u8 y] 5)
                exact Blk.mod h1 (Mod.of_grown hg4) (fun e => own_blk_ne HO2.out HK2.out (by decide) e.symm)
            case measure => simp [intOf]; omega
        · obtain rfl : j = 4 := by omega
          go_wp2
          go_roundw
          case rel =>
            refine ⟨k + 1, by omega, by go_num, HB2.out, ?_, ?_⟩
            · intro j' hj' hjl'
              rcases Nat.lt_or_ge j' k with h | h
              · exact HA.out j' h hjl'
              · obtain rfl : j' = k := by omega
                rw [← HX.out]
                exact byteful_of x HA2.out
            · show World.ownsRow _ _ _ _ _ _ _
              rw [bytesOf_take l k hlt, ← HX.out]
              exact HO2.out
          case measure => simp [intOf]; omega
    · have hkl : k = l.length := by omega
      have hO := HO.out
      rw [hkl, List.take_length] at hO
      have hconv := conv_own hO
      go_wp2
      go_ret2
      refine ⟨?_, HB.out⟩
      have e : putRes l = .tuple #[.string ⟨(bytesOf l).toArray⟩, .bool true] := by
        rw [putRes, progOk_yes (by omega) (fun j hj => HA.out j (by omega) hj)]; rfl
      rw [HQ.out] at e
      subst e
      rfl

end Go.Proofs.YtdlapjfcmhkieaaDoor.Ver
