/- trap.Path: from where an error is seen. -/
import Derived.Test.YtbelbhdhcgpcpaaDoorTrapAs3
namespace Go.Proofs.YtbelbhdhcgpcpaaDoor.Trap
open Go.RowKit Go.Proofs.YtbelbhdhcgpcpaaDoor.Base
set_option linter.unusedVariables false
set_option linter.unusedSimpArgs false

theorem strInfo : (Tryd.prog.info? 9).map (fun i => (i.zero, i.size, i.bytes)) = some (some (.string ByteArray.empty), 1, 16) := by kernel_rfl
theorem info_parts1 {P : Program} {e : TypeId} {z : Option Value} {s b : Nat} (h : (P.info? e).map (fun i => (i.zero, i.size, i.bytes)) = some (z, s, b)) : ∃ i, P.info? e = some i ∧ i.zero = z ∧ i.size = s ∧ i.bytes = b := by
  cases hi : P.info? e with
  | none => rw [hi] at h; cases h
  | some i =>
    rw [hi] at h
    simp only [Option.map_some, Option.some.injEq, Prod.mk.injEq] at h
    exact ⟨i, rfl, h.1, h.2.1, h.2.2⟩
/-- A text as a cell. -/
def sc (s : ByteArray) : List Value := [.string s]
theorem sc_len (s : ByteArray) : (sc s).length = 1 := rfl
theorem sc_one (l : List ByteArray) : ∀ u ∈ enc sc l, u.oneCell' = true := by
  intro u hu
  simp only [enc, List.mem_flatMap, sc, List.mem_singleton] at hu
  obtain ⟨s, _, rfl⟩ := hu
  rfl
theorem own_keep {w w' : World} {S : Nat → Prop} {base e size n : Nat} {v : Value} {xs : List Value} (h : w.ownsRow base e size v n xs) (hm : Mod S w w') (hs : ∀ k, v.ownBlock = some k → ¬ S k) : w'.ownsRow base e size v n xs := by
  obtain ⟨h1, h2⟩ := h
  refine ⟨h1, ?_⟩
  rcases h2 with h2 | ⟨g, cap, cur, rfl, hg, hh, r⟩
  · exact .inl h2
  · exact .inr ⟨g, cap, cur, rfl, hg, Blk.mod (w := w) hh hm (hs g rfl), r⟩
theorem blk_at {w : World} {t : TypeId} {cs : Array Value} {n : Nat} (h : w.heap.size = n) : Blk (w.alloc (.cells cs t)) n t cs := h ▸ Blk.new w t cs

set_option maxRecDepth 100000 in
set_option maxHeartbeats 8000000 in
theorem path_any {n at_ : Int} {l : List ByteArray} {v : Value} (w : World) (hg : Door w) (h : ErrAt w n at_ l v) (hl : l.length ≤ 100000) :
    Calls Tryd.prog 28 #[v] w fun e w' => ∃ A c, e = .returned (.slice A l.length c) ∧ w'.ownsRow w.heap.size 9 1 (.slice A l.length c) l.length (enc sc l) ∧ Below w.heap.size w w' := by
  obtain ⟨i0, hi0, hz0, hz1, hz2⟩ := info_parts1 strInfo
  have hb := bel1 w (.cells #[.pointer none] 83)
  have HB := Lib.hid hb
  have HT := Lib.hid (Blk.new w 83 #[.pointer none])
  have HG := Lib.hid hg
  have HE := Lib.hid (h.below hb)
  clear hb hg h
  go_enter Tryd.func28, Tryd.ntmps28
  go_wp2_with fail
  go_loopg [0, 3] l.length (fun gl u0 u3 wr => ∃ (l1 l2 : List ByteArray) (A : Option Addr) (c : Nat) (old : Value), Hid (l = l1 ++ l2) ∧ Hid (l2.length = gl) ∧ Hid (ErrAt wr n at_ l2 u0) ∧ u3 = .slice A l1.length c ∧ Hid (wr.ownsRow w.heap.size 9 1 (.slice A l1.length c) l1.length (enc sc l1)) ∧ Hid (Blk wr w.heap.size 83 #[old]) ∧ Hid (Below w.heap.size w wr) )
  case atStart => exact ⟨[], l, none, 0, .pointer none, Lib.hid rfl, Lib.hid rfl, HE, rfl, Lib.hid (own_nil _ _ _ _), HT, HB⟩
  case round =>
    obtain ⟨l1, l2, A, c, old, HL, HN, HER, rfl, HO, HX, HBr⟩ := hrel
    have HD := Lib.hid (show Door wr from (HBr.out.cell (cell_lt HG.out)).trans HG.out)
    have hll : l1.length + l2.length ≤ 100000 := by have := HL.out; rw [this, List.length_append] at hl; exact hl
    cases l2 with
    | nil =>
      have K := Lib.hid (As_miss w.heap.size old wr HD.out HER.out HX.out)
      obtain ⟨b, rfl, -⟩ := HER.out
      go_wp2_with (first | (go_at_call 48; refine K.out.mono ?_; rintro e w9 ⟨rfl, hb9⟩; have HB9 := Lib.hid hb9; clear hb9))
      go_ret
      have e : l = l1 := by have := HL.out; rwa [List.append_nil] at this
      subst e
      exact ⟨A, c, rfl, own_below HO.out HB9.out, HBr.out.trans (HB9.out.mono HBr.out.size)⟩
    | cons s l2 =>
      have K := Lib.hid (As_seen w.heap.size old wr HD.out HER.out HX.out)
      have hne := own_blk_ne HO.out HX.out (by decide)
      have HNE := Lib.hid hne
      obtain ⟨tv, bv, rfl⟩ := HER.out.iface
      clear hne
      go_wp2_with (first
        | (go_at_call 48; refine K.out.mono ?_; rintro e w9 ⟨rfl, ⟨b, u, h1, h2, h3⟩, hm⟩; have HM := Lib.hid hm; have HU := Lib.hid h3; have HO9 := Lib.hid (own_keep HO.out hm (fun k hk e => HNE.out (by rw [← e]; exact hk))); have HX9 := Lib.hid h1; have c0 := h1.cell 0; have c1 := h2.cell 0; have c2 := h2.cell 1; have z0 := h1.lt; have z1 := h2.lt; simp only [List.getElem?_toArray, List.getElem?_cons_zero, List.getElem?_cons_succ] at c0 c1 c2; have HY9 := Lib.hid h2; clear h1 h2 h3 hm)
        | (refine wpList_append_any _ (by rfl) _ _ _ (by rfl) w.heap.size 9 i0 _ 1 16 Tryd.underlying39 hi0 hz0 hz1 hz2 rfl (by omega) (.slice A l1.length c) l1.length (enc sc l1) (by rfl) (own_below HO9.out (bel1 _ _)) _ 1 1 _ (by rfl) (Reads.new _ _ rfl) (by simp [Value.oneCell']) (fun e => by cases e) (by simp only [maxLen]; omega) (by omega) (by simp; omega) ?_; intro v4 w4 hown4 hg4 hat4; have hM4 := Mod.of_grown hg4; have hR9 := own_below HO9.out (bel1 w9 (.cells #[.string s] 9)); have hY4 := (HY9.out.alloc (.cells #[.string s] 9)).mod hM4 (fun e => own_blk_ne hR9 (HY9.out.alloc (.cells #[.string s] 9)) (by decide) e.symm); have hX4 := (HX9.out.alloc (.cells #[.string s] 9)).mod hM4 (fun e => own_blk_ne hR9 (HX9.out.alloc (.cells #[.string s] 9)) (by decide) e.symm); have HU4 := Lib.hid ((HU.out.below (bel1 w9 (.cells #[.string s] 9))).mod hM4 (fun k t cs hB ht e => by rcases ht with rfl | rfl; exact own_blk_ne hR9 hB (by decide) e.symm; exact own_blk_ne hR9 hB (by decide) e.symm)); have HM4 := Lib.hid (show Base.Mod (fun k => w.heap.size ≤ k) wr w4 from Mod.trans (Mod.trans (Mod.mono HM.out (fun k _ e => by omega)) (Mod.of_below (S := fun k => w.heap.size ≤ k) (bel1 w9 _)) (fun k _ e => e)) hM4 (fun k _ e => (own_block hR9 k e.symm).1)); have d0 := hX4.cell 0; have d1 := hY4.cell 1; have d2 := hX4.lt; have d3 := hY4.lt; simp only [List.getElem?_toArray, List.getElem?_cons_zero, List.getElem?_cons_succ] at d0 d1; have HX4 := Lib.hid hX4; have HO4 := Lib.hid hown4; obtain ⟨A5, c5, rfl, hc5⟩ := own_form hown4; clear hM4 hR9 hY4 hX4 hown4 hg4 hat4))
      go_roundg l2.length
      case measure => have := HN.out; simp at this; omega
      case rel =>
        refine ⟨l1 ++ [s], l2, A5, c5, _, Lib.hid (by rw [HL.out]; simp), Lib.hid rfl, HU4, by simp, Lib.hid ?_, HX4, Lib.hid ?_⟩
        · rw [enc_append, List.length_append]
          exact HO4.out
        · exact ((Mod.of_below HBr.out).trans (S := fun k => w.heap.size ≤ k) HM4.out (fun k _ e => e)).below (fun k hk e => by omega)

end Go.Proofs.YtbelbhdhcgpcpaaDoor.Trap
