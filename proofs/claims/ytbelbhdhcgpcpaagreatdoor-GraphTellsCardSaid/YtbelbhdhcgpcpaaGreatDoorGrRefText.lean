/- The reference's Digits and Text. -/
import Derived.Test.YtbelbhdhcgpcpaaGreatDoorGrTexts
import Derived.Test.YtbelbhdhcgpcpaaGreatDoorItoaPlain
import Derived.Lib.ItoaMem
namespace Go.Proofs.YtbelbhdhcgpcpaaGreatDoor.Gr
open Go.RowKit Go.Proofs.YtbelbhdhcgpcpaaGreatDoor.Base Go.Proofs.YtbelbhdhcgpcpaaGreatDoor.Str
set_option linter.unusedVariables false
set_option linter.unusedSimpArgs false

def dgt (u : Nat) : UInt8 := UInt8.ofNat (48 + u % 10)
theorem dgt_val (u : Nat) : ((dgt u).toNat : Int) = 48 + (u : Int) % 10 := by
  unfold dgt
  rw [digit_val (by omega)]
  omega
/-- u: what is left, l: what is done. -/
def DgInv (n u : Nat) (l : List UInt8) : Prop := ((0 < u ∨ l = []) → Lib.decDigits n = Lib.decDigits u ++ l) ∧ (u = 0 → l ≠ [] → Lib.decDigits n = l)
theorem DgInv.start (n : Nat) : DgInv n n [] := ⟨fun _ => by simp, fun _ h => absurd rfl h⟩
theorem DgInv.step {n u : Nat} {l : List UInt8} (h : DgInv n u l) (hg : 0 < u ∨ l = []) : DgInv n (u / 10) (dgt u :: l) := by
  have h1 := h.1 hg
  refine ⟨fun hg2 => ?_, fun h0 _ => ?_⟩
  · rcases hg2 with hg2 | hg2
    · rw [h1, decDigits_rec u (by omega), List.append_assoc]; rfl
    · cases hg2
  · rw [h1, Lib.decDigits_one (by omega)]
    show [UInt8.ofNat (48 + u)] ++ l = _
    have : u % 10 = u := by omega
    simp [dgt, this]
theorem DgInv.len {n u : Nat} {l : List UInt8} (hn : n ≤ 9223372036854775807) (h : DgInv n u l) : l.length ≤ 21 := by
  have hL : (Lib.decDigits n).length ≤ 21 := by
    have := Lib.itoa_length_le (n : Int) (by omega) (by omega)
    rwa [Lib.itoa_nonneg] at this
  by_cases hg : 0 < u ∨ l = []
  · rw [h.1 hg, List.length_append] at hL; omega
  · rw [h.2 (by omega) (fun e => hg (.inr e))] at hL; exact hL
theorem DgInv.stop {n u : Nat} {l : List UInt8} (h : DgInv n u l) (hg : ¬ (0 < u ∨ l = [])) : l = Lib.itoa (n : Int) := by
  rw [Lib.itoa_nonneg]
  exact (h.2 (by omega) (fun e => hg (.inr e))).symm

theorem cat_one (d : UInt8) (l : List UInt8) : ((⟨#[d]⟩ : ByteArray) ++ ⟨l.toArray⟩) = ⟨(d :: l).toArray⟩ := by
  apply ByteArray.ext
  simp
theorem conv_one (w : World) (d : UInt8) (x : Int) (hx : (d.toNat : Int) = x) :
    (convert 61 9 (.slice (some ⟨w.heap.size, 0, none⟩) 1 1)).run Tryz.prog (w.alloc (.cells #[.int .u8 x] 5)) = .ok (.string ⟨#[d]⟩) (w.alloc (.cells #[.int .u8 x] 5)) := by
  subst hx
  refine run_convert_bytes_back _ _ _ _ ⟨w.heap.size, 0, none⟩ 1 [d] Tryz.underlying61 Tryz.underlying5 Tryz.underlying9 (fun j hj => ?_)
  have hj0 : j = 0 := by simpa using hj
  subst hj0
  simp [Addr.add]
set_option maxRecDepth 100000 in
set_option maxHeartbeats 2000000 in
theorem digits_any (n : Nat) (hn : n ≤ 9223372036854775807) (w : World) :
    Calls Tryz.prog 42 #[.int .i64 (n : Int)] w fun e w' => e = .returned (.string ⟨(Lib.itoa (n : Int)).toArray⟩) ∧ Below w.heap.size w w' := by
  go_enter Tryz.func42, Tryz.ntmps42
  go_wp2
  go_loopg [0, 3] (n + 1) (fun g o q wr => ∃ (u : Nat) (l : List UInt8), o = .int .i64 (u : Int) ∧ q = .string ⟨l.toArray⟩ ∧ u ≤ n ∧ Hid (DgInv n u l) ∧ Hid (Below w.heap.size w wr) ∧ g = (if l = [] then u + 1 else u))
  case atStart => exact ⟨n, [], rfl, rfl, Nat.le_refl _, Lib.hid (DgInv.start n), Lib.hid (Below.refl _ _), by simp⟩
  case round =>
    obtain ⟨u, l, rfl, rfl, hu, HI, HB, hg⟩ := hrel
    have hgk : u ≤ gk ∧ (l = [] → gk = u + 1) := by rw [hg]; split <;> simp_all
    clear hg
    by_cases h : 0 < u ∨ l = []
    · have HS := Lib.hid (HI.out.step h)
      have hlen := HI.out.len hn
      have hd := dgt_val u
      have hsz := HB.out.size
      have hq : (u : Int).tmod 10 = (u : Int) % 10 := Int.tmod_eq_emod_of_nonneg (by omega)
      have hq2 : (u : Int).tdiv 10 = ((u / 10 : Nat) : Int) := by rw [Int.tdiv_eq_ediv_of_nonneg (by omega)]; omega
      rcases (by omega : (0 < u) ∨ (¬ 0 < u)) with h0 | h0
      · have d1 : decide ((u : Int) > 0) = true := decide_eq_true (by omega)
        clear h
        have hcv := conv_one wr (dgt u) _ hd
        go_wp2
        all_goals (first | (exfalso; omega) | skip)
        go_roundg (u / 10)
        case measure => omega
        case rel =>
          refine ⟨u / 10, dgt u :: l, by go_num, congrArg Value.string (cat_one _ _), by omega, HS, ?_, by simp⟩
          show Below _ _ _
          exact HB.out.alloc hsz _
      · have hl0 : l = [] := h.resolve_left h0
        have d1 : decide ((u : Int) > 0) = false := decide_eq_false (by omega)
        subst hl0
        have hgk1 := hgk.2 rfl
        have hcv := conv_one wr (dgt u) _ hd
        go_wp2
        all_goals (first | (exfalso; omega) | skip)
        go_roundg (u / 10)
        case measure => omega
        case rel =>
          refine ⟨u / 10, [dgt u], by go_num, congrArg Value.string (cat_one _ []), by omega, HS, ?_, by simp⟩
          show Below _ _ _
          exact HB.out.alloc hsz _
    · have h1 : ¬ 0 < u := fun e => h (.inl e)
      have h2 : l ≠ [] := fun e => h (.inr e)
      have HE := Lib.hid (HI.out.stop h)
      have h3 : l.isEmpty = false := by cases l; exact absurd rfl h2; rfl
      have d1 : decide ((u : Int) > 0) = false := decide_eq_false (by omega)
      have hle : ¬ 0 < u := h1
      clear h h1 h2
      go_wp2
      all_goals (first | (exfalso; omega) | skip)
      go_ret
      exact ⟨by rw [← HE.out]; rfl, HB.out⟩


/-- Numbers that the reference can write. -/
def pos (l : List Int) : Prop := ∀ v ∈ l, 0 ≤ v ∧ v ≤ 9223372036854775807
theorem pos_fits {l : List Int} (h : pos l) : fits l := fun v hv => by have := h v hv; omega
theorem numsText_short {l : List Int} (h : pos l) (hl : l.length ≤ 1000) (k : Nat) : (numsText (l.take k)).length ≤ 22000 := by
  have := numsText_len (l := l.take k) (fun v hv => pos_fits h v (List.mem_of_mem_take hv))
  rw [List.length_take] at this
  omega
def ndPos (x : Nd) : Prop := x.slots.length ≤ 1000 ∧ x.words.length ≤ 1000 ∧ pos x.slots ∧ pos x.words
theorem ndPos_fits {x : Nd} (h : ndPos x) : ndFits x := ⟨h.1, h.2.1, pos_fits h.2.2.1, pos_fits h.2.2.2⟩

theorem cat3 (a y : List UInt8) : (⟨a.toArray⟩ ++ ⟨#[32]⟩ ++ ⟨y.toArray⟩ : ByteArray) = ⟨(a ++ 32 :: y).toArray⟩ := by
  rw [show (⟨#[32]⟩ : ByteArray) = ⟨([32] : List UInt8).toArray⟩ from rfl, str_append, str_append]
  simp
theorem cat2 (a : List UInt8) (q : UInt8) : (⟨a.toArray⟩ ++ ⟨#[q]⟩ : ByteArray) = ⟨(a ++ [q]).toArray⟩ := by
  rw [show (⟨#[q]⟩ : ByteArray) = ⟨([q] : List UInt8).toArray⟩ from rfl, str_append]
set_option maxRecDepth 100000 in
set_option maxHeartbeats 8000000 in
theorem rtext_any (A D : Option Addr) (g : Gr) (c d : Nat) (w : World) (hA : Ints w A g.roots) (hD : Nodes w D g.nodes) (hl : g.roots.length ≤ 1000) (hl2 : g.nodes.length ≤ 100000) (hf : pos g.roots) (hf2 : ∀ x ∈ g.nodes, ndPos x) :
    Calls Tryz.prog 19 #[.agg #[.slice A g.roots.length c, .slice D g.nodes.length d]] w fun e w' => e = .returned (.string ⟨(grText g).toArray⟩) ∧ Below w.heap.size w w' := by
  have hb := below_1 w (.cells #[.slice A g.roots.length c, .slice D g.nodes.length d] 25)
  have HA := Lib.hid (hA.below hb)
  have HD := Lib.hid (hD.below hb)
  have HF := Lib.hid hf
  have HF2 := Lib.hid hf2
  have HB := Lib.hid hb
  have HG := Lib.hid (Blk.new w 25 #[.slice A g.roots.length c, .slice D g.nodes.length d])
  clear hA hD hf hf2 hb
  go_enter Tryz.func19, Tryz.ntmps19
  go_wp2_with fail
  go_loopw [3, 4] (fun s i wr => ∃ (k : Nat) (l : List UInt8), k ≤ g.roots.length ∧ i = .int .i64 (k : Int) ∧ s = .string ⟨l.toArray⟩ ∧ l.length ≤ 100 + 22 * k ∧ Hid (l = 114 :: numsText (g.roots.take k)) ∧ Hid (Below (w.heap.size + 1) (w.alloc (.cells #[.slice A g.roots.length c, .slice D g.nodes.length d] 25)) wr)) (fun s i _ => g.roots.length - (intOf i).toNat)
  case atStart => exact ⟨0, [114], Nat.zero_le _, rfl, rfl, by simp, Lib.hid (by simp [numsText]), Lib.hid (Below.refl _ _)⟩
  case round =>
    obtain ⟨k, l, hk, rfl, rfl, hll, HL, HBr⟩ := hrel
    have HGr := Lib.hid (HG.out.below HBr.out (Nat.lt_succ_self _))
    have c0 := HGr.out.cell 0
    have c1 := HGr.out.cell 1
    have cz := HGr.out.lt
    simp only [List.getElem?_toArray, List.getElem?_cons_zero, List.getElem?_cons_succ] at c0 c1
    have HBz := Lib.hid (show Below (w.alloc (.cells #[.slice A g.roots.length c, .slice D g.nodes.length d] 25)).heap.size (w.alloc (.cells #[.slice A g.roots.length c, .slice D g.nodes.length d] 25)) wr by rw [World.size_alloc]; exact HBr.out)
    by_cases hlt : k < g.roots.length
    · obtain ⟨ad, rfl, d1⟩ := (HA.out.below HBz.out).at_ k hlt
      have hdk := HF.out _ (List.getElem_mem hlt)
      have HN := Lib.hid (numsText_take g.roots k hlt)
      generalize g.roots[k] = v at d1 hdk HN
      obtain ⟨n, rfl⟩ : ∃ n : Nat, v = n := ⟨v.toNat, by omega⟩
      have hlen := Lib.itoa_length_le (n : Int) (by omega) (by omega)
      have s1 : ¬ 9223372036854775807 < l.length + 1 := by omega
      have KD := Lib.hid (digits_any n (by omega) wr)
      go_wp2_with fail
      refine KD.out.mono ?_
      rintro e w2 ⟨rfl, hb2⟩
      generalize hy : Lib.itoa (n : Int) = y at hlen HN
      have s2 : ¬ 9223372036854775807 < l.length + 1 + y.length := by omega
      have HB2 := Lib.hid (HBr.out.trans (hb2.mono (by have := HBr.out.size; simp at this; omega)))
      clear hy hb2
      go_wp2_with fail
      go_roundw
      case rel => exact ⟨k + 1, l ++ 32 :: y, by omega, by go_num, congrArg Value.string (cat3 _ _), by simp only [List.length_append, List.length_cons]; omega, Lib.hid (by rw [HL.out, HN.out]; simp), HB2⟩
      case measure => simp [intOf]; omega
    · have hke : k = g.roots.length := by omega
      subst hke
      have HL0 := Lib.hid HL.out
      rw [List.take_length] at HL0
      have HAL := Lib.hid hlt
      clear hlt hk HL
      go_wp2_with fail
      have HB1 := Lib.hid HBr.out
      go_loopw [3, 5] (fun s i wr => ∃ (k : Nat) (l : List UInt8), k ≤ g.nodes.length ∧ i = .int .i64 (k : Int) ∧ s = .string ⟨l.toArray⟩ ∧ l.length ≤ 1000000 + 50000 * k ∧ Hid (l = 114 :: numsText g.roots ++ (g.nodes.take k).flatMap ndText) ∧ Hid (Below (w.heap.size + 1) (w.alloc (.cells #[.slice A g.roots.length c, .slice D g.nodes.length d] 25)) wr)) (fun s i _ => g.nodes.length - (intOf i).toNat)
      case atStart => exact ⟨0, l, Nat.zero_le _, rfl, rfl, by omega, Lib.hid (by rw [HL0.out]; simp), HBr⟩
      case round =>
        clear c0 c1 cz HGr HBz HBr HB1 hll HL0
        obtain ⟨wq, hwq⟩ : ∃ wq, wq = wr := ⟨_, rfl⟩
        obtain ⟨k, l, hk, rfl, rfl, hll, HL, HBr⟩ := hrel
        subst hwq
        have HGr := Lib.hid (HG.out.below HBr.out (Nat.lt_succ_self _))
        have c1 := HGr.out.cell 1
        have cz := HGr.out.lt
        simp only [List.getElem?_toArray, List.getElem?_cons_zero, List.getElem?_cons_succ] at c1
        by_cases hlt : k < g.nodes.length
        · have HBz := Lib.hid (show Below (w.alloc (.cells #[.slice A g.roots.length c, .slice D g.nodes.length d] 25)).heap.size (w.alloc (.cells #[.slice A g.roots.length c, .slice D g.nodes.length d] 25)) wq by rw [World.size_alloc]; exact HBr.out)
          obtain ⟨dd, As, cs, Bs, ds, rfl, d2, d3, i1, i2⟩ := nds_at (HD.out.below HBz.out) k hlt
          have hx := HF2.out _ (List.getElem_mem hlt)
          have HTK1 := Lib.hid (grText_take g.nodes k hlt)
          generalize g.nodes[k] = x at d2 d3 i1 i2 hx HTK1
          have HI1 := Lib.hid i1
          have HI2 := Lib.hid i2
          have HP1 := Lib.hid hx.2.2.1
          have HP2 := Lib.hid hx.2.2.2
          have hxl1 := hx.1
          have hxl2 := hx.2.1
          have hk1 : k ≤ 100000 := by omega
          have s0 : ¬ 9223372036854775807 < l.length + 1 := by omega
          have HD1 := Lib.hid (show ∀ W, Below wq.heap.size wq W → W.cell? ⟨w.heap.size, 1, none⟩ = some (.slice (some dd) g.nodes.length d) ∧ W.cell? (dd.add (k * 2)) = some (.slice As x.slots.length cs) ∧ W.cell? ⟨(dd.add (k * 2)).block, (dd.add (k * 2)).off + 1, none⟩ = some (.slice Bs x.words.length ds) from fun W hb =>
            ⟨(hb.cell (p := ⟨w.heap.size, 1, none⟩) cz).trans c1, (hb.cell (cell_lt d2)).trans d2, (hb.cell (cell_lt d3)).trans d3⟩)
          have HLN := Lib.hid (show (ndText x).length ≤ 50000 from ndText_len (ndPos_fits hx))
          have hwz : w.heap.size + 1 ≤ wq.heap.size := by have := HBr.out.size; simp at this; omega
          clear i1 i2 hx
          go_wp2_with fail
          rw [cat2]
          have hl1 : (l ++ [59]).length ≤ 1000000 + 50000 * k + 1 := by simp only [List.length_append, List.length_cons, List.length_nil]; omega
          generalize hy1 : l ++ [59] = y1 at hl1
          have HY1 := Lib.hid hy1
          clear hy1
          go_loopw [3, 6] (fun s i wr => ∃ (j : Nat) (l : List UInt8), j ≤ x.slots.length ∧ i = .int .i64 (j : Int) ∧ s = .string ⟨l.toArray⟩ ∧ l.length ≤ 1000000 + 50000 * k + 1 + 22 * j ∧ Hid (l = y1 ++ numsText (x.slots.take j)) ∧ Hid (Below wq.heap.size wq wr)) (fun s i _ => x.slots.length - (intOf i).toNat)
          case atStart => exact ⟨0, y1, Nat.zero_le _, rfl, rfl, by omega, Lib.hid (by simp [numsText]), Lib.hid (Below.refl _ _)⟩
          case round =>
            obtain ⟨j, l1, hj, rfl, rfl, hl2, HL2, HBi⟩ := hrel
            obtain ⟨e1, e2, e3⟩ := HD1.out _ HBi.out
            clear c1 d2 d3
            by_cases hjl : j < x.slots.length
            · obtain ⟨sd, rfl, d1⟩ := (HI1.out.below HBi.out).at_ j hjl
              have hdk := HP1.out _ (List.getElem_mem hjl)
              have HN := Lib.hid (numsText_take x.slots j hjl)
              generalize x.slots[j] = v at d1 hdk HN
              obtain ⟨n, rfl⟩ : ∃ n : Nat, v = n := ⟨v.toNat, by omega⟩
              have hlen := Lib.itoa_length_le (n : Int) (by omega) (by omega)
              have s1 : ¬ 9223372036854775807 < l1.length + 1 := by omega
              have KD := Lib.hid (digits_any n (by omega) wr)
              go_wp2_with fail
              refine KD.out.mono ?_
              rintro e w2 ⟨rfl, hb2⟩
              generalize hy : Lib.itoa (n : Int) = y at hlen HN
              have s2 : ¬ 9223372036854775807 < l1.length + 1 + y.length := by omega
              have HB2 := Lib.hid (below_then HBi.out hb2)
              clear hy hb2
              go_wp2_with fail
              go_roundw
              case rel => exact ⟨j + 1, l1 ++ 32 :: y, by omega, by go_num, congrArg Value.string (cat3 _ _), by simp only [List.length_append, List.length_cons]; omega, Lib.hid (by rw [HL2.out, HN.out]; simp), HB2⟩
              case measure => simp [intOf]; omega
            · have hje : j = x.slots.length := by omega
              subst hje
              have HL3 := Lib.hid HL2.out
              rw [List.take_length] at HL3
              have s3 : ¬ 9223372036854775807 < l1.length + 1 := by omega
              have HB3 := Lib.hid (show Below wq.heap.size wq wr from HBi.out)
              clear hjl hj HL2
              go_wp2_with fail
              rw [cat2]
              have hl3 : (l1 ++ [124]).length ≤ 2000000 + 50000 * k := by simp only [List.length_append, List.length_cons, List.length_nil]; omega
              generalize hy2 : l1 ++ [124] = y2 at hl3
              have HY2 := Lib.hid hy2
              clear hy2
              go_loopw [3, 7] (fun s i wr => ∃ (j : Nat) (l : List UInt8), j ≤ x.words.length ∧ i = .int .i64 (j : Int) ∧ s = .string ⟨l.toArray⟩ ∧ l.length ≤ 2000000 + 50000 * k + 22 * j ∧ Hid (l = y2 ++ numsText (x.words.take j)) ∧ Hid (Below wq.heap.size wq wr)) (fun s i _ => x.words.length - (intOf i).toNat)
              case atStart => exact ⟨0, y2, Nat.zero_le _, rfl, rfl, by omega, Lib.hid (by simp [numsText]), HBi⟩
              case round =>
                clear e1 e2 e3 HBi HB3 s3 hl2
                obtain ⟨j, l2, hj, rfl, rfl, hl2, HL2, HBi⟩ := hrel
                obtain ⟨e1, e2, e3⟩ := HD1.out _ HBi.out
                by_cases hjl : j < x.words.length
                · obtain ⟨sd, rfl, d1⟩ := (HI2.out.below HBi.out).at_ j hjl
                  have hdk := HP2.out _ (List.getElem_mem hjl)
                  have HN := Lib.hid (numsText_take x.words j hjl)
                  generalize x.words[j] = v at d1 hdk HN
                  obtain ⟨n, rfl⟩ : ∃ n : Nat, v = n := ⟨v.toNat, by omega⟩
                  have hlen := Lib.itoa_length_le (n : Int) (by omega) (by omega)
                  have s1 : ¬ 9223372036854775807 < l2.length + 1 := by omega
                  have KD := Lib.hid (fun (W : World) => digits_any n (by omega) W)
                  go_wp2_with fail
                  refine (KD.out _).mono ?_
                  rintro e w2 ⟨rfl, hb2⟩
                  generalize hy : Lib.itoa (n : Int) = y at hlen HN
                  have s2 : ¬ 9223372036854775807 < l2.length + 1 + y.length := by omega
                  have HB2 := Lib.hid (below_then HBi.out hb2)
                  clear hy hb2
                  go_wp2_with fail
                  go_roundw
                  case rel => exact ⟨j + 1, l2 ++ 32 :: y, by omega, by go_num, congrArg Value.string (cat3 _ _), by simp only [List.length_append, List.length_cons]; omega, Lib.hid (by rw [HL2.out, HN.out]; simp), HB2⟩
                  case measure => simp [intOf]; omega
                · have hje : j = x.words.length := by omega
                  subst hje
                  have HL4 := Lib.hid HL2.out
                  rw [List.take_length] at HL4
                  have hle : l2 = 114 :: numsText g.roots ++ (g.nodes.take (k + 1)).flatMap ndText := by
                    rw [HTK1.out, HL4.out, ← HY2.out, HL3.out, ← HY1.out, HL.out]
                    simp [ndText]
                  have HLE := Lib.hid hle
                  have hlb : l2.length ≤ 1000000 + 50000 * (k + 1) := by
                    have h1 := HLN.out
                    have h2 : l2 = l ++ ndText x := by rw [HL4.out, ← HY2.out, HL3.out, ← HY1.out]; simp [ndText]
                    rw [h2, List.length_append]
                    omega
                  have HB4 := Lib.hid (show Below (w.heap.size + 1) _ _ from HBr.out.trans (HBi.out.mono hwz))
                  clear hle hjl hj
                  go_wp2_with fail
                  go_roundw
                  case rel => exact ⟨k + 1, l2, by omega, by go_num, rfl, hlb, HLE, HB4⟩
                  case measure => simp [intOf]; omega
        · have hke : k = g.nodes.length := by omega
          subst hke
          have HL4 := Lib.hid HL.out
          rw [List.take_length] at HL4
          go_wp2_with fail
          go_ret
          refine ⟨congrArg (fun q => Ending.returned (.string ⟨q⟩)) (congrArg List.toArray HL4.out), ?_⟩
          exact (HB.out.mono (Nat.le_refl _)).trans (HBr.out.mono (Nat.le_succ _))
end Go.Proofs.YtbelbhdhcgpcpaaGreatDoor.Gr
