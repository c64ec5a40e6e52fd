/- Digits one by one; flittinglaw1.digits. -/
import Derived.Test.YtbelbhdhcgpcpaaDoorItoaPlain
import Derived.Lib.ItoaMem
import Derived.Test.YtbelbhdhcgpcpaaDoorW0
import Derived.Test.YtbelbhdhcgpcpaaDoorProg
namespace Go.Proofs.YtbelbhdhcgpcpaaDoor.Dg
open Go.RowKit Go.Proofs.YtbelbhdhcgpcpaaDoor.Base
set_option linter.unusedVariables false
set_option linter.unusedSimpArgs false

def dgt (u : Nat) : UInt8 := UInt8.ofNat (48 + u % 10)
theorem dgt_val (u : Nat) : ((dgt u).toNat : Int) = 48 + (u : Int) % 10 := by
  unfold dgt
  rw [digit_val (by omega)]
  omega
/-- u: what is left, l: what is done. -/
def DgInv (n u : Nat) (l : List UInt8) : Prop := ((0 < u ∨ l = []) → Lib.decDigits n = Lib.decDigits u ++ l) ∧ (u = 0 → l ≠ [] → Lib.decDigits n = l)
theorem DgInv.start (n : Nat) : DgInv n n [] := ⟨fun _ => by simp, fun _ h => absurd rfl h⟩
theorem DgInv.step {n u : Nat} {l : List UInt8} (h : DgInv n u l) (hg : 0 < u ∨ l = []) : DgInv n (u / 10) (dgt u :: l) := by
  have h1 := h.1 hg
  refine ⟨fun hg2 => ?_, fun h0 _ => ?_⟩
  · rcases hg2 with hg2 | hg2
    · rw [h1, decDigits_rec u (by omega), List.append_assoc]; rfl
    · cases hg2
  · rw [h1, Lib.decDigits_one (by omega)]
    show [UInt8.ofNat (48 + u)] ++ l = _
    have : u % 10 = u := by omega
    simp [dgt, this]
theorem DgInv.len {n u : Nat} {l : List UInt8} (hn : n ≤ 9223372036854775808) (h : DgInv n u l) : l.length ≤ 21 := by
  have hL : (Lib.decDigits n).length ≤ 21 := by
    have := Lib.itoa_length_le (-(n : Int)) (by omega) (by omega)
    rcases Nat.eq_zero_or_pos n with h0 | h0
    · rw [h0, Lib.decDigits_one (by omega)]; simp
    · rw [Lib.itoa_neg n h0] at this
      simp at this; omega
  by_cases hg : 0 < u ∨ l = []
  · rw [h.1 hg, List.length_append] at hL; omega
  · rw [h.2 (by omega) (fun e => hg (.inr e))] at hL; exact hL
theorem DgInv.stop {n u : Nat} {l : List UInt8} (h : DgInv n u l) (hg : ¬ (0 < u ∨ l = [])) : l = Lib.decDigits n := by
  exact (h.2 (by omega) (fun e => hg (.inr e))).symm

theorem cat_one (d : UInt8) (l : List UInt8) : ((⟨#[d]⟩ : ByteArray) ++ ⟨l.toArray⟩) = ⟨(d :: l).toArray⟩ := by
  apply ByteArray.ext
  simp
theorem conv_one (w : World) (d : UInt8) (x : Int) (hx : (d.toNat : Int) = x) :
    (convert 69 9 (.slice (some ⟨w.heap.size, 0, none⟩) 1 1)).run Tryd.prog (w.alloc (.cells #[.int .u8 x] 5)) = .ok (.string ⟨#[d]⟩) (w.alloc (.cells #[.int .u8 x] 5)) := by
  subst hx
  refine run_convert_bytes_back _ _ _ _ ⟨w.heap.size, 0, none⟩ 1 [d] Tryd.underlying69 Tryd.underlying5 Tryd.underlying9 (fun j hj => ?_)
  have hj0 : j = 0 := by simpa using hj
  subst hj0
  simp [Addr.add]
theorem u64_is (v : Int) : IntKind.u64.wrap v = v % 18446744073709551616 := by simp [IntKind.wrap, IntKind.bits, IntKind.signed]
theorem u64_neg (n : Nat) (h : n ≤ 9223372036854775808) : IntKind.u64.wrap (-IntKind.u64.wrap (-(n : Int))) = (n : Int) := by
  rw [u64_is, u64_is]; omega
theorem u64_pos (n : Nat) (h : n ≤ 9223372036854775807) : IntKind.u64.wrap (n : Int) = (n : Int) := by
  rw [u64_is]; omega
theorem itoa_minus (n : Nat) (h : 0 < n) : Lib.itoa (-(n : Int)) = 45 :: Lib.decDigits n := Lib.itoa_neg n h
set_option maxRecDepth 100000 in
set_option maxHeartbeats 2000000 in
theorem digits_any (v : Int) (h0 : -9223372036854775808 ≤ v) (h1 : v ≤ 9223372036854775807) (w : World) :
    Calls Tryd.prog 24 #[.int .i64 v] w fun e w' => e = .returned (.string ⟨(Lib.itoa v).toArray⟩) ∧ Below w.heap.size w w' := by
  by_cases hv : v < 0
  · obtain ⟨n, rfl⟩ : ∃ n : Nat, v = -(n : Int) := ⟨v.natAbs, by omega⟩
    have d0 : decide (-(n : Int) < 0) = true := decide_eq_true hv
    have hn0 : 0 < n := by omega
    go_enter Tryd.func24, Tryd.ntmps24
    go_wp2
    go_loopg [3, 4] (n + 1) (fun g q o wr => ∃ (u : Nat) (l : List UInt8), o = .int .u64 (u : Int) ∧ q = .string ⟨l.toArray⟩ ∧ u ≤ n ∧ Hid (DgInv n u l) ∧ Hid (Below w.heap.size w wr) ∧ g = (if l = [] then u + 1 else u))
    case atStart => exact ⟨n, [], congrArg (Value.int .u64) (u64_neg n (by omega)), rfl, Nat.le_refl _, Lib.hid (DgInv.start n), Lib.hid (Below.refl _ _), by simp⟩
    case round =>
      obtain ⟨u, l, rfl, rfl, hu, HI, HB, hg⟩ := hrel
      have hgk : u ≤ gk ∧ (l = [] → gk = u + 1) := by rw [hg]; split <;> simp_all
      clear hg
      by_cases h : 0 < u ∨ l = []
      · have HS := Lib.hid (HI.out.step h)
        have hlen := HI.out.len (by omega)
        have hd := dgt_val u
        have hsz := HB.out.size
        have hcv := conv_one wr (dgt u) _ hd
        rcases (by omega : (0 < u) ∨ (¬ 0 < u)) with h0 | h0
        · clear h
          go_wp2
          all_goals (first | (exfalso; omega) | skip)
          go_roundg (u / 10)
          case measure => omega
          case rel =>
            refine ⟨u / 10, dgt u :: l, by go_num, congrArg Value.string (cat_one _ _), by omega, HS, ?_, by simp⟩
            show Below _ _ _
            exact HB.out.alloc hsz _
        · have hl0 : l = [] := h.resolve_left h0
          subst hl0
          have hgk1 := hgk.2 rfl
          go_wp2
          all_goals (first | (exfalso; omega) | skip)
          go_roundg (u / 10)
          case measure => omega
          case rel =>
            refine ⟨u / 10, [dgt u], by go_num, congrArg Value.string (cat_one _ []), by omega, HS, ?_, by simp⟩
            show Below _ _ _
            exact HB.out.alloc hsz _
      · have h1 : ¬ 0 < u := fun e => h (.inl e)
        have h2 : l ≠ [] := fun e => h (.inr e)
        have HE := Lib.hid (HI.out.stop h)
        have hlen := HI.out.len (by omega)
        have h3 : l.isEmpty = false := by cases l; exact absurd rfl h2; rfl
        have hle : ¬ 0 < u := h1
        clear h h1 h2
        go_wp2
        all_goals (first | (exfalso; omega) | skip)
        go_ret
        exact ⟨by rw [itoa_minus n (by omega), ← HE.out, cat_one]; rfl, HB.out⟩
  · obtain ⟨n, rfl⟩ : ∃ n : Nat, v = (n : Int) := ⟨v.toNat, by omega⟩
    have d0 : decide ((n : Int) < 0) = false := decide_eq_false hv
    go_enter Tryd.func24, Tryd.ntmps24
    go_wp2
    go_loopg [3, 4] (n + 1) (fun g q o wr => ∃ (u : Nat) (l : List UInt8), o = .int .u64 (u : Int) ∧ q = .string ⟨l.toArray⟩ ∧ u ≤ n ∧ Hid (DgInv n u l) ∧ Hid (Below w.heap.size w wr) ∧ g = (if l = [] then u + 1 else u))
    case atStart => exact ⟨n, [], by first | rfl | exact congrArg (Value.int .u64) (u64_pos n (by omega)), rfl, Nat.le_refl _, Lib.hid (DgInv.start n), Lib.hid (Below.refl _ _), by simp⟩
    case round =>
      obtain ⟨u, l, rfl, rfl, hu, HI, HB, hg⟩ := hrel
      have hgk : u ≤ gk ∧ (l = [] → gk = u + 1) := by rw [hg]; split <;> simp_all
      clear hg
      by_cases h : 0 < u ∨ l = []
      · have HS := Lib.hid (HI.out.step h)
        have hlen := HI.out.len (by omega)
        have hd := dgt_val u
        have hsz := HB.out.size
        have hcv := conv_one wr (dgt u) _ hd
        rcases (by omega : (0 < u) ∨ (¬ 0 < u)) with h0 | h0
        · clear h
          go_wp2
          all_goals (first | (exfalso; omega) | skip)
          go_roundg (u / 10)
          case measure => omega
          case rel =>
            refine ⟨u / 10, dgt u :: l, by go_num, congrArg Value.string (cat_one _ _), by omega, HS, ?_, by simp⟩
            show Below _ _ _
            exact HB.out.alloc hsz _
        · have hl0 : l = [] := h.resolve_left h0
          subst hl0
          have hgk1 := hgk.2 rfl
          go_wp2
          all_goals (first | (exfalso; omega) | skip)
          go_roundg (u / 10)
          case measure => omega
          case rel =>
            refine ⟨u / 10, [dgt u], by go_num, congrArg Value.string (cat_one _ []), by omega, HS, ?_, by simp⟩
            show Below _ _ _
            exact HB.out.alloc hsz _
      · have h1 : ¬ 0 < u := fun e => h (.inl e)
        have h2 : l ≠ [] := fun e => h (.inr e)
        have HE := Lib.hid (HI.out.stop h)
        have hlen := HI.out.len (by omega)
        have h3 : l.isEmpty = false := by cases l; exact absurd rfl h2; rfl
        have hle : ¬ 0 < u := h1
        clear h h1 h2
        go_wp2
        all_goals (first | (exfalso; omega) | skip)
        go_ret
        exact ⟨by rw [Lib.itoa_nonneg, ← HE.out]; rfl, HB.out⟩

end Go.Proofs.YtbelbhdhcgpcpaaDoor.Dg
