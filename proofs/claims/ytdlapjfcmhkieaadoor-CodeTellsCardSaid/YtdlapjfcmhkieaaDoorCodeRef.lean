/- The reference's Digits and Name, and signed. -/
import Derived.Test.YtdlapjfcmhkieaaDoorCodeNames
import Derived.Test.YtdlapjfcmhkieaaDoorItoaPlain
import Derived.Lib.ItoaMem
namespace Go.Proofs.YtdlapjfcmhkieaaDoor.Ver
open Go.RowKit Go.Proofs.YtdlapjfcmhkieaaDoor.Base
set_option linter.unusedVariables false
set_option linter.unusedSimpArgs false

def dgt (u : Nat) : UInt8 := UInt8.ofNat (48 + u % 10)
theorem dgt_val (u : Nat) : ((dgt u).toNat : Int) = 48 + (u : Int) % 10 := by
  unfold dgt
  rw [digit_val (by omega)]
  omega
/-- u: what is left, l: what is done. -/
def DgInv (n u : Nat) (l : List UInt8) : Prop := ((0 < u ∨ l = []) → Lib.decDigits n = Lib.decDigits u ++ l) ∧ (u = 0 → l ≠ [] → Lib.decDigits n = l)
theorem DgInv.start (n : Nat) : DgInv n n [] := ⟨fun _ => by simp, fun _ h => absurd rfl h⟩
theorem DgInv.step {n u : Nat} {l : List UInt8} (h : DgInv n u l) (hg : 0 < u ∨ l = []) : DgInv n (u / 10) (dgt u :: l) := by
  have h1 := h.1 hg
  refine ⟨fun hg2 => ?_, fun h0 _ => ?_⟩
  · rcases hg2 with hg2 | hg2
    · rw [h1, decDigits_rec u (by omega), List.append_assoc]; rfl
    · cases hg2
  · rw [h1, Lib.decDigits_one (by omega)]
    show [UInt8.ofNat (48 + u)] ++ l = _
    have : u % 10 = u := by omega
    simp [dgt, this]
theorem DgInv.len {n u : Nat} {l : List UInt8} (hn : n ≤ 9223372036854775807) (h : DgInv n u l) : l.length ≤ 21 := by
  have hL : (Lib.decDigits n).length ≤ 21 := by
    have := Lib.itoa_length_le (n : Int) (by omega) (by omega)
    rwa [Lib.itoa_nonneg] at this
  by_cases hg : 0 < u ∨ l = []
  · rw [h.1 hg, List.length_append] at hL; omega
  · rw [h.2 (by omega) (fun e => hg (.inr e))] at hL; exact hL
theorem DgInv.stop {n u : Nat} {l : List UInt8} (h : DgInv n u l) (hg : ¬ (0 < u ∨ l = [])) : l = Lib.itoa (n : Int) := by
  rw [Lib.itoa_nonneg]
  exact (h.2 (by omega) (fun e => hg (.inr e))).symm

theorem cat_one (d : UInt8) (l : List UInt8) : ((⟨#[d]⟩ : ByteArray) ++ ⟨l.toArray⟩) = ⟨(d :: l).toArray⟩ := by
  apply ByteArray.ext
  simp
theorem conv_one (w : World) (d : UInt8) (x : Int) (hx : (d.toNat : Int) = x) :
    (convert 30 9 (.slice (some ⟨w.heap.size, 0, none⟩) 1 1)).run Tryd.prog (w.alloc (.cells #[.int .u8 x] 5)) = .ok (.string ⟨#[d]⟩) (w.alloc (.cells #[.int .u8 x] 5)) := by
  subst hx
  refine run_convert_bytes_back _ _ _ _ ⟨w.heap.size, 0, none⟩ 1 [d] Tryd.underlying30 Tryd.underlying5 Tryd.underlying9 (fun j hj => ?_)
  have hj0 : j = 0 := by simpa using hj
  subst hj0
  simp [Addr.add]
set_option maxRecDepth 100000 in
set_option maxHeartbeats 2000000 in
theorem digits_any (n : Nat) (hn : n ≤ 9223372036854775807) (w : World) :
    Calls Tryd.prog 24 #[.int .i64 (n : Int)] w fun e w' => e = .returned (.string ⟨(Lib.itoa (n : Int)).toArray⟩) ∧ Below w.heap.size w w' := by
  go_enter Tryd.func24, Tryd.ntmps24
  go_wp2
  go_loopg [0, 3] (n + 1) (fun g o q wr => ∃ (u : Nat) (l : List UInt8), o = .int .i64 (u : Int) ∧ q = .string ⟨l.toArray⟩ ∧ u ≤ n ∧ Hid (DgInv n u l) ∧ Hid (Below w.heap.size w wr) ∧ g = (if l = [] then u + 1 else u))
  case atStart => exact ⟨n, [], rfl, rfl, Nat.le_refl _, Lib.hid (DgInv.start n), Lib.hid (Below.refl _ _), by simp⟩
  case round =>
    obtain ⟨u, l, rfl, rfl, hu, HI, HB, hg⟩ := hrel
    have hgk : u ≤ gk ∧ (l = [] → gk = u + 1) := by rw [hg]; split <;> simp_all
    clear hg
    by_cases h : 0 < u ∨ l = []
    · have HS := Lib.hid (HI.out.step h)
      have hlen := HI.out.len hn
      have hd := dgt_val u
      have hsz := HB.out.size
      have hq : (u : Int).tmod 10 = (u : Int) % 10 := Int.tmod_eq_emod_of_nonneg (by omega)
      have hq2 : (u : Int).tdiv 10 = ((u / 10 : Nat) : Int) := by rw [Int.tdiv_eq_ediv_of_nonneg (by omega)]; omega
      rcases (by omega : (0 < u) ∨ (¬ 0 < u)) with h0 | h0
      · have d1 : decide ((u : Int) > 0) = true := decide_eq_true (by omega)
        clear h
        have hcv := conv_one wr (dgt u) _ hd
        go_wp2
        all_goals (first | (exfalso; omega) | skip)
        go_roundg (u / 10)
        case measure => omega
        case rel =>
          refine ⟨u / 10, dgt u :: l, by go_num, congrArg Value.string (cat_one _ _), by omega, HS, ?_, by simp⟩
          show Below _ _ _
          exact HB.out.alloc hsz _
      · have hl0 : l = [] := h.resolve_left h0
        have d1 : decide ((u : Int) > 0) = false := decide_eq_false (by omega)
        subst hl0
        have hgk1 := hgk.2 rfl
        have hcv := conv_one wr (dgt u) _ hd
        go_wp2
        all_goals (first | (exfalso; omega) | skip)
        go_roundg (u / 10)
        case measure => omega
        case rel =>
          refine ⟨u / 10, [dgt u], by go_num, congrArg Value.string (cat_one _ []), by omega, HS, ?_, by simp⟩
          show Below _ _ _
          exact HB.out.alloc hsz _
    · have h1 : ¬ 0 < u := fun e => h (.inl e)
      have h2 : l ≠ [] := fun e => h (.inr e)
      have HE := Lib.hid (HI.out.stop h)
      have h3 : l.isEmpty = false := by cases l; exact absurd rfl h2; rfl
      have d1 : decide ((u : Int) > 0) = false := decide_eq_false (by omega)
      have hle : ¬ 0 < u := h1
      clear h h1 h2
      go_wp2
      all_goals (first | (exfalso; omega) | skip)
      go_ret
      exact ⟨by rw [← HE.out]; rfl, HB.out⟩

theorem signed_any (n : Nat) (hn : n ≤ 9223372036854775807) (w : World) :
    Calls Tryd.prog 13 #[.int .i64 (n : Int)] w fun e w' => e = .returned (.string ⟨(Lib.itoa (n : Int)).toArray⟩) ∧ Below w.heap.size w w' := by
  have HK := Lib.hid (digits_any n hn w)
  have d0 : decide ((n : Int) < 0) = false := decide_eq_false (by omega)
  clear hn
  go_enter Tryd.func13, Tryd.ntmps13
  go_wp2_with fail
  refine HK.out.mono ?_
  rintro e w1 ⟨rfl, hb⟩
  go_wp2_with fail
  go_ret
  exact ⟨rfl, hb⟩

theorem names_get (k : Nat) (hk : k < 23) : namesV[k]? = some (.string ⟨(opName (k : Int)).toArray⟩) := by
  revert hk
  revert k
  intro k hk
  have hc : k = 0 ∨ k = 1 ∨ k = 2 ∨ k = 3 ∨ k = 4 ∨ k = 5 ∨ k = 6 ∨ k = 7 ∨ k = 8 ∨ k = 9 ∨ k = 10 ∨ k = 11 ∨ k = 12 ∨ k = 13 ∨ k = 14 ∨ k = 15 ∨ k = 16 ∨ k = 17 ∨ k = 18 ∨ k = 19 ∨ k = 20 ∨ k = 21 ∨ k = 22 := by omega
  rcases hc with rfl | rfl | rfl | rfl | rfl | rfl | rfl | rfl | rfl | rfl | rfl | rfl | rfl | rfl | rfl | rfl | rfl | rfl | rfl | rfl | rfl | rfl | rfl <;> rfl
set_option maxRecDepth 100000 in
set_option maxHeartbeats 2000000 in
theorem rname_any (op : Int) (w : World) :
    Calls Tryd.prog 11 #[.int .i64 op] w fun e w' => e = .returned (.string ⟨(opName op).toArray⟩) ∧ Below w.heap.size w w' := by
  rcases (by omega : op < 0 ∨ (0 ≤ op ∧ 23 ≤ op) ∨ (0 ≤ op ∧ op < 23)) with h | ⟨h, h1⟩ | ⟨h, h1⟩
  · rw [opName_out (.inl h)]
    have d0 : decide (op < 0) = true := decide_eq_true h
    go_enter Tryd.func11, Tryd.ntmps11
    go_wp2
    go_ret
    exact ⟨rfl, (Below.refl _ _).alloc (Nat.le_refl _) _⟩
  · rw [opName_out (.inr h1)]
    have d0 : decide (op < 0) = false := decide_eq_false (by omega)
    have d1 : decide (op ≥ 23) = true := decide_eq_true h1
    go_enter Tryd.func11, Tryd.ntmps11
    go_wp2
    go_ret
    exact ⟨rfl, (Below.refl _ _).alloc (Nat.le_refl _) _⟩
  · obtain ⟨k, rfl⟩ : ∃ k : Nat, op = k := ⟨op.toNat, by omega⟩
    have hk : k < 23 := by omega
    have d0 : decide ((k : Int) < 0) = false := decide_eq_false (by omega)
    have d1 : decide ((k : Int) ≥ 23) = false := decide_eq_false (by omega)
    have c0 := ((Blk.new w 9 namesV).cell k).trans (names_get k hk)
    obtain ⟨q, hq⟩ : ∃ q : ByteArray, q = ⟨(opName (k : Int)).toArray⟩ := ⟨_, rfl⟩
    rw [← hq] at c0 ⊢
    unfold namesV at c0
    clear hq
    go_enter Tryd.func11, Tryd.ntmps11
    go_wp2
    go_ret
    exact ⟨rfl, (Below.refl _ _).alloc (Nat.le_refl _) _⟩

end Go.Proofs.YtdlapjfcmhkieaaDoor.Ver
