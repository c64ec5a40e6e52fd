/- Plain facts on numbers as decimal texts: another number has another text, and a text has digits, and a sign, alone. -/
import Derived.Lib.ItoaLen
import Derived.Lib.ItoaMem
import Derived.Lib.Join
namespace Go.Proofs.YtbelbhdhcgpcpaaGreatDoor.Base
set_option linter.unusedVariables false
set_option linter.unusedSimpArgs false

theorem decDigits_rec (u : Nat) (h : ¬ u < 10) : Lib.decDigits u = Lib.decDigits (u / 10) ++ [UInt8.ofNat (48 + u % 10)] := by
  rw [Lib.decDigits, dif_neg h]
theorem digit_val {d : Nat} (h : d < 10) : (UInt8.ofNat (48 + d)).toNat = 48 + d := by
  rw [UInt8.toNat_ofNat']; omega
/-- The number that digits are. -/
def valOf (l : List UInt8) : Nat := l.foldl (fun n c => 10 * n + (c.toNat - 48)) 0
theorem valOf_append (l : List UInt8) (c : UInt8) : valOf (l ++ [c]) = 10 * valOf l + (c.toNat - 48) := by
  unfold valOf; rw [List.foldl_append]; rfl
theorem valOf_dec (u : Nat) : valOf (Lib.decDigits u) = u := by
  induction u using Nat.strongRecOn with
  | _ u ih =>
    by_cases h : u < 10
    · rw [Lib.decDigits_one h]
      show 10 * 0 + ((UInt8.ofNat (48 + u)).toNat - 48) = u
      rw [digit_val h]; omega
    · rw [decDigits_rec u h, valOf_append, ih (u / 10) (by omega), digit_val (by omega)]
      omega
theorem dec_digit (u : Nat) : ∀ c ∈ Lib.decDigits u, 48 ≤ c.toNat ∧ c.toNat ≤ 57 := by
  induction u using Nat.strongRecOn with
  | _ u ih =>
    intro c hc
    by_cases h : u < 10
    · rw [Lib.decDigits_one h] at hc
      simp only [List.mem_singleton] at hc
      subst hc
      rw [digit_val h]; omega
    · rw [decDigits_rec u h, List.mem_append] at hc
      rcases hc with hc | hc
      · exact ih (u / 10) (by omega) c hc
      · simp only [List.mem_singleton] at hc
        subst hc
        rw [digit_val (by omega)]; omega
theorem dec_inj {u v : Nat} (h : Lib.decDigits u = Lib.decDigits v) : u = v := by
  rw [← valOf_dec u, ← valOf_dec v, h]
theorem dec_ne_nil (u : Nat) : Lib.decDigits u ≠ [] := by
  by_cases h : u < 10
  · rw [Lib.decDigits_one h]; simp
  · rw [decDigits_rec u h]; simp
theorem itoa_sign (n : Int) : ∀ c ∈ Lib.itoa n, c = 45 ∨ (48 ≤ c.toNat ∧ c.toNat ≤ 57) := by
  intro c hc
  unfold Lib.itoa at hc
  split at hc
  · rcases List.mem_cons.1 hc with h | h
    · exact .inl h
    · exact .inr (dec_digit _ c h)
  · exact .inr (dec_digit _ c hc)
theorem itoa_inj {a b : Int} (h : Lib.itoa a = Lib.itoa b) : a = b := by
  unfold Lib.itoa at h
  have key : ∀ (u : Nat) (l : List UInt8), (45 : UInt8) :: l ≠ Lib.decDigits u := by
    intro u l e
    have := dec_digit u 45 (by rw [← e]; exact List.mem_cons_self)
    have h45 : (45 : UInt8).toNat = 45 := rfl
    omega
  split at h <;> split at h
  · injection h with _ h
    have := dec_inj h
    omega
  · exact absurd h (key _ _)
  · exact absurd h.symm (key _ _)
  · have := dec_inj h
    omega
theorem itoa_no {n : Int} {s : UInt8} (h1 : s ≠ 45) (h2 : ¬ (48 ≤ s.toNat ∧ s.toNat ≤ 57)) : s ∉ Lib.itoa n := by
  intro hc
  rcases itoa_sign n s hc with h | h
  · exact h1 h
  · exact h2 h
/-- What stands ahead of the first sign s. -/
theorem sep_inj {s : UInt8} : ∀ {a b r t : List UInt8}, s ∉ a → s ∉ b → a ++ s :: r = b ++ s :: t → a = b ∧ r = t
  | [], [], r, t, _, _, h => by simpa using h
  | [], x :: b, r, t, _, hb, h => by
    simp only [List.nil_append, List.cons_append, List.cons.injEq] at h
    exact absurd (h.1 ▸ List.mem_cons_self) hb
  | x :: a, [], r, t, ha, _, h => by
    simp only [List.nil_append, List.cons_append, List.cons.injEq] at h
    exact absurd (h.1 ▸ List.mem_cons_self) ha
  | x :: a, y :: b, r, t, ha, hb, h => by
    simp only [List.cons_append, List.cons.injEq] at h
    obtain ⟨e1, e2⟩ := sep_inj (fun h => ha (List.mem_cons_of_mem _ h)) (fun h => hb (List.mem_cons_of_mem _ h)) h.2
    exact ⟨by rw [h.1, e1], e2⟩

end Go.Proofs.YtbelbhdhcgpcpaaGreatDoor.Base
