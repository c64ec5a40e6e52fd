/- The heap's small functions: node, slots, words, at, get, set. -/
import Derived.Test.YteminkohgagedaaMoMem
import Derived.Test.YteminkohgagedaaGrCells
namespace Go.Proofs.Yteminkohgagedaa.Mo
open Go.RowKit Go.Proofs.Yteminkohgagedaa.Base Go.Proofs.Yteminkohgagedaa.Gr Go.Proofs.Yteminkohgagedaa.Ver
set_option linter.unusedVariables false
set_option linter.unusedSimpArgs false

theorem node_any (w : World) (hp M n d j : Nat) (hc : w.cell? ⟨hp, 1, none⟩ = some (.slice (some ⟨M, 0, none⟩) n d)) (hj : j < n) (hn : n ≤ 100000) :
    Calls Try.prog 90 #[.pointer (some ⟨hp, 0, none⟩), .int .i64 ((j : Int) + 1)] w fun e w' => e = .returned (.pointer (some ⟨M, j * 2, none⟩)) ∧ w = w' := by
  have hj1 : (j : Int) < n := by omega
  go_enter Try.func90, Try.ntmps90
  go_wp2
  go_ret
  exact ⟨rfl, rfl⟩

/-- The closures. -/
theorem slots1_any (w : World) (p q hp M n d j : Nat) (v : Value) (h1 : w.cell? ⟨p, 0, none⟩ = some (.pointer (some ⟨hp, 0, none⟩))) (h2 : w.cell? ⟨q, 0, none⟩ = some (.int .i64 ((j : Int) + 1))) (hc : w.cell? ⟨hp, 1, none⟩ = some (.slice (some ⟨M, 0, none⟩) n d)) (hj : j < n) (hn : n ≤ 100000)
    (hv : w.cell? ⟨M, j * 2, none⟩ = some v) :
    Calls Try.prog 92 #[.pointer (some ⟨p, 0, none⟩), .pointer (some ⟨q, 0, none⟩)] w fun e w' => e = .returned v ∧ w = w' := by
  go_enter Try.func92, Try.ntmps92
  go_wp2_with (first | (go_at_call 90; refine (node_any _ hp M n d j hc hj hn).mono ?_; rintro e w' ⟨rfl, rfl⟩))
  go_ret
  exact ⟨rfl, rfl⟩
theorem words1_any (w : World) (p q hp M n d j : Nat) (v : Value) (h1 : w.cell? ⟨p, 0, none⟩ = some (.pointer (some ⟨hp, 0, none⟩))) (h2 : w.cell? ⟨q, 0, none⟩ = some (.int .i64 ((j : Int) + 1))) (hc : w.cell? ⟨hp, 1, none⟩ = some (.slice (some ⟨M, 0, none⟩) n d)) (hj : j < n) (hn : n ≤ 100000)
    (hv : w.cell? ⟨M, j * 2 + 1, none⟩ = some v) :
    Calls Try.prog 93 #[.pointer (some ⟨p, 0, none⟩), .pointer (some ⟨q, 0, none⟩)] w fun e w' => e = .returned v ∧ w = w' := by
  go_enter Try.func93, Try.ntmps93
  go_wp2_with (first | (go_at_call 90; refine (node_any _ hp M n d j hc hj hn).mono ?_; rintro e w' ⟨rfl, rfl⟩))
  go_ret
  exact ⟨rfl, rfl⟩
theorem slots_any (w : World) (a : Int) (hp : Nat) :
    Calls Try.prog 87 #[.pointer (some ⟨hp, 0, none⟩), .int .i64 a] w fun e w' => e = .returned (.func (.func 92) #[] #[.pointer (some ⟨w.heap.size, 0, none⟩), .pointer (some ⟨w.heap.size + 1, 0, none⟩)]) ∧
      w' = (w.alloc (.cells #[.pointer (some ⟨hp, 0, none⟩)] 60)).alloc (.cells #[.int .i64 a] 3) := by
  go_enter Try.func87, Try.ntmps87
  go_wp2
  go_ret
  exact ⟨rfl, rfl⟩
theorem words_any (w : World) (a : Int) (hp : Nat) :
    Calls Try.prog 89 #[.pointer (some ⟨hp, 0, none⟩), .int .i64 a] w fun e w' => e = .returned (.func (.func 93) #[] #[.pointer (some ⟨w.heap.size, 0, none⟩), .pointer (some ⟨w.heap.size + 1, 0, none⟩)]) ∧
      w' = (w.alloc (.cells #[.pointer (some ⟨hp, 0, none⟩)] 60)).alloc (.cells #[.int .i64 a] 3) := by
  go_enter Try.func89, Try.ntmps89
  go_wp2
  go_ret
  exact ⟨rfl, rfl⟩

theorem at_nil (w : World) (i : Int) (F : Value) : Calls Try.prog 91 #[.int .i64 0, .int .i64 i, F] w fun e w' => e = .returned (.int .i64 7) ∧ w = w' := by
  go_enter Try.func91, Try.ntmps91
  go_wp2
  go_ret
  exact ⟨rfl, rfl⟩
theorem at_slots (w : World) (a i : Int) (p q n c : Nat) (A : Option Addr) (ha : a ≠ 0) (K : Calls Try.prog 92 #[.pointer (some ⟨p, 0, none⟩), .pointer (some ⟨q, 0, none⟩)] w fun e w' => e = .returned (.slice A n c) ∧ w = w') :
    Calls Try.prog 91 #[.int .i64 a, .int .i64 i, .func (.func 92) #[] #[.pointer (some ⟨p, 0, none⟩), .pointer (some ⟨q, 0, none⟩)]] w fun e w' => e = .returned (.int .i64 (if (n : Int) ≤ i then 8 else 0)) ∧ w = w' := by
  have hb : (a == 0) = false := beq_eq_false_iff_ne.mpr ha
  have HK := Lib.hid K
  clear K ha
  by_cases h : (n : Int) ≤ i
  · rw [if_pos h]
    have hd : decide (i ≥ (n : Int)) = true := decide_eq_true h
    clear h
    go_enter Try.func91, Try.ntmps91
    go_wp2_with (first | (go_at_call 92; refine HK.out.mono ?_; rintro e w' ⟨rfl, rfl⟩))
    go_ret
    exact ⟨rfl, rfl⟩
  · rw [if_neg h]
    have hd : decide (i ≥ (n : Int)) = false := decide_eq_false h
    clear h
    go_enter Try.func91, Try.ntmps91
    go_wp2_with (first | (go_at_call 92; refine HK.out.mono ?_; rintro e w' ⟨rfl, rfl⟩))
    go_ret
    exact ⟨rfl, rfl⟩
theorem at_words (w : World) (a i : Int) (p q n c : Nat) (A : Option Addr) (ha : a ≠ 0) (K : Calls Try.prog 93 #[.pointer (some ⟨p, 0, none⟩), .pointer (some ⟨q, 0, none⟩)] w fun e w' => e = .returned (.slice A n c) ∧ w = w') :
    Calls Try.prog 91 #[.int .i64 a, .int .i64 i, .func (.func 93) #[] #[.pointer (some ⟨p, 0, none⟩), .pointer (some ⟨q, 0, none⟩)]] w fun e w' => e = .returned (.int .i64 (if (n : Int) ≤ i then 8 else 0)) ∧ w = w' := by
  have hb : (a == 0) = false := beq_eq_false_iff_ne.mpr ha
  have HK := Lib.hid K
  clear K ha
  by_cases h : (n : Int) ≤ i
  · rw [if_pos h]
    have hd : decide (i ≥ (n : Int)) = true := decide_eq_true h
    clear h
    go_enter Try.func91, Try.ntmps91
    go_wp2_with (first | (go_at_call 93; refine HK.out.mono ?_; rintro e w' ⟨rfl, rfl⟩))
    go_ret
    exact ⟨rfl, rfl⟩
  · rw [if_neg h]
    have hd : decide (i ≥ (n : Int)) = false := decide_eq_false h
    clear h
    go_enter Try.func91, Try.ntmps91
    go_wp2_with (first | (go_at_call 93; refine HK.out.mono ?_; rintro e w' ⟨rfl, rfl⟩))
    go_ret
    exact ⟨rfl, rfl⟩

/-! ### get, set -/
theorem get_nil (w : World) (i : Int) (F : Value) : Calls Try.prog 86 #[.int .i64 0, .int .i64 i, F] w fun e w' => e = .returned (.tuple #[.int .i64 0, .int .i64 7]) ∧ w = w' := by
  go_enter Try.func86, Try.ntmps86
  go_wp2_with (first | (go_at_call 91; refine (at_nil _ _ _).mono ?_; rintro e w' ⟨rfl, rfl⟩))
  go_ret2
  exact ⟨rfl, rfl⟩
theorem set_nil (w : World) (i v : Int) (F : Value) : Calls Try.prog 88 #[.int .i64 0, .int .i64 i, .int .i64 v, F] w fun e w' => e = .returned (.int .i64 7) ∧ w = w' := by
  go_enter Try.func88, Try.ntmps88
  go_wp2_with (first | (go_at_call 91; refine (at_nil _ _ _).mono ?_; rintro e w' ⟨rfl, rfl⟩))
  go_ret
  exact ⟨rfl, rfl⟩
theorem get_slots_far (w : World) (a i : Int) (p q n c : Nat) (A : Option Addr) (ha : a ≠ 0) (hi : (n : Int) ≤ i) (K : Calls Try.prog 92 #[.pointer (some ⟨p, 0, none⟩), .pointer (some ⟨q, 0, none⟩)] w fun e w' => e = .returned (.slice A n c) ∧ w = w') :
    Calls Try.prog 86 #[.int .i64 a, .int .i64 i, .func (.func 92) #[] #[.pointer (some ⟨p, 0, none⟩), .pointer (some ⟨q, 0, none⟩)]] w fun e w' => e = .returned (.tuple #[.int .i64 0, .int .i64 8]) ∧ w = w' := by
  have HK := Lib.hid (at_slots w a i p q n c A ha K)
  rw [if_pos hi] at HK
  clear K ha hi
  go_enter Try.func86, Try.ntmps86
  go_wp2_with (first | (go_at_call 91; refine HK.out.mono ?_; rintro e w' ⟨rfl, rfl⟩))
  go_ret2
  exact ⟨rfl, rfl⟩
theorem get_slots_at (w : World) (a : Int) (i p q n c G : Nat) (v : Int) (ha : a ≠ 0) (hi : i < n) (hn : n ≤ 100000) (hv : w.cell? ⟨G, i, none⟩ = some (.int .i64 v)) (K : Calls Try.prog 92 #[.pointer (some ⟨p, 0, none⟩), .pointer (some ⟨q, 0, none⟩)] w fun e w' => e = .returned (.slice (some ⟨G, 0, none⟩) n c) ∧ w = w') :
    Calls Try.prog 86 #[.int .i64 a, .int .i64 (i : Int), .func (.func 92) #[] #[.pointer (some ⟨p, 0, none⟩), .pointer (some ⟨q, 0, none⟩)]] w fun e w' => e = .returned (.tuple #[.int .i64 v, .int .i64 0]) ∧ w = w' := by
  have HK := Lib.hid (at_slots w a i p q n c _ ha K)
  rw [if_neg (by omega)] at HK
  have HK2 := Lib.hid K
  have hv' : w.cell? ((⟨G, 0, none⟩ : Addr).add i) = some (.int .i64 v) := by rw [add_of_zero]; exact hv
  clear K ha
  go_enter Try.func86, Try.ntmps86
  go_wp2_with (first | (go_at_call 91; refine HK.out.mono ?_; rintro e w' ⟨rfl, rfl⟩) | (go_at_call 92; refine HK2.out.mono ?_; rintro e w' ⟨rfl, rfl⟩))
  go_ret2
  exact ⟨rfl, rfl⟩
theorem set_slots_far (w : World) (a i v : Int) (p q n c : Nat) (A : Option Addr) (ha : a ≠ 0) (hi : (n : Int) ≤ i) (K : Calls Try.prog 92 #[.pointer (some ⟨p, 0, none⟩), .pointer (some ⟨q, 0, none⟩)] w fun e w' => e = .returned (.slice A n c) ∧ w = w') :
    Calls Try.prog 88 #[.int .i64 a, .int .i64 i, .int .i64 v, .func (.func 92) #[] #[.pointer (some ⟨p, 0, none⟩), .pointer (some ⟨q, 0, none⟩)]] w fun e w' => e = .returned (.int .i64 8) ∧ w = w' := by
  have HK := Lib.hid (at_slots w a i p q n c A ha K)
  rw [if_pos hi] at HK
  clear K ha hi
  go_enter Try.func88, Try.ntmps88
  go_wp2_with (first | (go_at_call 91; refine HK.out.mono ?_; rintro e w' ⟨rfl, rfl⟩))
  go_ret
  exact ⟨rfl, rfl⟩
theorem set_slots_at (w : World) (a v : Int) (i p q n c G : Nat) (u : Int) (ha : a ≠ 0) (hi : i < n) (hn : n ≤ 100000) (hv : w.cell? ⟨G, i, none⟩ = some (.int .i64 u)) (hf : w.frozen? ⟨G, i, none⟩ = false) (K : Calls Try.prog 92 #[.pointer (some ⟨p, 0, none⟩), .pointer (some ⟨q, 0, none⟩)] w fun e w' => e = .returned (.slice (some ⟨G, 0, none⟩) n c) ∧ w = w') :
    Calls Try.prog 88 #[.int .i64 a, .int .i64 (i : Int), .int .i64 v, .func (.func 92) #[] #[.pointer (some ⟨p, 0, none⟩), .pointer (some ⟨q, 0, none⟩)]] w fun e w' => e = .returned (.int .i64 0) ∧ w' = w.setCell ⟨G, i, none⟩ (.int .i64 v) := by
  have HK := Lib.hid (at_slots w a i p q n c _ ha K)
  rw [if_neg (by omega)] at HK
  have HK2 := Lib.hid K
  have hv' : w.cell? ((⟨G, 0, none⟩ : Addr).add i) = some (.int .i64 u) := by rw [add_of_zero]; exact hv
  have hf' : w.frozen? ((⟨G, 0, none⟩ : Addr).add i) = false := by rw [add_of_zero]; exact hf
  clear K ha
  go_enter Try.func88, Try.ntmps88
  go_wp2_with (first | (go_at_call 91; refine HK.out.mono ?_; rintro e w' ⟨rfl, rfl⟩) | (go_at_call 92; refine HK2.out.mono ?_; rintro e w' ⟨rfl, rfl⟩))
  go_ret
  exact ⟨rfl, rfl⟩
theorem get_words_far (w : World) (a i : Int) (p q n c : Nat) (A : Option Addr) (ha : a ≠ 0) (hi : (n : Int) ≤ i) (K : Calls Try.prog 93 #[.pointer (some ⟨p, 0, none⟩), .pointer (some ⟨q, 0, none⟩)] w fun e w' => e = .returned (.slice A n c) ∧ w = w') :
    Calls Try.prog 86 #[.int .i64 a, .int .i64 i, .func (.func 93) #[] #[.pointer (some ⟨p, 0, none⟩), .pointer (some ⟨q, 0, none⟩)]] w fun e w' => e = .returned (.tuple #[.int .i64 0, .int .i64 8]) ∧ w = w' := by
  have HK := Lib.hid (at_words w a i p q n c A ha K)
  rw [if_pos hi] at HK
  clear K ha hi
  go_enter Try.func86, Try.ntmps86
  go_wp2_with (first | (go_at_call 91; refine HK.out.mono ?_; rintro e w' ⟨rfl, rfl⟩))
  go_ret2
  exact ⟨rfl, rfl⟩
theorem get_words_at (w : World) (a : Int) (i p q n c G : Nat) (v : Int) (ha : a ≠ 0) (hi : i < n) (hn : n ≤ 100000) (hv : w.cell? ⟨G, i, none⟩ = some (.int .i64 v)) (K : Calls Try.prog 93 #[.pointer (some ⟨p, 0, none⟩), .pointer (some ⟨q, 0, none⟩)] w fun e w' => e = .returned (.slice (some ⟨G, 0, none⟩) n c) ∧ w = w') :
    Calls Try.prog 86 #[.int .i64 a, .int .i64 (i : Int), .func (.func 93) #[] #[.pointer (some ⟨p, 0, none⟩), .pointer (some ⟨q, 0, none⟩)]] w fun e w' => e = .returned (.tuple #[.int .i64 v, .int .i64 0]) ∧ w = w' := by
  have HK := Lib.hid (at_words w a i p q n c _ ha K)
  rw [if_neg (by omega)] at HK
  have HK2 := Lib.hid K
  have hv' : w.cell? ((⟨G, 0, none⟩ : Addr).add i) = some (.int .i64 v) := by rw [add_of_zero]; exact hv
  clear K ha
  go_enter Try.func86, Try.ntmps86
  go_wp2_with (first | (go_at_call 91; refine HK.out.mono ?_; rintro e w' ⟨rfl, rfl⟩) | (go_at_call 93; refine HK2.out.mono ?_; rintro e w' ⟨rfl, rfl⟩))
  go_ret2
  exact ⟨rfl, rfl⟩
theorem set_words_far (w : World) (a i v : Int) (p q n c : Nat) (A : Option Addr) (ha : a ≠ 0) (hi : (n : Int) ≤ i) (K : Calls Try.prog 93 #[.pointer (some ⟨p, 0, none⟩), .pointer (some ⟨q, 0, none⟩)] w fun e w' => e = .returned (.slice A n c) ∧ w = w') :
    Calls Try.prog 88 #[.int .i64 a, .int .i64 i, .int .i64 v, .func (.func 93) #[] #[.pointer (some ⟨p, 0, none⟩), .pointer (some ⟨q, 0, none⟩)]] w fun e w' => e = .returned (.int .i64 8) ∧ w = w' := by
  have HK := Lib.hid (at_words w a i p q n c A ha K)
  rw [if_pos hi] at HK
  clear K ha hi
  go_enter Try.func88, Try.ntmps88
  go_wp2_with (first | (go_at_call 91; refine HK.out.mono ?_; rintro e w' ⟨rfl, rfl⟩))
  go_ret
  exact ⟨rfl, rfl⟩
theorem set_words_at (w : World) (a v : Int) (i p q n c G : Nat) (u : Int) (ha : a ≠ 0) (hi : i < n) (hn : n ≤ 100000) (hv : w.cell? ⟨G, i, none⟩ = some (.int .i64 u)) (hf : w.frozen? ⟨G, i, none⟩ = false) (K : Calls Try.prog 93 #[.pointer (some ⟨p, 0, none⟩), .pointer (some ⟨q, 0, none⟩)] w fun e w' => e = .returned (.slice (some ⟨G, 0, none⟩) n c) ∧ w = w') :
    Calls Try.prog 88 #[.int .i64 a, .int .i64 (i : Int), .int .i64 v, .func (.func 93) #[] #[.pointer (some ⟨p, 0, none⟩), .pointer (some ⟨q, 0, none⟩)]] w fun e w' => e = .returned (.int .i64 0) ∧ w' = w.setCell ⟨G, i, none⟩ (.int .i64 v) := by
  have HK := Lib.hid (at_words w a i p q n c _ ha K)
  rw [if_neg (by omega)] at HK
  have HK2 := Lib.hid K
  have hv' : w.cell? ((⟨G, 0, none⟩ : Addr).add i) = some (.int .i64 u) := by rw [add_of_zero]; exact hv
  have hf' : w.frozen? ((⟨G, 0, none⟩ : Addr).add i) = false := by rw [add_of_zero]; exact hf
  clear K ha
  go_enter Try.func88, Try.ntmps88
  go_wp2_with (first | (go_at_call 91; refine HK.out.mono ?_; rintro e w' ⟨rfl, rfl⟩) | (go_at_call 93; refine HK2.out.mono ?_; rintro e w' ⟨rfl, rfl⟩))
  go_ret
  exact ⟨rfl, rfl⟩


end Go.Proofs.Yteminkohgagedaa.Mo
