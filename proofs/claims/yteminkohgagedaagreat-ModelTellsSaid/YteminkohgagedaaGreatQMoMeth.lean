/- The heap's methods that read, or write a place. -/
import Derived.Test.YteminkohgagedaaGreatQMoMem
import Derived.Test.YteminkohgagedaaGreatQGrCells
namespace Go.Proofs.YteminkohgagedaaGreat.Mo
open Go.RowKit Go.Proofs.YteminkohgagedaaGreat.Base Go.Proofs.YteminkohgagedaaGreat.Gr Go.Proofs.YteminkohgagedaaGreat.Ver
set_option linter.unusedVariables false
set_option linter.unusedSimpArgs false

theorem node_any (w : World) (hp M n d j : Nat) (hc : w.cell? ⟨hp, 1, none⟩ = some (.slice (some ⟨M, 0, none⟩) n d)) (hj : j < n) (hn : n ≤ 100000) :
    Calls Tryz.prog 142 #[.pointer (some ⟨hp, 0, none⟩), .int .i64 ((j : Int) + 1)] w fun e w' => e = .returned (.pointer (some ⟨M, j * 2, none⟩)) ∧ w = w' := by
  have hj1 : (j : Int) < n := by omega
  go_enter Tryz.func142, Tryz.ntmps142
  go_wp2
  go_ret
  exact ⟨rfl, rfl⟩

/-- The closures. -/
theorem slots1_any (w : World) (p q hp M n d j : Nat) (v : Value) (h1 : w.cell? ⟨p, 0, none⟩ = some (.pointer (some ⟨hp, 0, none⟩))) (h2 : w.cell? ⟨q, 0, none⟩ = some (.int .i64 ((j : Int) + 1))) (hc : w.cell? ⟨hp, 1, none⟩ = some (.slice (some ⟨M, 0, none⟩) n d)) (hj : j < n) (hn : n ≤ 100000)
    (hv : w.cell? ⟨M, j * 2, none⟩ = some v) :
    Calls Tryz.prog 144 #[.pointer (some ⟨p, 0, none⟩), .pointer (some ⟨q, 0, none⟩)] w fun e w' => e = .returned v ∧ w = w' := by
  go_enter Tryz.func144, Tryz.ntmps144
  go_wp2_with (first | (go_at_call 142; refine (node_any _ hp M n d j hc hj hn).mono ?_; rintro e w' ⟨rfl, rfl⟩))
  go_ret
  exact ⟨rfl, rfl⟩
theorem words1_any (w : World) (p q hp M n d j : Nat) (v : Value) (h1 : w.cell? ⟨p, 0, none⟩ = some (.pointer (some ⟨hp, 0, none⟩))) (h2 : w.cell? ⟨q, 0, none⟩ = some (.int .i64 ((j : Int) + 1))) (hc : w.cell? ⟨hp, 1, none⟩ = some (.slice (some ⟨M, 0, none⟩) n d)) (hj : j < n) (hn : n ≤ 100000)
    (hv : w.cell? ⟨M, j * 2 + 1, none⟩ = some v) :
    Calls Tryz.prog 145 #[.pointer (some ⟨p, 0, none⟩), .pointer (some ⟨q, 0, none⟩)] w fun e w' => e = .returned v ∧ w = w' := by
  go_enter Tryz.func145, Tryz.ntmps145
  go_wp2_with (first | (go_at_call 142; refine (node_any _ hp M n d j hc hj hn).mono ?_; rintro e w' ⟨rfl, rfl⟩))
  go_ret
  exact ⟨rfl, rfl⟩
theorem slots_any (w : World) (a : Int) (hp : Nat) :
    Calls Tryz.prog 139 #[.pointer (some ⟨hp, 0, none⟩), .int .i64 a] w fun e w' => e = .returned (.func (.func 144) #[] #[.pointer (some ⟨w.heap.size, 0, none⟩), .pointer (some ⟨w.heap.size + 1, 0, none⟩)]) ∧
      w' = (w.alloc (.cells #[.pointer (some ⟨hp, 0, none⟩)] 64)).alloc (.cells #[.int .i64 a] 3) := by
  go_enter Tryz.func139, Tryz.ntmps139
  go_wp2
  go_ret
  exact ⟨rfl, rfl⟩
theorem words_any (w : World) (a : Int) (hp : Nat) :
    Calls Tryz.prog 141 #[.pointer (some ⟨hp, 0, none⟩), .int .i64 a] w fun e w' => e = .returned (.func (.func 145) #[] #[.pointer (some ⟨w.heap.size, 0, none⟩), .pointer (some ⟨w.heap.size + 1, 0, none⟩)]) ∧
      w' = (w.alloc (.cells #[.pointer (some ⟨hp, 0, none⟩)] 64)).alloc (.cells #[.int .i64 a] 3) := by
  go_enter Tryz.func141, Tryz.ntmps141
  go_wp2
  go_ret
  exact ⟨rfl, rfl⟩

theorem at_nil (w : World) (i : Int) (F : Value) : Calls Tryz.prog 143 #[.int .i64 0, .int .i64 i, F] w fun e w' => e = .returned (.int .i64 7) ∧ w = w' := by
  go_enter Tryz.func143, Tryz.ntmps143
  go_wp2
  go_ret
  exact ⟨rfl, rfl⟩
theorem at_slots (w : World) (a i : Int) (p q n c : Nat) (A : Option Addr) (ha : a ≠ 0) (K : Calls Tryz.prog 144 #[.pointer (some ⟨p, 0, none⟩), .pointer (some ⟨q, 0, none⟩)] w fun e w' => e = .returned (.slice A n c) ∧ w = w') :
    Calls Tryz.prog 143 #[.int .i64 a, .int .i64 i, .func (.func 144) #[] #[.pointer (some ⟨p, 0, none⟩), .pointer (some ⟨q, 0, none⟩)]] w fun e w' => e = .returned (.int .i64 (if (n : Int) ≤ i then 8 else 0)) ∧ w = w' := by
  have hb : (a == 0) = false := beq_eq_false_iff_ne.mpr ha
  have HK := Lib.hid K
  clear K ha
  by_cases h : (n : Int) ≤ i
  · rw [if_pos h]
    have hd : decide (i ≥ (n : Int)) = true := decide_eq_true h
    clear h
    go_enter Tryz.func143, Tryz.ntmps143
    go_wp2_with (first | (go_at_call 144; refine HK.out.mono ?_; rintro e w' ⟨rfl, rfl⟩))
    go_ret
    exact ⟨rfl, rfl⟩
  · rw [if_neg h]
    have hd : decide (i ≥ (n : Int)) = false := decide_eq_false h
    clear h
    go_enter Tryz.func143, Tryz.ntmps143
    go_wp2_with (first | (go_at_call 144; refine HK.out.mono ?_; rintro e w' ⟨rfl, rfl⟩))
    go_ret
    exact ⟨rfl, rfl⟩
theorem at_words (w : World) (a i : Int) (p q n c : Nat) (A : Option Addr) (ha : a ≠ 0) (K : Calls Tryz.prog 145 #[.pointer (some ⟨p, 0, none⟩), .pointer (some ⟨q, 0, none⟩)] w fun e w' => e = .returned (.slice A n c) ∧ w = w') :
    Calls Tryz.prog 143 #[.int .i64 a, .int .i64 i, .func (.func 145) #[] #[.pointer (some ⟨p, 0, none⟩), .pointer (some ⟨q, 0, none⟩)]] w fun e w' => e = .returned (.int .i64 (if (n : Int) ≤ i then 8 else 0)) ∧ w = w' := by
  have hb : (a == 0) = false := beq_eq_false_iff_ne.mpr ha
  have HK := Lib.hid K
  clear K ha
  by_cases h : (n : Int) ≤ i
  · rw [if_pos h]
    have hd : decide (i ≥ (n : Int)) = true := decide_eq_true h
    clear h
    go_enter Tryz.func143, Tryz.ntmps143
    go_wp2_with (first | (go_at_call 145; refine HK.out.mono ?_; rintro e w' ⟨rfl, rfl⟩))
    go_ret
    exact ⟨rfl, rfl⟩
  · rw [if_neg h]
    have hd : decide (i ≥ (n : Int)) = false := decide_eq_false h
    clear h
    go_enter Tryz.func143, Tryz.ntmps143
    go_wp2_with (first | (go_at_call 145; refine HK.out.mono ?_; rintro e w' ⟨rfl, rfl⟩))
    go_ret
    exact ⟨rfl, rfl⟩

/-! ### get, set -/
theorem get_nil (w : World) (i : Int) (F : Value) : Calls Tryz.prog 138 #[.int .i64 0, .int .i64 i, F] w fun e w' => e = .returned (.tuple #[.int .i64 0, .int .i64 7]) ∧ w = w' := by
  go_enter Tryz.func138, Tryz.ntmps138
  go_wp2_with (first | (go_at_call 143; refine (at_nil _ _ _).mono ?_; rintro e w' ⟨rfl, rfl⟩))
  go_ret2
  exact ⟨rfl, rfl⟩
theorem set_nil (w : World) (i v : Int) (F : Value) : Calls Tryz.prog 140 #[.int .i64 0, .int .i64 i, .int .i64 v, F] w fun e w' => e = .returned (.int .i64 7) ∧ w = w' := by
  go_enter Tryz.func140, Tryz.ntmps140
  go_wp2_with (first | (go_at_call 143; refine (at_nil _ _ _).mono ?_; rintro e w' ⟨rfl, rfl⟩))
  go_ret
  exact ⟨rfl, rfl⟩
theorem get_slots_far (w : World) (a i : Int) (p q n c : Nat) (A : Option Addr) (ha : a ≠ 0) (hi : (n : Int) ≤ i) (K : Calls Tryz.prog 144 #[.pointer (some ⟨p, 0, none⟩), .pointer (some ⟨q, 0, none⟩)] w fun e w' => e = .returned (.slice A n c) ∧ w = w') :
    Calls Tryz.prog 138 #[.int .i64 a, .int .i64 i, .func (.func 144) #[] #[.pointer (some ⟨p, 0, none⟩), .pointer (some ⟨q, 0, none⟩)]] w fun e w' => e = .returned (.tuple #[.int .i64 0, .int .i64 8]) ∧ w = w' := by
  have HK := Lib.hid (at_slots w a i p q n c A ha K)
  rw [if_pos hi] at HK
  clear K ha hi
  go_enter Tryz.func138, Tryz.ntmps138
  go_wp2_with (first | (go_at_call 143; refine HK.out.mono ?_; rintro e w' ⟨rfl, rfl⟩))
  go_ret2
  exact ⟨rfl, rfl⟩
theorem get_slots_at (w : World) (a : Int) (i p q n c G : Nat) (v : Int) (ha : a ≠ 0) (hi : i < n) (hn : n ≤ 100000) (hv : w.cell? ⟨G, i, none⟩ = some (.int .i64 v)) (K : Calls Tryz.prog 144 #[.pointer (some ⟨p, 0, none⟩), .pointer (some ⟨q, 0, none⟩)] w fun e w' => e = .returned (.slice (some ⟨G, 0, none⟩) n c) ∧ w = w') :
    Calls Tryz.prog 138 #[.int .i64 a, .int .i64 (i : Int), .func (.func 144) #[] #[.pointer (some ⟨p, 0, none⟩), .pointer (some ⟨q, 0, none⟩)]] w fun e w' => e = .returned (.tuple #[.int .i64 v, .int .i64 0]) ∧ w = w' := by
  have HK := Lib.hid (at_slots w a i p q n c _ ha K)
  rw [if_neg (by omega)] at HK
  have HK2 := Lib.hid K
  have hv' : w.cell? ((⟨G, 0, none⟩ : Addr).add i) = some (.int .i64 v) := by rw [add_of_zero]; exact hv
  clear K ha
  go_enter Tryz.func138, Tryz.ntmps138
  go_wp2_with (first | (go_at_call 143; refine HK.out.mono ?_; rintro e w' ⟨rfl, rfl⟩) | (go_at_call 144; refine HK2.out.mono ?_; rintro e w' ⟨rfl, rfl⟩))
  go_ret2
  exact ⟨rfl, rfl⟩
theorem set_slots_far (w : World) (a i v : Int) (p q n c : Nat) (A : Option Addr) (ha : a ≠ 0) (hi : (n : Int) ≤ i) (K : Calls Tryz.prog 144 #[.pointer (some ⟨p, 0, none⟩), .pointer (some ⟨q, 0, none⟩)] w fun e w' => e = .returned (.slice A n c) ∧ w = w') :
    Calls Tryz.prog 140 #[.int .i64 a, .int .i64 i, .int .i64 v, .func (.func 144) #[] #[.pointer (some ⟨p, 0, none⟩), .pointer (some ⟨q, 0, none⟩)]] w fun e w' => e = .returned (.int .i64 8) ∧ w = w' := by
  have HK := Lib.hid (at_slots w a i p q n c A ha K)
  rw [if_pos hi] at HK
  clear K ha hi
  go_enter Tryz.func140, Tryz.ntmps140
  go_wp2_with (first | (go_at_call 143; refine HK.out.mono ?_; rintro e w' ⟨rfl, rfl⟩))
  go_ret
  exact ⟨rfl, rfl⟩
theorem set_slots_at (w : World) (a v : Int) (i p q n c G : Nat) (u : Int) (ha : a ≠ 0) (hi : i < n) (hn : n ≤ 100000) (hv : w.cell? ⟨G, i, none⟩ = some (.int .i64 u)) (hf : w.frozen? ⟨G, i, none⟩ = false) (K : Calls Tryz.prog 144 #[.pointer (some ⟨p, 0, none⟩), .pointer (some ⟨q, 0, none⟩)] w fun e w' => e = .returned (.slice (some ⟨G, 0, none⟩) n c) ∧ w = w') :
    Calls Tryz.prog 140 #[.int .i64 a, .int .i64 (i : Int), .int .i64 v, .func (.func 144) #[] #[.pointer (some ⟨p, 0, none⟩), .pointer (some ⟨q, 0, none⟩)]] w fun e w' => e = .returned (.int .i64 0) ∧ w' = w.setCell ⟨G, i, none⟩ (.int .i64 v) := by
  have HK := Lib.hid (at_slots w a i p q n c _ ha K)
  rw [if_neg (by omega)] at HK
  have HK2 := Lib.hid K
  have hv' : w.cell? ((⟨G, 0, none⟩ : Addr).add i) = some (.int .i64 u) := by rw [add_of_zero]; exact hv
  have hf' : w.frozen? ((⟨G, 0, none⟩ : Addr).add i) = false := by rw [add_of_zero]; exact hf
  clear K ha
  go_enter Tryz.func140, Tryz.ntmps140
  go_wp2_with (first | (go_at_call 143; refine HK.out.mono ?_; rintro e w' ⟨rfl, rfl⟩) | (go_at_call 144; refine HK2.out.mono ?_; rintro e w' ⟨rfl, rfl⟩))
  go_ret
  exact ⟨rfl, rfl⟩
theorem get_words_far (w : World) (a i : Int) (p q n c : Nat) (A : Option Addr) (ha : a ≠ 0) (hi : (n : Int) ≤ i) (K : Calls Tryz.prog 145 #[.pointer (some ⟨p, 0, none⟩), .pointer (some ⟨q, 0, none⟩)] w fun e w' => e = .returned (.slice A n c) ∧ w = w') :
    Calls Tryz.prog 138 #[.int .i64 a, .int .i64 i, .func (.func 145) #[] #[.pointer (some ⟨p, 0, none⟩), .pointer (some ⟨q, 0, none⟩)]] w fun e w' => e = .returned (.tuple #[.int .i64 0, .int .i64 8]) ∧ w = w' := by
  have HK := Lib.hid (at_words w a i p q n c A ha K)
  rw [if_pos hi] at HK
  clear K ha hi
  go_enter Tryz.func138, Tryz.ntmps138
  go_wp2_with (first | (go_at_call 143; refine HK.out.mono ?_; rintro e w' ⟨rfl, rfl⟩))
  go_ret2
  exact ⟨rfl, rfl⟩
theorem get_words_at (w : World) (a : Int) (i p q n c G : Nat) (v : Int) (ha : a ≠ 0) (hi : i < n) (hn : n ≤ 100000) (hv : w.cell? ⟨G, i, none⟩ = some (.int .i64 v)) (K : Calls Tryz.prog 145 #[.pointer (some ⟨p, 0, none⟩), .pointer (some ⟨q, 0, none⟩)] w fun e w' => e = .returned (.slice (some ⟨G, 0, none⟩) n c) ∧ w = w') :
    Calls Tryz.prog 138 #[.int .i64 a, .int .i64 (i : Int), .func (.func 145) #[] #[.pointer (some ⟨p, 0, none⟩), .pointer (some ⟨q, 0, none⟩)]] w fun e w' => e = .returned (.tuple #[.int .i64 v, .int .i64 0]) ∧ w = w' := by
  have HK := Lib.hid (at_words w a i p q n c _ ha K)
  rw [if_neg (by omega)] at HK
  have HK2 := Lib.hid K
  have hv' : w.cell? ((⟨G, 0, none⟩ : Addr).add i) = some (.int .i64 v) := by rw [add_of_zero]; exact hv
  clear K ha
  go_enter Tryz.func138, Tryz.ntmps138
  go_wp2_with (first | (go_at_call 143; refine HK.out.mono ?_; rintro e w' ⟨rfl, rfl⟩) | (go_at_call 145; refine HK2.out.mono ?_; rintro e w' ⟨rfl, rfl⟩))
  go_ret2
  exact ⟨rfl, rfl⟩
theorem set_words_far (w : World) (a i v : Int) (p q n c : Nat) (A : Option Addr) (ha : a ≠ 0) (hi : (n : Int) ≤ i) (K : Calls Tryz.prog 145 #[.pointer (some ⟨p, 0, none⟩), .pointer (some ⟨q, 0, none⟩)] w fun e w' => e = .returned (.slice A n c) ∧ w = w') :
    Calls Tryz.prog 140 #[.int .i64 a, .int .i64 i, .int .i64 v, .func (.func 145) #[] #[.pointer (some ⟨p, 0, none⟩), .pointer (some ⟨q, 0, none⟩)]] w fun e w' => e = .returned (.int .i64 8) ∧ w = w' := by
  have HK := Lib.hid (at_words w a i p q n c A ha K)
  rw [if_pos hi] at HK
  clear K ha hi
  go_enter Tryz.func140, Tryz.ntmps140
  go_wp2_with (first | (go_at_call 143; refine HK.out.mono ?_; rintro e w' ⟨rfl, rfl⟩))
  go_ret
  exact ⟨rfl, rfl⟩
theorem set_words_at (w : World) (a v : Int) (i p q n c G : Nat) (u : Int) (ha : a ≠ 0) (hi : i < n) (hn : n ≤ 100000) (hv : w.cell? ⟨G, i, none⟩ = some (.int .i64 u)) (hf : w.frozen? ⟨G, i, none⟩ = false) (K : Calls Tryz.prog 145 #[.pointer (some ⟨p, 0, none⟩), .pointer (some ⟨q, 0, none⟩)] w fun e w' => e = .returned (.slice (some ⟨G, 0, none⟩) n c) ∧ w = w') :
    Calls Tryz.prog 140 #[.int .i64 a, .int .i64 (i : Int), .int .i64 v, .func (.func 145) #[] #[.pointer (some ⟨p, 0, none⟩), .pointer (some ⟨q, 0, none⟩)]] w fun e w' => e = .returned (.int .i64 0) ∧ w' = w.setCell ⟨G, i, none⟩ (.int .i64 v) := by
  have HK := Lib.hid (at_words w a i p q n c _ ha K)
  rw [if_neg (by omega)] at HK
  have HK2 := Lib.hid K
  have hv' : w.cell? ((⟨G, 0, none⟩ : Addr).add i) = some (.int .i64 u) := by rw [add_of_zero]; exact hv
  have hf' : w.frozen? ((⟨G, 0, none⟩ : Addr).add i) = false := by rw [add_of_zero]; exact hf
  clear K ha
  go_enter Tryz.func140, Tryz.ntmps140
  go_wp2_with (first | (go_at_call 143; refine HK.out.mono ?_; rintro e w' ⟨rfl, rfl⟩) | (go_at_call 145; refine HK2.out.mono ?_; rintro e w' ⟨rfl, rfl⟩))
  go_ret
  exact ⟨rfl, rfl⟩


end Go.Proofs.YteminkohgagedaaGreat.Mo
namespace Go.Proofs.YteminkohgagedaaGreat.Mo
open Go.RowKit Go.Proofs.YteminkohgagedaaGreat.Base Go.Proofs.YteminkohgagedaaGreat.Gr Go.Proofs.YteminkohgagedaaGreat.Ver
set_option linter.unusedVariables false
set_option linter.unusedSimpArgs false

section
variable {w : World} {o : Nat → Tag} {B hp : Nat} {A : Option Addr} {c : Nat} {D : Option Addr} {d : Nat} {xs : List Value} {A' : Option Addr} {c' : Nat} {D' : Option Addr} {d' : Nat} {xs' : List Value} {now last : Gr}
theorem HMv.cells (h : HMv w o B hp A c D d xs A' c' D' d' xs' now last) : w.cell? ⟨hp, 0, none⟩ = some (.slice A now.roots.length c) ∧ w.cell? ⟨hp, 1, none⟩ = some (.slice D now.nodes.length d) ∧ w.cell? ⟨hp, 2, none⟩ = some (.slice A' last.roots.length c') ∧ w.cell? ⟨hp, 3, none⟩ = some (.slice D' last.nodes.length d') := by
  have c0 := h.blk.cell 0
  have c1 := h.blk.cell 1
  have c2 := h.blk.cell 2
  have c3 := h.blk.cell 3
  simp only [List.getElem?_toArray, List.getElem?_cons_zero, List.getElem?_cons_succ] at c0 c1 c2 c3
  exact ⟨c0, c1, c2, c3⟩
theorem HMv.slot (h : HMv w o B hp A c D d xs A' c' D' d' xs' now last) {j G q : Nat} (hj : j < now.nodes.length) (hx : xs[j * 2]? = some (.slice (some ⟨G, 0, none⟩) now.nodes[j].slots.length q)) (hG : o G = .slots false j) (i : Nat) (v : Int) :
    HMv (w.setCell ⟨G, i, none⟩ (.int .i64 v)) o B hp A c D d xs A' c' D' d' xs' ⟨now.roots, now.nodes.set j ⟨pu now.nodes[j].slots i v, now.nodes[j].words⟩⟩ last := by
  have hm : Mod (fun k => k = G) w (w.setCell ⟨G, i, none⟩ (.int .i64 v)) := mod_set' (S := fun k => k = G) (Mod.refl _ _) rfl _
  have hl : (now.nodes.set j ⟨pu now.nodes[j].slots i v, now.nodes[j].words⟩).length = now.nodes.length := List.length_set
  refine ⟨?_, h.tag, ⟨h.now.roots.mod hm (fun k _ e e2 => by rw [e, hG] at e2; cases e2) (fun _ _ => rfl), h.now.nodes.slot hj hx i v⟩, h.last.mod hm (fun k _ e e2 => by rw [e, hG] at e2; cases e2) (fun _ _ => rfl), fun k hk e => h.lo k (by simpa [World.setCell] using hk) e, by simpa [World.setCell] using h.base⟩
  show Blk _ _ _ #[_, .slice D (now.nodes.set j ⟨pu now.nodes[j].slots i v, now.nodes[j].words⟩).length d, _, _]
  rw [hl]
  exact h.blk.far (p := ⟨G, i, none⟩) (fun e => by have := h.tag; rw [e, hG] at this; cases this) _
theorem HMv.word (h : HMv w o B hp A c D d xs A' c' D' d' xs' now last) {j G q : Nat} (hj : j < now.nodes.length) (hx : xs[j * 2 + 1]? = some (.slice (some ⟨G, 0, none⟩) now.nodes[j].words.length q)) (hG : o G = .words false j) (i : Nat) (v : Int) :
    HMv (w.setCell ⟨G, i, none⟩ (.int .i64 v)) o B hp A c D d xs A' c' D' d' xs' ⟨now.roots, now.nodes.set j ⟨now.nodes[j].slots, pu now.nodes[j].words i v⟩⟩ last := by
  have hm : Mod (fun k => k = G) w (w.setCell ⟨G, i, none⟩ (.int .i64 v)) := mod_set' (S := fun k => k = G) (Mod.refl _ _) rfl _
  have hl : (now.nodes.set j ⟨now.nodes[j].slots, pu now.nodes[j].words i v⟩).length = now.nodes.length := List.length_set
  refine ⟨?_, h.tag, ⟨h.now.roots.mod hm (fun k _ e e2 => by rw [e, hG] at e2; cases e2) (fun _ _ => rfl), h.now.nodes.word hj hx i v⟩, h.last.mod hm (fun k _ e e2 => by rw [e, hG] at e2; cases e2) (fun _ _ => rfl), fun k hk e => h.lo k (by simpa [World.setCell] using hk) e, by simpa [World.setCell] using h.base⟩
  show Blk _ _ _ #[_, .slice D (now.nodes.set j ⟨now.nodes[j].slots, pu now.nodes[j].words i v⟩).length d, _, _]
  rw [hl]
  exact h.blk.far (p := ⟨G, i, none⟩) (fun e => by have := h.tag; rw [e, hG] at this; cases this) _
theorem HMv.root (h : HMv w o B hp A c D d xs A' c' D' d' xs' now last) {G : Nat} (hA : A = some ⟨G, 0, none⟩) (i : Nat) (v : Int) :
    HMv (w.setCell ⟨G, i, none⟩ (.int .i64 v)) o B hp A c D d xs A' c' D' d' xs' ⟨pu now.roots i v, now.nodes⟩ last := by
  subst hA
  have hG : o G = .roots false := h.now.roots.2 _ rfl
  have hm : Mod (fun k => k = G) w (w.setCell ⟨G, i, none⟩ (.int .i64 v)) := mod_set' (S := fun k => k = G) (Mod.refl _ _) rfl _
  refine ⟨?_, h.tag, ⟨h.now.roots.set i v, ?_⟩, h.last.mod hm (fun k _ e e2 => by rw [e, hG] at e2; cases e2) (fun _ _ => rfl), fun k hk e => h.lo k (by simpa [World.setCell] using hk) e, by simpa [World.setCell] using h.base⟩
  · show Blk _ _ _ #[.slice _ (pu now.roots i v).length c, _, _, _]
    rw [pu_len]
    exact h.blk.far (p := ⟨G, i, none⟩) (fun e => by have := h.tag; rw [e, hG] at this; cases this) _
  · have hn := h.now.nodes
    refine ⟨own_mod hn.own hm (fun k hk hs => ?_), hn.tag, fun j hj => ?_⟩
    · obtain ⟨ad, e, rfl⟩ := block_iff hk
      have := hn.tag ad e
      rw [hs, hG] at this
      cases this
    · obtain ⟨A1, c1, B1, d1, y1, y2, k1, k2⟩ := hn.built j hj
      exact ⟨A1, c1, B1, d1, y1, y2, k1.mod hm (fun k _ e e2 => by rw [e, hG] at e2; cases e2) (fun _ _ => rfl), k2.mod hm (fun k _ e e2 => by rw [e, hG] at e2; cases e2) (fun _ _ => rfl)⟩
end
theorem turn_cell {w w1 : World} {o : Nat → Tag} (h : Below w.heap.size w w1) {G : Nat} (hG : o G ≠ .other) (i : Nat) (v : Value) : Turn w (w1.setCell ⟨G, i, none⟩ v) o o :=
  ⟨Mod.trans (Mod.of_below h) (mod_set' (S := fun k => k = G) (Mod.refl _ _) rfl _) (fun b _ e => by rw [e]; exact hG), fun _ _ => rfl⟩

/-- Two boxes for a closure. -/
theorem boxes2 (w : World) (p q : Value) (t u : TypeId) : Below w.heap.size w ((w.alloc (.cells #[p] t)).alloc (.cells #[q] u)) ∧ ((w.alloc (.cells #[p] t)).alloc (.cells #[q] u)).cell? ⟨w.heap.size, 0, none⟩ = some p ∧ ((w.alloc (.cells #[p] t)).alloc (.cells #[q] u)).cell? ⟨w.heap.size + 1, 0, none⟩ = some q := by
  refine ⟨below_then (below_1 _ _) (below_1 _ _), ?_, ?_⟩
  · simp
  · simp

/-- What a node's lists are, behind two boxes: all that a closure wants. -/
theorem slots_ready {w : World} {o : Nat → Tag} {B hp : Nat} {now last : Gr} (h : HM w o B hp now last) (hn : now.nodes.length ≤ 100000) (j : Nat) (hj : j < now.nodes.length) (W : World) (hW : W = (w.alloc (.cells #[.pointer (some ⟨hp, 0, none⟩)] 64)).alloc (.cells #[.int .i64 ((j : Int) + 1)] 3)) :
    ∃ A c D d xs A' c' D' d' xs' G q, HMv W o B hp A c D d xs A' c' D' d' xs' now last ∧ xs[j * 2]? = some (.slice G now.nodes[j].slots.length q) ∧ Pc W o (.slots false j) G q now.nodes[j].slots ∧
      Calls Tryz.prog 144 #[.pointer (some ⟨w.heap.size, 0, none⟩), .pointer (some ⟨w.heap.size + 1, 0, none⟩)] W fun e w' => e = .returned (.slice G now.nodes[j].slots.length q) ∧ W = w' := by
  have hb := boxes2 w (.pointer (some ⟨hp, 0, none⟩)) (.int .i64 ((j : Int) + 1)) 64 3
  rw [← hW] at hb
  obtain ⟨A, c, D, d, xs, A', c', D', d', xs', h⟩ := h.below hb.1
  obtain ⟨M, G, q, G', q', rfl, _, _, c1, c2, p1, p2⟩ := h.now.nodes.at_ j hj
  obtain ⟨A1, c1', B1, d1, y1, y2, k1, k2⟩ := h.now.nodes.built j hj
  have e := own_cell h.now.nodes.own (j * 2) (by rw [h.now.nodes.own.1]; omega)
  rw [c1] at e
  have hx : xs[j * 2]? = some (.slice G now.nodes[j].slots.length q) := by
    rw [List.getElem?_eq_getElem (by rw [h.now.nodes.own.1]; omega), e]
  exact ⟨A, c, _, d, xs, A', c', D', d', xs', G, q, h, hx, p1, slots1_any W _ _ hp M now.nodes.length d j _ hb.2.1 hb.2.2 h.cells.2.1 hj hn c1⟩
theorem words_ready {w : World} {o : Nat → Tag} {B hp : Nat} {now last : Gr} (h : HM w o B hp now last) (hn : now.nodes.length ≤ 100000) (j : Nat) (hj : j < now.nodes.length) (W : World) (hW : W = (w.alloc (.cells #[.pointer (some ⟨hp, 0, none⟩)] 64)).alloc (.cells #[.int .i64 ((j : Int) + 1)] 3)) :
    ∃ A c D d xs A' c' D' d' xs' G q, HMv W o B hp A c D d xs A' c' D' d' xs' now last ∧ xs[j * 2 + 1]? = some (.slice G now.nodes[j].words.length q) ∧ Pc W o (.words false j) G q now.nodes[j].words ∧
      Calls Tryz.prog 145 #[.pointer (some ⟨w.heap.size, 0, none⟩), .pointer (some ⟨w.heap.size + 1, 0, none⟩)] W fun e w' => e = .returned (.slice G now.nodes[j].words.length q) ∧ W = w' := by
  have hb := boxes2 w (.pointer (some ⟨hp, 0, none⟩)) (.int .i64 ((j : Int) + 1)) 64 3
  rw [← hW] at hb
  obtain ⟨A, c, D, d, xs, A', c', D', d', xs', h⟩ := h.below hb.1
  obtain ⟨M, G', q', G, q, rfl, _, _, c1, c2, p1, p2⟩ := h.now.nodes.at_ j hj
  have e := own_cell h.now.nodes.own (j * 2 + 1) (by rw [h.now.nodes.own.1]; omega)
  rw [c2] at e
  have hx : xs[j * 2 + 1]? = some (.slice G now.nodes[j].words.length q) := by
    rw [List.getElem?_eq_getElem (by rw [h.now.nodes.own.1]; omega), e]
  exact ⟨A, c, _, d, xs, A', c', D', d', xs', G, q, h, hx, p2, words1_any W _ _ hp M now.nodes.length d j _ hb.2.1 hb.2.2 h.cells.2.1 hj hn c2⟩

/-- The name of an object, opened. -/
theorem name_cases {a : Int} {n : Nat} (h0 : 0 ≤ a) (h1 : a ≤ n) : a = 0 ∨ ∃ j : Nat, j < n ∧ a = (j : Int) + 1 := by
  rcases (by omega : a = 0 ∨ 1 ≤ a) with h | h
  · exact .inl h
  · exact .inr ⟨(a - 1).toNat, by omega, by omega⟩
/-- What a place reads as. -/
def getV (a i : Int) (l : List Int) : Int := if atE a i l = 0 then gt l i else 0
theorem atE_nil (i : Int) (l : List Int) : atE 0 i l = 7 := rfl
theorem atE_far {a i : Int} {l : List Int} (ha : a ≠ 0) (h : (l.length : Int) ≤ i) : atE a i l = 8 := by rw [atE, if_neg ha, if_pos h]
theorem atE_in {a i : Int} {l : List Int} (ha : a ≠ 0) (h : ¬ (l.length : Int) ≤ i) : atE a i l = 0 := by rw [atE, if_neg ha, if_neg h]

theorem load_any {w : World} {o : Nat → Tag} {B hp : Nat} {now last : Gr} (h : HM w o B hp now last) (hn : now.nodes.length ≤ 100000) (hs : ∀ x ∈ now.nodes, x.slots.length ≤ 15 ∧ x.words.length ≤ 30) (a i : Int) (h0 : 0 ≤ a) (h1 : a ≤ now.nodes.length) (hi : 0 ≤ i) :
    Calls Tryz.prog 131 #[.pointer (some ⟨hp, 0, none⟩), .int .i64 a, .int .i64 i] w fun e w' => e = .returned (.tuple #[.int .i64 (getV a i (nd now a).slots), .int .i64 (atE a i (nd now a).slots)]) ∧ HM w' o B hp now last ∧ Turn w w' o o := by
  rcases name_cases h0 h1 with rfl | ⟨j, hj, rfl⟩
  · have HH := Lib.hid h
    have hb := boxes2 w (.pointer (some ⟨hp, 0, none⟩)) (.int .i64 0) 64 3
    have HB := Lib.hid hb
    clear h hs hb h0 h1
    go_enter Tryz.func131, Tryz.ntmps131
    go_wp2_with (first | (go_at_call 139; refine (slots_any _ _ _).mono ?_; rintro e w' ⟨rfl, rfl⟩) | (go_at_call 138; refine (get_nil _ _ _).mono ?_; rintro e w' ⟨rfl, rfl⟩))
    go_ret2
    exact ⟨rfl, HH.out.below HB.out.1, Turn.of_below HB.out.1⟩
  · obtain ⟨A, c, D, d, xs, A', c', D', d', xs', G, q, hW, hx, hP, K⟩ := slots_ready h hn j hj _ rfl
    have hb := (boxes2 w (.pointer (some ⟨hp, 0, none⟩)) (.int .i64 ((j : Int) + 1)) 64 3).1
    have hsl := (hs _ (List.getElem_mem hj)).1
    rw [nd_nat hj]
    have HB := Lib.hid (show _ ∧ _ from ⟨hb, HM.below h hb⟩)
    by_cases hfar : (now.nodes[j].slots.length : Int) ≤ i
    · have KG := Lib.hid (get_slots_far _ ((j : Int) + 1) i _ _ _ _ _ (by omega) hfar K)
      have HE := Lib.hid (atE_far (a := (j : Int) + 1) (by omega) hfar)
      clear h hs hb h0 h1 hW hx hP K hfar
      go_enter Tryz.func131, Tryz.ntmps131
      go_wp2_with (first | (go_at_call 139; refine (slots_any _ _ _).mono ?_; rintro e w' ⟨rfl, rfl⟩) | (go_at_call 138; refine KG.out.mono ?_; rintro e w' ⟨rfl, rfl⟩))
      go_ret2
      refine ⟨?_, HB.out.2, Turn.of_below HB.out.1⟩
      rw [getV, HE.out]
      rfl
    · obtain ⟨k, rfl⟩ : ∃ k : Nat, i = (k : Int) := ⟨i.toNat, by omega⟩
      have hk : k < now.nodes[j].slots.length := by omega
      obtain ⟨g, rfl, hg, htg⟩ := hP.some_ (by omega)
      have KG := Lib.hid (get_slots_at _ ((j : Int) + 1) k _ _ _ _ g _ (by omega) hk (by omega) (hP.cell k hk) K)
      have HE := Lib.hid (atE_in (a := (j : Int) + 1) (by omega) hfar)
      have HV := Lib.hid (gt_nat hk)
      clear h hs hb h0 h1 hW hx hP K hfar hg htg
      go_enter Tryz.func131, Tryz.ntmps131
      go_wp2_with (first | (go_at_call 139; refine (slots_any _ _ _).mono ?_; rintro e w' ⟨rfl, rfl⟩) | (go_at_call 138; refine KG.out.mono ?_; rintro e w' ⟨rfl, rfl⟩))
      go_ret2
      refine ⟨?_, HB.out.2, Turn.of_below HB.out.1⟩
      rw [getV, HE.out, if_pos rfl, HV.out]
      rfl
theorem word_any {w : World} {o : Nat → Tag} {B hp : Nat} {now last : Gr} (h : HM w o B hp now last) (hn : now.nodes.length ≤ 100000) (hs : ∀ x ∈ now.nodes, x.slots.length ≤ 15 ∧ x.words.length ≤ 30) (a i : Int) (h0 : 0 ≤ a) (h1 : a ≤ now.nodes.length) (hi : 0 ≤ i) :
    Calls Tryz.prog 137 #[.pointer (some ⟨hp, 0, none⟩), .int .i64 a, .int .i64 i] w fun e w' => e = .returned (.tuple #[.int .i64 (getV a i (nd now a).words), .int .i64 (atE a i (nd now a).words)]) ∧ HM w' o B hp now last ∧ Turn w w' o o := by
  rcases name_cases h0 h1 with rfl | ⟨j, hj, rfl⟩
  · have HH := Lib.hid h
    have hb := boxes2 w (.pointer (some ⟨hp, 0, none⟩)) (.int .i64 0) 64 3
    have HB := Lib.hid hb
    clear h hs hb h0 h1
    go_enter Tryz.func137, Tryz.ntmps137
    go_wp2_with (first | (go_at_call 141; refine (words_any _ _ _).mono ?_; rintro e w' ⟨rfl, rfl⟩) | (go_at_call 138; refine (get_nil _ _ _).mono ?_; rintro e w' ⟨rfl, rfl⟩))
    go_ret2
    exact ⟨rfl, HH.out.below HB.out.1, Turn.of_below HB.out.1⟩
  · obtain ⟨A, c, D, d, xs, A', c', D', d', xs', G, q, hW, hx, hP, K⟩ := words_ready h hn j hj _ rfl
    have hb := (boxes2 w (.pointer (some ⟨hp, 0, none⟩)) (.int .i64 ((j : Int) + 1)) 64 3).1
    have hsl := (hs _ (List.getElem_mem hj)).2
    rw [nd_nat hj]
    have HB := Lib.hid (show _ ∧ _ from ⟨hb, HM.below h hb⟩)
    by_cases hfar : (now.nodes[j].words.length : Int) ≤ i
    · have KG := Lib.hid (get_words_far _ ((j : Int) + 1) i _ _ _ _ _ (by omega) hfar K)
      have HE := Lib.hid (atE_far (a := (j : Int) + 1) (by omega) hfar)
      clear h hs hb h0 h1 hW hx hP K hfar
      go_enter Tryz.func137, Tryz.ntmps137
      go_wp2_with (first | (go_at_call 141; refine (words_any _ _ _).mono ?_; rintro e w' ⟨rfl, rfl⟩) | (go_at_call 138; refine KG.out.mono ?_; rintro e w' ⟨rfl, rfl⟩))
      go_ret2
      refine ⟨?_, HB.out.2, Turn.of_below HB.out.1⟩
      rw [getV, HE.out]
      rfl
    · obtain ⟨k, rfl⟩ : ∃ k : Nat, i = (k : Int) := ⟨i.toNat, by omega⟩
      have hk : k < now.nodes[j].words.length := by omega
      obtain ⟨g, rfl, hg, htg⟩ := hP.some_ (by omega)
      have KG := Lib.hid (get_words_at _ ((j : Int) + 1) k _ _ _ _ g _ (by omega) hk (by omega) (hP.cell k hk) K)
      have HE := Lib.hid (atE_in (a := (j : Int) + 1) (by omega) hfar)
      have HV := Lib.hid (gt_nat hk)
      clear h hs hb h0 h1 hW hx hP K hfar hg htg
      go_enter Tryz.func137, Tryz.ntmps137
      go_wp2_with (first | (go_at_call 141; refine (words_any _ _ _).mono ?_; rintro e w' ⟨rfl, rfl⟩) | (go_at_call 138; refine KG.out.mono ?_; rintro e w' ⟨rfl, rfl⟩))
      go_ret2
      refine ⟨?_, HB.out.2, Turn.of_below HB.out.1⟩
      rw [getV, HE.out, if_pos rfl, HV.out]
      rfl

theorem put_any {w : World} {o : Nat → Tag} {B hp : Nat} {now last : Gr} (h : HM w o B hp now last) (hn : now.nodes.length ≤ 100000) (hs : ∀ x ∈ now.nodes, x.slots.length ≤ 15 ∧ x.words.length ≤ 30) (a i v : Int) (h0 : 0 ≤ a) (h1 : a ≤ now.nodes.length) (hi : 0 ≤ i) :
    Calls Tryz.prog 132 #[.pointer (some ⟨hp, 0, none⟩), .int .i64 a, .int .i64 i, .int .i64 v] w fun e w' => e = .returned (.int .i64 (atE a i (nd now a).slots)) ∧ HM w' o B hp (if atE a i (nd now a).slots = 0 then setSlot now a i v else now) last ∧ Turn w w' o o := by
  rcases name_cases h0 h1 with rfl | ⟨j, hj, rfl⟩
  · have HH := Lib.hid h
    have hb := boxes2 w (.pointer (some ⟨hp, 0, none⟩)) (.int .i64 0) 64 3
    have HB := Lib.hid hb
    rw [atE_nil, if_neg (by omega)]
    clear h hs hb h0 h1
    go_enter Tryz.func132, Tryz.ntmps132
    go_wp2_with (first | (go_at_call 139; refine (slots_any _ _ _).mono ?_; rintro e w' ⟨rfl, rfl⟩) | (go_at_call 140; refine (set_nil _ _ _ _).mono ?_; rintro e w' ⟨rfl, rfl⟩))
    go_ret
    exact ⟨rfl, HH.out.below HB.out.1, Turn.of_below HB.out.1⟩
  · obtain ⟨A, c, D, d, xs, A', c', D', d', xs', G, q, hW, hx, hP, K⟩ := slots_ready h hn j hj _ rfl
    have hb := (boxes2 w (.pointer (some ⟨hp, 0, none⟩)) (.int .i64 ((j : Int) + 1)) 64 3).1
    have hsl := (hs _ (List.getElem_mem hj)).1
    rw [setSlot, nd_nat hj]
    have HB := Lib.hid (show _ ∧ _ from ⟨hb, HM.below h hb⟩)
    by_cases hfar : (now.nodes[j].slots.length : Int) ≤ i
    · have KG := Lib.hid (set_slots_far _ ((j : Int) + 1) i v _ _ _ _ _ (by omega) hfar K)
      rw [atE_far (a := (j : Int) + 1) (by omega) hfar, if_neg (by omega)]
      clear h hs hb h0 h1 hW hx hP K hfar
      go_enter Tryz.func132, Tryz.ntmps132
      go_wp2_with (first | (go_at_call 139; refine (slots_any _ _ _).mono ?_; rintro e w' ⟨rfl, rfl⟩) | (go_at_call 140; refine KG.out.mono ?_; rintro e w' ⟨rfl, rfl⟩))
      go_ret
      exact ⟨rfl, HB.out.2, Turn.of_below HB.out.1⟩
    · rw [atE_in (a := (j : Int) + 1) (by omega) hfar, if_pos rfl]
      obtain ⟨k, rfl⟩ : ∃ k : Nat, i = (k : Int) := ⟨i.toNat, by omega⟩
      have hk : k < now.nodes[j].slots.length := by omega
      obtain ⟨g, rfl, hg, htg⟩ := hP.some_ (by omega)
      have KG := Lib.hid (set_slots_at _ ((j : Int) + 1) v k _ _ _ _ g _ (by omega) hk (by omega) (hP.cell k hk) (hP.frozen k) K)
      have HZ := Lib.hid (hW.slot hj hx htg k v)
      have HT := Lib.hid (turn_cell (o := o) hb (G := g) (by rw [htg]; exact fun h => by cases h) k (.int .i64 v))
      have e1 : ((j : Int) + 1 - 1).toNat = j := by omega
      rw [e1]
      clear h hs hb h0 h1 hW hx hP K hfar hg htg e1
      go_enter Tryz.func132, Tryz.ntmps132
      go_wp2_with (first | (go_at_call 139; refine (slots_any _ _ _).mono ?_; rintro e w' ⟨rfl, rfl⟩) | (go_at_call 140; refine KG.out.mono ?_; rintro e w' ⟨rfl, rfl⟩))
      go_ret
      exact ⟨rfl, ⟨_, _, _, _, _, _, _, _, _, _, HZ.out⟩, HT.out⟩
theorem setword_any {w : World} {o : Nat → Tag} {B hp : Nat} {now last : Gr} (h : HM w o B hp now last) (hn : now.nodes.length ≤ 100000) (hs : ∀ x ∈ now.nodes, x.slots.length ≤ 15 ∧ x.words.length ≤ 30) (a i v : Int) (h0 : 0 ≤ a) (h1 : a ≤ now.nodes.length) (hi : 0 ≤ i) :
    Calls Tryz.prog 135 #[.pointer (some ⟨hp, 0, none⟩), .int .i64 a, .int .i64 i, .int .i64 v] w fun e w' => e = .returned (.int .i64 (atE a i (nd now a).words)) ∧ HM w' o B hp (if atE a i (nd now a).words = 0 then setWord now a i v else now) last ∧ Turn w w' o o := by
  rcases name_cases h0 h1 with rfl | ⟨j, hj, rfl⟩
  · have HH := Lib.hid h
    have hb := boxes2 w (.pointer (some ⟨hp, 0, none⟩)) (.int .i64 0) 64 3
    have HB := Lib.hid hb
    rw [atE_nil, if_neg (by omega)]
    clear h hs hb h0 h1
    go_enter Tryz.func135, Tryz.ntmps135
    go_wp2_with (first | (go_at_call 141; refine (words_any _ _ _).mono ?_; rintro e w' ⟨rfl, rfl⟩) | (go_at_call 140; refine (set_nil _ _ _ _).mono ?_; rintro e w' ⟨rfl, rfl⟩))
    go_ret
    exact ⟨rfl, HH.out.below HB.out.1, Turn.of_below HB.out.1⟩
  · obtain ⟨A, c, D, d, xs, A', c', D', d', xs', G, q, hW, hx, hP, K⟩ := words_ready h hn j hj _ rfl
    have hb := (boxes2 w (.pointer (some ⟨hp, 0, none⟩)) (.int .i64 ((j : Int) + 1)) 64 3).1
    have hsl := (hs _ (List.getElem_mem hj)).2
    rw [setWord, nd_nat hj]
    have HB := Lib.hid (show _ ∧ _ from ⟨hb, HM.below h hb⟩)
    by_cases hfar : (now.nodes[j].words.length : Int) ≤ i
    · have KG := Lib.hid (set_words_far _ ((j : Int) + 1) i v _ _ _ _ _ (by omega) hfar K)
      rw [atE_far (a := (j : Int) + 1) (by omega) hfar, if_neg (by omega)]
      clear h hs hb h0 h1 hW hx hP K hfar
      go_enter Tryz.func135, Tryz.ntmps135
      go_wp2_with (first | (go_at_call 141; refine (words_any _ _ _).mono ?_; rintro e w' ⟨rfl, rfl⟩) | (go_at_call 140; refine KG.out.mono ?_; rintro e w' ⟨rfl, rfl⟩))
      go_ret
      exact ⟨rfl, HB.out.2, Turn.of_below HB.out.1⟩
    · rw [atE_in (a := (j : Int) + 1) (by omega) hfar, if_pos rfl]
      obtain ⟨k, rfl⟩ : ∃ k : Nat, i = (k : Int) := ⟨i.toNat, by omega⟩
      have hk : k < now.nodes[j].words.length := by omega
      obtain ⟨g, rfl, hg, htg⟩ := hP.some_ (by omega)
      have KG := Lib.hid (set_words_at _ ((j : Int) + 1) v k _ _ _ _ g _ (by omega) hk (by omega) (hP.cell k hk) (hP.frozen k) K)
      have HZ := Lib.hid (hW.word hj hx htg k v)
      have HT := Lib.hid (turn_cell (o := o) hb (G := g) (by rw [htg]; exact fun h => by cases h) k (.int .i64 v))
      have e1 : ((j : Int) + 1 - 1).toNat = j := by omega
      rw [e1]
      clear h hs hb h0 h1 hW hx hP K hfar hg htg e1
      go_enter Tryz.func135, Tryz.ntmps135
      go_wp2_with (first | (go_at_call 141; refine (words_any _ _ _).mono ?_; rintro e w' ⟨rfl, rfl⟩) | (go_at_call 140; refine KG.out.mono ?_; rintro e w' ⟨rfl, rfl⟩))
      go_ret
      exact ⟨rfl, ⟨_, _, _, _, _, _, _, _, _, _, HZ.out⟩, HT.out⟩

end Go.Proofs.YteminkohgagedaaGreat.Mo
