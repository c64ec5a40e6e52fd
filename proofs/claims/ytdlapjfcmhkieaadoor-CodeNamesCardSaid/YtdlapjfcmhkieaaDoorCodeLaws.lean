/- The statements CodeNames and CodeJoins's own functions. -/
import Derived.Test.YtdlapjfcmhkieaaDoorCodeAlive
import Derived.Test.YtdlapjfcmhkieaaDoorItoaPlain
import Derived.Test.YtdlapjfcmhkieaaDoorBookIns
import Derived.Laws.StructEq
namespace Go.Proofs.YtdlapjfcmhkieaaDoor.Ver
open Go.RowKit Go.Proofs.YtdlapjfcmhkieaaDoor.Base
set_option linter.unusedVariables false
set_option linter.unusedSimpArgs false

theorem insText_eq (x : Ins) : insText x = opName x.op ++ 32 :: (Lib.itoa x.a ++ 32 :: (Lib.itoa x.b ++ 32 :: Lib.itoa x.c)) := by
  simp [insText, Lib.join, List.intercalate]
theorem opName_facts : ∀ m, m < 23 → (opName (m : Nat) ≠ [] ∧ (32 : UInt8) ∉ opName (m : Nat)) ∧ ∀ n, n < 23 → opName (m : Nat) = opName (n : Nat) → m = n := by decide +kernel
theorem opName_inj {a b : Int} (ha : 0 ≤ a ∧ a < 23) (hb : 0 ≤ b ∧ b < 23) (h : opName a = opName b) : a = b := by
  obtain ⟨m, rfl⟩ := Int.eq_ofNat_of_zero_le ha.1
  obtain ⟨n, rfl⟩ := Int.eq_ofNat_of_zero_le hb.1
  have := (opName_facts m (by omega)).2 n (by omega) h
  omega
theorem opName_no {a : Int} (ha : 0 ≤ a ∧ a < 23) : opName a ≠ [] ∧ (32 : UInt8) ∉ opName a := by
  obtain ⟨m, rfl⟩ := Int.eq_ofNat_of_zero_le ha.1
  exact (opName_facts m (by omega)).1
theorem insText_inj {x y : Ins} (hx : 0 ≤ x.op ∧ x.op < 23) (hy : 0 ≤ y.op ∧ y.op < 23) (h : insText x = insText y) : x = y := by
  rw [insText_eq, insText_eq] at h
  have n32 : ∀ n : Int, (32 : UInt8) ∉ Lib.itoa n := fun n => itoa_no (by decide) (by decide)
  obtain ⟨e0, h⟩ := sep_inj (opName_no hx).2 (opName_no hy).2 h
  obtain ⟨e1, h⟩ := sep_inj (n32 _) (n32 _) h
  obtain ⟨e2, e3⟩ := sep_inj (n32 _) (n32 _) h
  have a0 := opName_inj hx hy e0
  have a1 := itoa_inj e1
  have a2 := itoa_inj e2
  have a3 := itoa_inj e3
  cases x; cases y
  simp only at a0 a1 a2 a3
  subst a0 a1 a2 a3
  rfl

def inRange (x : Ins) : Prop := (0 ≤ x.op ∧ x.op < 23) ∧ 0 ≤ x.a ∧ 0 ≤ x.b ∧ 0 ≤ x.c

/-- The cells of two instructions that lie side by side. -/
def twoIns (b c : Nat) (x y : Ins) (w : World) : Prop :=
  (w.cell? ⟨b, 0, none⟩ = some (.int .i64 x.op) ∧ w.cell? ⟨b, 1, none⟩ = some (.int .i64 x.a) ∧ w.cell? ⟨b, 2, none⟩ = some (.int .i64 x.b) ∧ w.cell? ⟨b, 3, none⟩ = some (.int .i64 x.c)) ∧
  (w.cell? ⟨c, 0, none⟩ = some (.int .i64 y.op) ∧ w.cell? ⟨c, 1, none⟩ = some (.int .i64 y.a) ∧ w.cell? ⟨c, 2, none⟩ = some (.int .i64 y.b) ∧ w.cell? ⟨c, 3, none⟩ = some (.int .i64 y.c))
theorem twoIns.below {b c : Nat} {x y : Ins} {w w' : World} (h : twoIns b c x y w) (hb : Below w.heap.size w w') : twoIns b c x y w' := by
  obtain ⟨⟨a0, a1, a2, a3⟩, b0, b1, b2, b3⟩ := h
  exact ⟨⟨(hb.cell (cell_lt a0)).trans a0, (hb.cell (cell_lt a1)).trans a1, (hb.cell (cell_lt a2)).trans a2, (hb.cell (cell_lt a3)).trans a3⟩,
    (hb.cell (cell_lt b0)).trans b0, (hb.cell (cell_lt b1)).trans b1, (hb.cell (cell_lt b2)).trans b2, (hb.cell (cell_lt b3)).trans b3⟩
theorem twoIns_new (x y : Ins) (w : World) : twoIns w.heap.size (w.heap.size + 1) x y ((w.alloc (.cells #[.int .i64 x.op, .int .i64 x.a, .int .i64 x.b, .int .i64 x.c] 28)).alloc (.cells #[.int .i64 y.op, .int .i64 y.a, .int .i64 y.b, .int .i64 y.c] 28)) := by
  have h1 := (Blk.new w 28 #[.int .i64 x.op, .int .i64 x.a, .int .i64 x.b, .int .i64 x.c]).alloc (.cells #[.int .i64 y.op, .int .i64 y.a, .int .i64 y.b, .int .i64 y.c] 28)
  have h2 := Blk.new (w.alloc (.cells #[.int .i64 x.op, .int .i64 x.a, .int .i64 x.b, .int .i64 x.c] 28)) 28 #[.int .i64 y.op, .int .i64 y.a, .int .i64 y.b, .int .i64 y.c]
  have e : (w.alloc (.cells #[.int .i64 x.op, .int .i64 x.a, .int .i64 x.b, .int .i64 x.c] 28)).heap.size = w.heap.size + 1 := by simp
  rw [e] at h2
  exact ⟨⟨h1.cell 0, h1.cell 1, h1.cell 2, h1.cell 3⟩, h2.cell 0, h2.cell 1, h2.cell 2, h2.cell 3⟩

set_option maxRecDepth 100000 in
set_option maxHeartbeats 2000000 in
theorem names_in (x y : Ins) (w : World) (ht : Tab w) (fx : x.fits) (fy : y.fits) (hr : inRange x) (hs : inRange y) (q r : Bool)
    (hT : (insText x == insText y) = q) (hE : decide (x = y) = q) (hN : (opName x.op == opName y.op) = r) (hO : (x.op == y.op) = r) :
    Calls Tryd.prog 4 #[.agg #[.int .i64 x.op, .int .i64 x.a, .int .i64 x.b, .int .i64 x.c], .agg #[.int .i64 y.op, .int .i64 y.a, .int .i64 y.b, .int .i64 y.c]] w fun e w' => e = .returned (.bool true) ∧ Below w.heap.size w w' := by
  have HT := Lib.hid ht
  obtain ⟨⟨r1, r2⟩, r3, r4, r5⟩ := hr
  obtain ⟨⟨s1, s2⟩, s3, s4, s5⟩ := hs
  have q1 : decide (x.op < 0) = false := decide_eq_false (by omega)
  have q2 : decide (23 ≤ x.op) = false := decide_eq_false (by omega)
  have q3 : decide (x.a < 0) = false := decide_eq_false (by omega)
  have q4 : decide (x.b < 0) = false := decide_eq_false (by omega)
  have q5 : decide (x.c < 0) = false := decide_eq_false (by omega)
  have p1 : decide (y.op < 0) = false := decide_eq_false (by omega)
  have p2 : decide (23 ≤ y.op) = false := decide_eq_false (by omega)
  have p3 : decide (y.a < 0) = false := decide_eq_false (by omega)
  have p4 : decide (y.b < 0) = false := decide_eq_false (by omega)
  have p5 : decide (y.c < 0) = false := decide_eq_false (by omega)
  have e1 : (opName x.op).isEmpty = false := by simpa using (opName_no ⟨r1, r2⟩).1
  have e2 : (opName (-1)).isEmpty = true := by rfl
  have e3 : (opName 23).isEmpty = true := by rfl
  have hy : ∀ w, (Op.equalIn 10000 28 (.agg #[.int .i64 x.op, .int .i64 x.a, .int .i64 x.b, .int .i64 x.c]) (.agg #[.int .i64 y.op, .int .i64 y.a, .int .i64 y.b, .int .i64 y.c])).run Tryd.prog w = .ok q w := fun w => by rw [ins_eq x y w, hE]
  have hg := ins_guard
  clear ht hE r1 r2 r3 r4 r5 s1 s2 s3 s4 s5
  go_enter Tryd.func4, Tryd.ntmps4
  go_wp2_with fail
  have hb0 : Below w.heap.size w ((w.alloc (.cells #[.int .i64 x.op, .int .i64 x.a, .int .i64 x.b, .int .i64 x.c] 28)).alloc (.cells #[.int .i64 y.op, .int .i64 y.a, .int .i64 y.b, .int .i64 y.c] 28)) :=
    ((Below.refl _ _).alloc (Nat.le_refl _) _).alloc (by simp) _
  have HB0 := Lib.hid hb0
  clear hb0
  refine (alive_any _ (HT.out.below HB0.out)).mono ?_
  rintro e w1 ⟨rfl, hb1⟩
  obtain ⟨⟨c0, c1, c2, c3⟩, d0, d1, d2, d3⟩ := (twoIns_new x y w).below hb1
  have HB1 := HB0.out.trans (hb1.mono (by simp; omega))
  have HB2 : Below w.heap.size w w1.drew := HB1.drew
  have HT1 : Tab w1.drew := HT.out.below HB2
  clear hb1 HB1
  go_wp2_with fail
  go_region_held3 (fun w' => w'.cell? ⟨w.heap.size, 0, none⟩ = some (.int .i64 x.op) ∧ w'.cell? ⟨w.heap.size, 1, none⟩ = some (.int .i64 x.a) ∧ w'.cell? ⟨w.heap.size, 2, none⟩ = some (.int .i64 x.b) ∧ w'.cell? ⟨w.heap.size, 3, none⟩ = some (.int .i64 x.c) ∧
      w'.cell? ⟨w.heap.size + 1, 0, none⟩ = some (.int .i64 y.op) ∧ w'.cell? ⟨w.heap.size + 1, 1, none⟩ = some (.int .i64 y.a) ∧ w'.cell? ⟨w.heap.size + 1, 2, none⟩ = some (.int .i64 y.b) ∧ w'.cell? ⟨w.heap.size + 1, 3, none⟩ = some (.int .i64 y.c) ∧ Tab w' ∧ Below w.heap.size w w')
    (first
      | go_keep
      | (go_split_ands
         refine ⟨?_, ?_, ?_, ?_, ?_, ?_, ?_, ?_, ?_, ?_⟩
         iterate 8 (exact (hbl.cell (cell_lt (by assumption))).trans (by assumption))
         · exact Tab.below (by assumption) hbl
         · exact below_then (by assumption) hbl))
    (first
      | (go_at_call 12; go_split_ands; refine (text_any _ _ (by assumption) (by assumption)).mono ?_; rintro e w1 ⟨rfl, hbl⟩)
      | (go_at_call 10; refine (name_any _ _).mono ?_; rintro e w1 ⟨rfl, hbl⟩))
  all_goals
    go_wp2
    go_ret
    go_split_ands
    exact ⟨rfl, by assumption⟩

theorem names_out (x y : Ins) (w : World) (ht : Tab w) (h : ¬ (inRange x ∧ inRange y)) :
    Calls Tryd.prog 4 #[.agg #[.int .i64 x.op, .int .i64 x.a, .int .i64 x.b, .int .i64 x.c], .agg #[.int .i64 y.op, .int .i64 y.a, .int .i64 y.b, .int .i64 y.c]] w fun e w' => e = .returned (.bool true) ∧ Below w.heap.size w w' := by
  unfold inRange at h
  have HT := Lib.hid ht
  have hb0 : Below w.heap.size w ((w.alloc (.cells #[.int .i64 x.op, .int .i64 x.a, .int .i64 x.b, .int .i64 x.c] 28)).alloc (.cells #[.int .i64 y.op, .int .i64 y.a, .int .i64 y.b, .int .i64 y.c] 28)) :=
    ((Below.refl _ _).alloc (Nat.le_refl _) _).alloc (by simp) _
  have HB0 := Lib.hid hb0
  obtain ⟨b1, h1⟩ : ∃ b, decide (x.op < 0) = b := ⟨_, rfl⟩
  obtain ⟨b2, h2⟩ : ∃ b, decide (23 ≤ x.op) = b := ⟨_, rfl⟩
  obtain ⟨b3, h3⟩ : ∃ b, decide (y.op < 0) = b := ⟨_, rfl⟩
  obtain ⟨b4, h4⟩ : ∃ b, decide (23 ≤ y.op) = b := ⟨_, rfl⟩
  obtain ⟨b5, h5⟩ : ∃ b, decide (x.a < 0) = b := ⟨_, rfl⟩
  obtain ⟨b6, h6⟩ : ∃ b, decide (x.b < 0) = b := ⟨_, rfl⟩
  obtain ⟨b7, h7⟩ : ∃ b, decide (x.c < 0) = b := ⟨_, rfl⟩
  obtain ⟨b8, h8⟩ : ∃ b, decide (y.a < 0) = b := ⟨_, rfl⟩
  obtain ⟨b9, h9⟩ : ∃ b, decide (y.b < 0) = b := ⟨_, rfl⟩
  obtain ⟨b10, h10⟩ : ∃ b, decide (y.c < 0) = b := ⟨_, rfl⟩
  have hor : (b1 || b2 || b3 || b4 || b5 || b6 || b7 || b8 || b9 || b10) = true := by
    rw [← h1, ← h2, ← h3, ← h4, ← h5, ← h6, ← h7, ← h8, ← h9, ← h10]
    simp only [Bool.or_eq_true, decide_eq_true_eq]
    omega
  clear h hb0 ht
  go_enter Tryd.func4, Tryd.ntmps4
  go_wp2_with fail
  all_goals
    first
    | (refine (alive_any _ (HT.out.below HB0.out)).mono ?_
       rintro e w1 ⟨rfl, hb1⟩
       go_wp2_with fail
       go_ret
       exact ⟨rfl, HB0.out.trans (hb1.mono (by simp; omega))⟩)
    | (exfalso
       simp_all)

theorem names_walk (x y : Ins) (w : World) (ht : Tab w) (fx : x.fits) (fy : y.fits) :
    Calls Tryd.prog 4 #[.agg #[.int .i64 x.op, .int .i64 x.a, .int .i64 x.b, .int .i64 x.c], .agg #[.int .i64 y.op, .int .i64 y.a, .int .i64 y.b, .int .i64 y.c]] w fun e w' => e = .returned (.bool true) ∧ Below w.heap.size w w' := by
  by_cases h : inRange x ∧ inRange y
  · refine names_in x y w ht fx fy h.1 h.2 (decide (x = y)) (x.op == y.op) ?_ rfl ?_ rfl
    · by_cases e : x = y
      · subst e; simp
      · rw [decide_eq_false e]
        exact beq_eq_false_iff_ne.mpr (fun h1 => e (insText_inj h.1.1 h.2.1 h1))
    · by_cases e : x.op = y.op
      · rw [e]; simp
      · rw [beq_eq_false_iff_ne.mpr e]
        exact beq_eq_false_iff_ne.mpr (fun h1 => e (opName_inj h.1.1 h.2.1 h1))
  · exact names_out x y w ht h

end Go.Proofs.YtdlapjfcmhkieaaDoor.Ver
