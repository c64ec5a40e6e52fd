/- The book's functions over programs: copyCodes, LentCodes, SameCodes, StaysCodes. -/
import Derived.Test.YteminkohgagedaaGreatQVerCheck
namespace Go.Proofs.YteminkohgagedaaGreat.Ver
open Go.RowKit Go.Proofs.YteminkohgagedaaGreat.Base
set_option linter.unusedVariables false
set_option linter.unusedSimpArgs false

/-- An append behind a guard that lets it be done. -/
theorem wpList_append_guarded {P : Program} (w : World) {ops : Array Oper} {rest : List Oper} {o : Oper} {a : Act} {Q : Exit → Act → World → Prop} (hw : Region.wanted o (yielded ops a.tmps) = true) (s x : Operand) (t : TypeId)
    (ho : o.op = .call { callee := .builtin .append, args := #[s, x], argTypes := #[t, t] })
    (base : Nat) (e : TypeId) (i : TypeInfo) (z : Value) (size bytes : Nat) (ht : P.underlying t = some (.slice e)) (hi : P.info? e = some i) (hz : i.zero = some z)
    (hsize : i.size = size) (hby : i.bytes = bytes) (hzs : z.cells.size = size) (hsz : 0 < size)
    (v : Value) (n : Nat) (xs : List Value) (hs : a.eval s = v) (hown : w.ownsRow base e size v n xs)
    (A : Option Addr) (m c : Nat) (news : List Value) (hx : a.eval x = .slice A m c) (hr : Reads w size A m news) (h1 : ∀ u ∈ news, u.oneCell' = true)
    (hA : A = none → m = 0)
    (h63 : n + m ≤ maxLen) (hbytes : (n + m) * bytes ≤ 140737488355328) (hbase : base ≤ w.heap.size)
    (h : ∀ v' w', w'.ownsRow base e size v' (n + m) (xs ++ news) → w.grownBy w' v.ownBlock → (v'.ownBlock = v.ownBlock ∨ v'.ownBlock = some w.heap.size) → wpList P ops Q rest (a.put o.dst v') w') : wpList P ops Q (o :: rest) a w :=
  wpList_step fun _ hK => by
    rw [if_pos hw]
    exact wp_append_any w s x t ho base e i z size bytes ht hi hz hsize hby hzs hsz v n xs hs hown A m c news hx hr h1 hA h63 hbytes hbase fun v' w' h2 h3 h4 => hK _ _ (h v' w' h2 h3 h4)

theorem copy_any (A : Option Addr) (l : List Ins) (c : Nat) (w : World) (hr : Arr w Ins.cells 4 A l) (hl : l.length ≤ 100000) :
    Calls Tryz.prog 24 #[.slice A l.length c] w fun e w' => ∃ v, e = .returned v ∧ w'.ownsRow w.heap.size 58 4 v l.length (enc Ins.cells l) ∧ Below w.heap.size w w' := by
  obtain ⟨i0, hi0, hz0, hz1, hz2⟩ := info_parts insInfo
  go_enter Tryz.func24, Tryz.ntmps24
  go_wp2_with (first
    | (at_builtin
       refine wpList_append_any _ rfl (.const (.slice none 0 0)) (.tmp 3) _ rfl w.heap.size 58 i0 _ 4 32 Tryz.underlying26 hi0 hz0 hz1 hz2 rfl (by omega) (.slice none 0 0) 0 [] rfl
         (own_nil _ _ _ _) A l.length c (enc Ins.cells l) rfl hr (ins_oneCell l) (fun e => hr.len Ins.cells_len (by omega) e) (by simp only [maxLen]; omega) (by omega) (Nat.le_refl _) ?_
       intro v1 w1 hown1 hg1 hat1))
  go_ret
  refine ⟨v1, rfl, by simpa using hown1, (Below.refl _ _).grown hg1 (Nat.le_refl _) (by simp [Value.ownBlock])⟩

/-- A list with room behind it, in which a mark stands: the row of one more. -/
def lentCells (l : List Ins) : List Value := enc Ins.cells (l ++ [⟨-77, 0, 0, 0⟩])
theorem lent_any (A : Option Addr) (l : List Ins) (c : Nat) (w : World) (hr : Arr w Ins.cells 4 A l) (hl : l.length ≤ 100000) :
    Calls Tryz.prog 8 #[.slice A l.length c] w fun e w' => ∃ B m, e = .returned (.slice B l.length m) ∧ l.length ≤ m ∧
      w'.ownsRow w.heap.size 58 4 (.slice B (l.length + 1) m) (l.length + 1) (lentCells l) ∧ Below w.heap.size w w' := by
  obtain ⟨i0, hi0, hz0, hz1, hz2⟩ := info_parts insInfo
  go_enter Tryz.func8, Tryz.ntmps8
  go_wp2_with fail
  refine (copy_any A l c w hr hl).mono ?_
  rintro e w1 ⟨v, rfl, hown, hb⟩
  have hz := hb.size
  obtain ⟨B, m, rfl, hm⟩ := own_form hown
  go_wp2_with (first
    | (at_builtin
       refine wpList_append_any _ rfl (.tmp 4) (.tmp 6) _ rfl w.heap.size 58 i0 _ 4 32 Tryz.underlying26 hi0 hz0 hz1 hz2 rfl (by omega) _ l.length (enc Ins.cells l) rfl
         (hown.alloc _) (some ⟨w1.heap.size, 0, none⟩) 1 1 [.int .i64 (-77), .int .i64 0, .int .i64 0, .int .i64 0] rfl (Reads.new w1 _ rfl) (ins_oneCell [⟨-77, 0, 0, 0⟩]) (fun e => by cases e) (by simp only [maxLen]; omega) (by omega) (by simp; omega) ?_
       intro v2 w2 hown2 hg2 hat2
       obtain ⟨B2, m2, rfl, hm2⟩ := own_form hown2
       have hm3 : l.length ≤ m2 := by omega))
  go_ret
  refine ⟨B2, m2, rfl, by omega, by rw [lentCells, enc_append]; exact hown2, ?_⟩
  refine (hb.trans ((Below.refl _ _).alloc hz _)).grown hg2 (by simp; omega) ?_
  intro k hk
  exact (own_block hown k hk).1

theorem below_drewN {B : Nat} {a w : World} (h : Below B a w) (n : Nat) : Below B a (w.drewN n) := ⟨h.os, h.tape, h.output, h.size, h.block⟩
theorem ins_eqA (d : Nat) (w : World) (x y : Ins) :
    (Op.equalIn (d + 2) 58 (.agg #[.int .i64 x.op, .int .i64 x.a, .int .i64 x.b, .int .i64 x.c]) (.agg #[.int .i64 y.op, .int .i64 y.a, .int .i64 y.b, .int .i64 y.c])).run Tryz.prog w = .ok (x.op == y.op && (x.a == y.a && (x.b == y.b && (x.c == y.c)))) w := by
  refine eqA_of Tryz.underlying58 (by kernel_rfl) ?_
  refine eqf_cons (by rfl) (by go_simp; rfl) (by go_simp; rfl) (by go_simp) ?_
  refine eqf_cons (by rfl) (by go_simp; rfl) (by go_simp; rfl) (by go_simp) ?_
  refine eqf_cons (by rfl) (by go_simp; rfl) (by go_simp; rfl) (by go_simp) ?_
  exact eqf_last (by rfl) (by go_simp; rfl) (by go_simp; rfl) (by go_simp)
theorem ins_beq (x y : Ins) : (x.op == y.op && (x.a == y.a && (x.b == y.b && (x.c == y.c)))) = decide (x = y) := by
  rw [Bool.eq_iff_iff]
  cases x; cases y
  simp
theorem ins_eq (x y : Ins) (w : World) : (Op.equalIn 10000 58 (.agg #[.int .i64 x.op, .int .i64 x.a, .int .i64 x.b, .int .i64 x.c]) (.agg #[.int .i64 y.op, .int .i64 y.a, .int .i64 y.b, .int .i64 y.c])).run Tryz.prog w = .ok (decide (x = y)) w := by
  rw [← ins_beq]
  exact ins_eqA 9998 w x y
theorem ins_eq_yes {x y : Ins} (h : x = y) (w : World) : (Op.equalIn 10000 58 (.agg #[.int .i64 x.op, .int .i64 x.a, .int .i64 x.b, .int .i64 x.c]) (.agg #[.int .i64 y.op, .int .i64 y.a, .int .i64 y.b, .int .i64 y.c])).run Tryz.prog w = .ok true w := by
  rw [ins_eq, decide_eq_true h]
theorem ins_eq_no {x y : Ins} (h : ¬ x = y) (w : World) : (Op.equalIn 10000 58 (.agg #[.int .i64 x.op, .int .i64 x.a, .int .i64 x.b, .int .i64 x.c]) (.agg #[.int .i64 y.op, .int .i64 y.a, .int .i64 y.b, .int .i64 y.c])).run Tryz.prog w = .ok false w := by
  rw [ins_eq, decide_eq_false h]
theorem ins_guard : Tryz.prog.eqGuardType Tryz.prog.depth 58 = false := by kernel_rfl

theorem same_any (A B : Option Addr) (l m : List Ins) (c d : Nat) (w : World) (hl : Arr w Ins.cells 4 A l) (hm : Arr w Ins.cells 4 B m) (hn : l.length ≤ 100000) :
    Calls Tryz.prog 44 #[.slice A l.length c, .slice B m.length d] w fun e w' => e = .returned (.bool (decide (l = m))) ∧ Below w.heap.size w w' := by
  by_cases h : l.length = m.length
  case neg =>
    rw [decide_eq_false (fun e => h (by rw [e]))]
    have hb : ((l.length : Int) != m.length) = true := bne_iff_ne.mpr (by omega)
    clear h hl hm
    go_enter Tryz.func44, Tryz.ntmps44
    go_wp2
    go_ret
    exact ⟨rfl, Below.refl _ _⟩
  obtain ⟨q, hq⟩ : ∃ q, decide (l = m) = q := ⟨_, rfl⟩
  rw [hq]
  have HQ := Lib.hid hq
  clear hq
  have HL := Lib.hid hl
  have HM := Lib.hid hm
  have HE := Lib.hid h
  have hb : ((l.length : Int) != m.length) = false := by rw [h]; simp
  clear hl hm h
  go_enter Tryz.func44, Tryz.ntmps44
  go_wp2
  go_loopw [5] (fun i wr => ∃ k : Nat, k ≤ l.length ∧ i = .int .i64 k ∧ Hid (Below w.heap.size w wr) ∧ Hid (l.take k = m.take k)) (fun i _ => l.length - (intOf i).toNat)
  case atStart => exact ⟨0, Nat.zero_le _, rfl, Below.refl _ _, rfl⟩
  case round =>
    obtain ⟨k, hk, rfl, HB, HT⟩ := hrel
    by_cases hlt : k < l.length
    · have hlt2 : k < m.length := by have := HE.out; omega
      obtain ⟨ad, rfl, c0, c1, c2, c3⟩ := codes_at (HL.out.below HB.out) k hlt
      obtain ⟨bd, rfl, d0, d1, d2, d3⟩ := codes_at (HM.out.below HB.out) k hlt2
      have p1 : (0 : Int) ≤ k := by omega
      have p2 : (k : Int) < l.length := by omega
      have p3 : (k : Int) < m.length := by omega
      have hg := ins_guard
      by_cases he : l[k] = m[k]
      · have hy := ins_eq_yes he
        have HE2 := Lib.hid he
        clear he
        go_wp2
        go_quiet (fail)
        go_wp2
        go_roundw
        case rel =>
          refine ⟨k + 1, by omega, by go_num, below_drewN HB.out _, ?_⟩
          show _ = _
          rw [List.take_succ_eq_append_getElem hlt, List.take_succ_eq_append_getElem hlt2, HT.out, HE2.out]
        case measure => simp [intOf]; omega
      · have hy := ins_eq_no he
        have HE2 := Lib.hid he
        clear he
        go_wp2
        go_quiet (fail)
        go_wp2
        go_ret
        refine ⟨ret_bool ?_, below_drewN HB.out _⟩
        rw [← HQ.out]
        exact (decide_eq_false (fun e => HE2.out (by subst e; rfl))).symm
    · go_wp2
      go_ret
      refine ⟨ret_bool ?_, HB.out⟩
      rw [← HQ.out]
      have e : k = l.length := by omega
      have h := HT.out
      rw [e, List.take_length, HE.out, List.take_length] at h
      exact (decide_eq_true h).symm

theorem arr_prefix {w : World} {A : Option Addr} {l m : List Ins} (h : Arr w Ins.cells 4 A (l ++ m)) : Arr w Ins.cells 4 A l := by
  have h1 := Reads.take h (k := l.length) (by simp)
  rw [enc_append, List.take_append_of_le_length (by rw [enc_len Ins.cells_len]; omega), List.take_of_length_le (by rw [enc_len Ins.cells_len]; omega)] at h1
  exact h1

theorem stays_any (A B : Option Addr) (l : List Ins) (c m : Nat) (w : World) (hl : Arr w Ins.cells 4 A l) (hm : Arr w Ins.cells 4 B (l ++ [⟨-77, 0, 0, 0⟩])) (hn : l.length ≤ 100000) (hc : l.length + 1 ≤ m) :
    Calls Tryz.prog 18 #[.slice B l.length m, .slice A l.length c] w fun e w' => e = .returned (.bool true) ∧ Below w.heap.size w w' := by
  have h1 := arr_prefix hm
  have hsame := same_any B A l l m c w h1 hl hn
  rw [decide_eq_true rfl] at hsame
  have HS := Lib.hid hsame
  have hlen : l.length < (l ++ [(⟨-77, 0, 0, 0⟩ : Ins)]).length := by simp
  have HC : Hid (Arr w Ins.cells 4 B (l ++ [⟨-77, 0, 0, 0⟩])) := hm
  clear hsame h1 hm hl
  have p1 : (0 : Int) ≤ (l.length : Int) + 1 := by omega
  have p2 : (l.length : Int) + 1 ≤ m := by omega
  go_enter Tryz.func18, Tryz.ntmps18
  go_wp2_with fail
  refine (HS.out).mono ?_
  rintro e w1 ⟨rfl, hb⟩
  obtain ⟨bd, rfl, c0, c1, c2, c3⟩ := codes_at (HC.out.below hb) l.length hlen
  simp only [List.getElem_append_right (Nat.le_refl _), Nat.sub_self, List.getElem_singleton] at c0
  clear c1 c2 c3
  go_wp2_with fail
  go_ret
  exact ⟨rfl, hb⟩

end Go.Proofs.YteminkohgagedaaGreat.Ver
