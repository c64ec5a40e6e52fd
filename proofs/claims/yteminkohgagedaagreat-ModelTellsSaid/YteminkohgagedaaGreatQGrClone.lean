/- slices.Clone over numbers. -/
import Derived.Test.YteminkohgagedaaGreatQVerPlain
namespace Go.Proofs.YteminkohgagedaaGreat.Gr
open Go.RowKit Go.Proofs.YteminkohgagedaaGreat.Base
set_option linter.unusedVariables false
set_option linter.unusedSimpArgs false

theorem pick_any (a n : Int) (p : Addr) (w : World) (hc : w.cell? p = some (.int .i64 n)) :
    Calls Tryz.prog 96 #[.int .i64 a, .pointer (some p)] w fun e w' => e = .returned (.bool !(decide (0 ≤ a) && decide (a ≤ n))) ∧ Below w.heap.size w w' := by
  rcases (by omega : a < 0 ∨ (0 ≤ a ∧ n < a) ∨ (0 ≤ a ∧ a ≤ n)) with h | ⟨h, h2⟩ | ⟨h, h2⟩
  · have e1 : decide (0 ≤ a) = false := decide_eq_false (by omega)
    rw [e1]
    go_enter Tryz.func96, Tryz.ntmps96
    go_wp2
    go_ret
    exact ⟨rfl, Below.refl _ _⟩
  · have e1 : decide (0 ≤ a) = true := decide_eq_true (by omega)
    have e2 : decide (a ≤ n) = false := decide_eq_false (by omega)
    rw [e1, e2]
    go_enter Tryz.func96, Tryz.ntmps96
    go_wp2
    go_ret
    exact ⟨rfl, Below.refl _ _⟩
  · have e1 : decide (0 ≤ a) = true := decide_eq_true (by omega)
    have e2 : decide (a ≤ n) = true := decide_eq_true (by omega)
    have e3 : decide (a < 0) = false := decide_eq_false (by omega)
    have e4 : decide (n < a) = false := decide_eq_false (by omega)
    rw [e1, e2]
    go_enter Tryz.func96, Tryz.ntmps96
    go_wp2
    go_ret
    exact ⟨rfl, Below.refl _ _⟩

/-- A number of a list that is not named: is there one? -/
theorem find_any (A : Option Addr) (l : List Int) (c : Nat) (n : Int) (p : Addr) (w : World) (hA : Ints w A l) (hc : w.cell? p = some (.int .i64 n)) :
    Calls Tryz.prog 110 #[.slice A l.length c, .func (.func 96) #[] #[.pointer (some p)]] w fun e w' => ∃ i : Int, e = .returned (.int .i64 i) ∧ decide (i ≥ 0) = !(named l n) ∧ Below w.heap.size w w' := by
  have HA := Lib.hid hA
  have HC := Lib.hid hc
  have hsz := hA.2
  clear hA hc
  go_enter Tryz.func110, Tryz.ntmps110
  go_wp2
  go_loopw [8] (fun i wr => ∃ k : Nat, k ≤ l.length ∧ i = .int .i64 k ∧ Hid (Below w.heap.size w wr) ∧ Hid (∀ j, j < k → (h1 : j < l.length) → (decide (0 ≤ l[j]) && decide (l[j] ≤ n)) = true)) (fun i _ => l.length - (intOf i).toNat)
  case atStart => exact ⟨0, Nat.zero_le _, rfl, Below.refl _ _, fun j hj => absurd hj (by omega)⟩
  case round =>
    obtain ⟨k, hk, rfl, HW, HE⟩ := hrel
    by_cases hlt : k < l.length
    · obtain ⟨ad, rfl, c1⟩ := (HA.out.below HW.out).at_ k hlt
      cases hp : (decide (0 ≤ l[k]) && decide (l[k] ≤ n))
      · go_wp2_with (first | (go_at_call 96; refine (pick_any _ n p _ ((HW.out.cell (cell_lt HC.out)).trans HC.out)).mono ?_; rw [hp]; rintro e w1 ⟨rfl, hbl⟩))
        go_ret
        refine ⟨k, rfl, ?_, below_then HW.out hbl⟩
        rw [named, all_bad k hlt hp]
        simp
      · go_wp2_with (first | (go_at_call 96; refine (pick_any _ n p _ ((HW.out.cell (cell_lt HC.out)).trans HC.out)).mono ?_; rw [hp]; rintro e w1 ⟨rfl, hbl⟩))
        go_roundw
        case rel =>
          refine ⟨k + 1, by omega, by go_num, below_then HW.out hbl, fun j hj h1 => ?_⟩
          rcases Nat.lt_or_ge j k with h | h
          · exact HE.out j h h1
          · obtain rfl : j = k := by omega
            exact hp
        case measure => simp [intOf]; omega
    · go_wp2
      go_ret
      refine ⟨-1, rfl, ?_, HW.out⟩
      rw [named, all_upto fun j hj => HE.out j (by omega) hj]
      rfl

theorem contains_any (A : Option Addr) (l : List Int) (c : Nat) (n : Int) (p : Addr) (w : World) (hA : Ints w A l) (hc : w.cell? p = some (.int .i64 n)) :
    Calls Tryz.prog 95 #[.slice A l.length c, .func (.func 96) #[] #[.pointer (some p)]] w fun e w' => e = .returned (.bool (!(named l n))) ∧ Below w.heap.size w w' := by
  have HA := Lib.hid hA
  have HC := Lib.hid hc
  clear hA hc
  go_enter Tryz.func95, Tryz.ntmps95
  go_wp2_with fail
  refine (find_any A l c n p w HA.out HC.out).mono ?_
  rintro e w1 ⟨i, rfl, hi, hb⟩
  go_wp2
  go_ret
  exact ⟨rfl, hb⟩

theorem names_any (A : Option Addr) (l : List Int) (c : Nat) (n : Int) (w : World) (hA : Ints w A l) :
    Calls Tryz.prog 70 #[.slice A l.length c, .int .i64 n] w fun e w' => e = .returned (.bool (named l n)) ∧ Below w.heap.size w w' := by
  have HA := Lib.hid hA
  clear hA
  go_enter Tryz.func70, Tryz.ntmps70
  go_wp2_with fail
  refine (contains_any A l c n ⟨w.heap.size, 0, none⟩ _ (HA.out.below ((Below.refl _ _).alloc (Nat.le_refl _) _)) (by simp)).mono ?_
  rintro e w1 ⟨rfl, hb⟩
  go_wp2
  go_ret
  refine ⟨ret_bool (by simp), ?_⟩
  exact ((Below.refl _ _).alloc (Nat.le_refl _) _).trans (hb.mono (by simp))


end Go.Proofs.YteminkohgagedaaGreat.Gr
namespace Go.Proofs.YteminkohgagedaaGreat.Gr
open Go.RowKit Go.Proofs.YteminkohgagedaaGreat.Base
set_option linter.unusedVariables false
set_option linter.unusedSimpArgs false

theorem below_box {w w' : World} {o : Obj} (h : Below (w.alloc o).heap.size (w.alloc o) w') : Below w.heap.size w w' :=
  ((Below.refl _ _).alloc (Nat.le_refl _) _).trans (h.mono (by simp))
theorem below_1 (w : World) (o : Obj) : Below w.heap.size w (w.alloc o) := (Below.refl _ _).alloc (Nat.le_refl _) _

set_option maxHeartbeats 1000000 in
theorem single_any (A B : Option Addr) (x : Nd) (c d : Nat) (n : Int) (w : World) (hA : Ints w A x.slots) (hB : Ints w B x.words) :
    Calls Tryz.prog 73 #[.agg #[.slice A x.slots.length c, .slice B x.words.length d], .int .i64 n] w fun e w' => e = .returned (.bool (ndOk x n)) ∧ Below w.heap.size w w' := by
  obtain ⟨r, hr⟩ : ∃ r, ndOk x n = r := ⟨_, rfl⟩
  rw [hr]
  unfold ndOk at hr
  have HR := Lib.hid hr
  have HA := Lib.hid hA
  have HB := Lib.hid hB
  clear hA hB hr
  by_cases h1 : x.slots.length ≤ 15
  · have d1 : decide ((x.slots.length : Int) > 15) = false := decide_eq_false (by omega)
    by_cases h2 : x.words.length ≤ 30
    · have d2 : decide ((x.words.length : Int) > 30) = false := decide_eq_false (by omega)
      have H1 := Lib.hid h1
      clear h1
      go_enter Tryz.func73, Tryz.ntmps73
      go_wp2
      go_loopw [20] (fun i wr => ∃ k : Nat, k ≤ x.words.length ∧ i = .int .i64 k ∧ wr = w.alloc (.cells #[.slice A x.slots.length c, .slice B x.words.length d] 55) ∧ Hid (∀ j, j < k → (h1 : j < x.words.length) → (decide (0 ≤ x.words[j]) && decide (x.words[j] < 4294967296)) = true)) (fun i _ => x.words.length - (intOf i).toNat)
      case atStart => exact ⟨0, Nat.zero_le _, rfl, rfl, fun j hj => absurd hj (by omega)⟩
      case round =>
        obtain ⟨k, hk, rfl, rfl, HE⟩ := hrel
        by_cases hlt : k < x.words.length
        · obtain ⟨ad, rfl, c1⟩ := (HB.out.below (below_1 w (.cells #[.slice A x.slots.length c, .slice B x.words.length d] 55))).at_ k hlt
          generalize hv : x.words[k] = v at c1
          have HV := Lib.hid hv
          clear hv
          rcases (by omega : v < 0 ∨ (0 ≤ v ∧ 4294967296 ≤ v) ∨ (0 ≤ v ∧ v < 4294967296)) with h | ⟨h, h3⟩ | ⟨h, h3⟩
          · go_wp2
            go_ret
            refine ⟨?_, below_1 _ _⟩
            have e : wordsOk x.words = false := all_bad k hlt (by rw [HV.out]; simp; omega)
            have e2 := HR.out
            rw [e] at e2
            simp at e2
            subst e2
            rfl
          · have q1 : decide (v < 0) = false := decide_eq_false (by omega)
            go_wp2
            go_ret
            refine ⟨?_, below_1 _ _⟩
            have e : wordsOk x.words = false := all_bad k hlt (by rw [HV.out]; simp; omega)
            have e2 := HR.out
            rw [e] at e2
            simp at e2
            subst e2
            rfl
          · have q1 : decide (v < 0) = false := decide_eq_false (by omega)
            have q2 : decide (v ≥ 4294967296) = false := decide_eq_false (by omega)
            go_wp2
            go_roundw
            case rel =>
              refine ⟨k + 1, by omega, by go_num, by simp, fun j hj h1 => ?_⟩
              rcases Nat.lt_or_ge j k with h' | h'
              · exact HE.out j h' h1
              · obtain rfl : j = k := by omega
                rw [HV.out]
                simp
                omega
            case measure => simp [intOf]; omega
        · go_wp2_with fail
          refine (names_any A x.slots c n _ (HA.out.below (below_1 _ _))).mono ?_
          rintro e w1 ⟨rfl, hb⟩
          go_wp2
          go_ret
          refine ⟨?_, below_box hb⟩
          have e : wordsOk x.words = true := all_upto fun j hj => HE.out j (by omega) hj
          have e2 := HR.out
          rw [e, decide_eq_true H1.out, decide_eq_true h2] at e2
          simp at e2
          subst e2
          rfl
    · have d2 : decide ((x.words.length : Int) > 30) = true := decide_eq_true (by omega)
      have e2 := HR.out
      rw [decide_eq_false h2] at e2
      simp at e2
      subst e2
      clear h1 h2 HR
      go_enter Tryz.func73, Tryz.ntmps73
      go_wp2
      go_ret
      exact ⟨rfl, below_1 _ _⟩
  · have d1 : decide ((x.slots.length : Int) > 15) = true := decide_eq_true (by omega)
    have e2 := HR.out
    rw [decide_eq_false h1] at e2
    simp at e2
    subst e2
    clear h1 HR
    go_enter Tryz.func73, Tryz.ntmps73
    go_wp2
    go_ret
    exact ⟨rfl, below_1 _ _⟩

/-- The closure of Right. -/
theorem bad_any (A B : Option Addr) (x : Nd) (c d : Nat) (p : Nat) (R : Value) (r : Option Addr) (m q : Nat) (w : World) (hA : Ints w A x.slots) (hB : Ints w B x.words)
    (hK : Blk w p 25 #[R, .slice r m q]) :
    Calls Tryz.prog 72 #[.agg #[.slice A x.slots.length c, .slice B x.words.length d], .pointer (some ⟨p, 0, none⟩)] w fun e w' => e = .returned (.bool !(ndOk x m)) ∧ Below w.heap.size w w' := by
  have HA := Lib.hid hA
  have HB := Lib.hid hB
  have hz := hK.lt
  have c1 := hK.cell 1
  simp at c1
  clear hA hB hK
  go_enter Tryz.func72, Tryz.ntmps72
  go_wp2_with fail
  refine (single_any A B x c d m _ (HA.out.below (below_1 _ _)) (HB.out.below (below_1 _ _))).mono ?_
  rintro e w1 ⟨rfl, hb⟩
  go_wp2
  go_ret
  exact ⟨rfl, below_box hb⟩

theorem nds_at {w : World} {B : Option Addr} {l : List Nd} (h : Nodes w B l) (i : Nat) (hi : i < l.length) :
    ∃ ad A c B' d, B = some ad ∧ w.cell? (ad.add (i * 2)) = some (.slice A l[i].slots.length c) ∧ w.cell? ⟨(ad.add (i * 2)).block, (ad.add (i * 2)).off + 1, none⟩ = some (.slice B' l[i].words.length d) ∧ Ints w A l[i].slots ∧ Ints w B' l[i].words := by
  obtain ⟨ad, e, A, c, B', d, h1⟩ := h.2 i hi
  exact ⟨ad, A, c, B', d, e, h1⟩

set_option maxHeartbeats 1000000 in
theorem findn_any (D : Option Addr) (l : List Nd) (c : Nat) (p : Nat) (R : Value) (r : Option Addr) (m q : Nat) (w : World) (hD : Nodes w D l)
    (hK : Blk w p 25 #[R, .slice r m q]) :
    Calls Tryz.prog 97 #[.slice D l.length c, .func (.func 72) #[] #[.pointer (some ⟨p, 0, none⟩)]] w fun e w' => ∃ i : Int, e = .returned (.int .i64 i) ∧ decide (i ≥ 0) = !(l.all fun x => ndOk x m) ∧ Below w.heap.size w w' := by
  have HD := Lib.hid hD
  have HK := Lib.hid hK
  have hsz := hD.1
  clear hD hK
  go_enter Tryz.func97, Tryz.ntmps97
  go_wp2
  go_loopw [8] (fun i wr => ∃ k : Nat, k ≤ l.length ∧ i = .int .i64 k ∧ Hid (Below w.heap.size w wr) ∧ Hid (∀ j, j < k → (h1 : j < l.length) → ndOk l[j] m = true)) (fun i _ => l.length - (intOf i).toNat)
  case atStart => exact ⟨0, Nat.zero_le _, rfl, Below.refl _ _, fun j hj => absurd hj (by omega)⟩
  case round =>
    obtain ⟨k, hk, rfl, HW, HE⟩ := hrel
    by_cases hlt : k < l.length
    · obtain ⟨ad, A, ca, B, cb, rfl, c1, c2, hA, hB⟩ := nds_at (HD.out.below HW.out) k hlt
      have HA := Lib.hid hA
      have HB := Lib.hid hB
      clear hA hB
      cases hp : ndOk l[k] m
      · go_wp2_with (first | (go_at_call 72; refine (bad_any A B l[k] ca cb p R r m q _ HA.out HB.out (HK.out.below HW.out HK.out.lt)).mono ?_; rw [hp]; rintro e w1 ⟨rfl, hbl⟩))
        go_ret
        refine ⟨k, rfl, ?_, below_then HW.out hbl⟩
        rw [all_bad (p := fun x => ndOk x m) k hlt hp]
        simp
      · go_wp2_with (first | (go_at_call 72; refine (bad_any A B l[k] ca cb p R r m q _ HA.out HB.out (HK.out.below HW.out HK.out.lt)).mono ?_; rw [hp]; rintro e w1 ⟨rfl, hbl⟩))
        go_roundw
        case rel =>
          refine ⟨k + 1, by omega, by go_num, below_then HW.out hbl, fun j hj h1 => ?_⟩
          rcases Nat.lt_or_ge j k with h | h
          · exact HE.out j h h1
          · obtain rfl : j = k := by omega
            exact hp
        case measure => simp [intOf]; omega
    · go_wp2
      go_ret
      refine ⟨-1, rfl, ?_, HW.out⟩
      rw [all_upto (p := fun x => ndOk x m) fun j hj => HE.out j (by omega) hj]
      rfl

theorem containsn_any (D : Option Addr) (l : List Nd) (c : Nat) (p : Nat) (R : Value) (r : Option Addr) (m q : Nat) (w : World) (hD : Nodes w D l)
    (hK : Blk w p 25 #[R, .slice r m q]) :
    Calls Tryz.prog 71 #[.slice D l.length c, .func (.func 72) #[] #[.pointer (some ⟨p, 0, none⟩)]] w fun e w' => e = .returned (.bool !(l.all fun x => ndOk x m)) ∧ Below w.heap.size w w' := by
  have HD := Lib.hid hD
  have HK := Lib.hid hK
  clear hD hK
  go_enter Tryz.func71, Tryz.ntmps71
  go_wp2_with fail
  refine (findn_any D l c p R r m q w HD.out HK.out).mono ?_
  rintro e w1 ⟨i, rfl, hi, hb⟩
  go_wp2
  go_ret
  exact ⟨rfl, hb⟩

set_option maxHeartbeats 1000000 in
theorem right_any (A D : Option Addr) (g : Gr) (c d : Nat) (w : World) (hA : Ints w A g.roots) (hD : Nodes w D g.nodes) :
    Calls Tryz.prog 25 #[.agg #[.slice A g.roots.length c, .slice D g.nodes.length d]] w fun e w' => e = .returned (.bool (right g)) ∧ Below w.heap.size w w' := by
  obtain ⟨r, hr⟩ : ∃ r, right g = r := ⟨_, rfl⟩
  rw [hr]
  unfold right at hr
  have HR := Lib.hid hr
  have HA := Lib.hid hA
  have HD := Lib.hid hD
  clear hA hD hr
  by_cases h1 : g.roots.length = 8
  · have d1 : ((g.roots.length : Int) != 8) = false := bne_eq_false_iff_eq.mpr (by omega)
    by_cases h2 : g.nodes.length ≤ 1000
    · have d2 : decide ((g.nodes.length : Int) > 1000) = false := decide_eq_false (by omega)
      cases h3 : named g.roots g.nodes.length
      · have e := HR.out
        rw [h3] at e
        simp at e
        subst e
        have H3 := Lib.hid h3
        clear h1 h2 h3 HR
        go_enter Tryz.func25, Tryz.ntmps25
        go_wp2_with fail
        have k := names_any A g.roots c g.nodes.length _ (HA.out.below (below_1 w (.cells #[.slice A g.roots.length c, .slice D g.nodes.length d] 25)))
        rw [H3.out] at k
        refine k.mono ?_
        rintro e w1 ⟨rfl, hb⟩
        clear k
        go_wp2
        go_ret
        exact ⟨rfl, below_box hb⟩
      · have e := HR.out
        rw [h3, decide_eq_true h1, decide_eq_true h2] at e
        simp at e
        have HE := Lib.hid e
        have H3 := Lib.hid h3
        clear h1 h2 h3 HR e
        go_enter Tryz.func25, Tryz.ntmps25
        go_wp2_with fail
        have k := names_any A g.roots c g.nodes.length _ (HA.out.below (below_1 w (.cells #[.slice A g.roots.length c, .slice D g.nodes.length d] 25)))
        rw [H3.out] at k
        refine k.mono ?_
        rintro e w1 ⟨rfl, hb⟩
        clear k
        have hK : Blk w1 w.heap.size 25 #[.slice A g.roots.length c, .slice D g.nodes.length d] := (Blk.new w _ _).below hb (by simp)
        have HK := Lib.hid hK
        have c1 := hK.cell 1
        simp at c1
        have hz := hK.lt
        have HB := Lib.hid (below_box hb)
        clear hb hK
        go_wp2_with fail
        refine (containsn_any D g.nodes d w.heap.size _ D g.nodes.length d w1 (HD.out.below HB.out) HK.out).mono ?_
        rintro e w2 ⟨rfl, hb2⟩
        go_wp2
        go_ret
        refine ⟨?_, below_then HB.out hb2⟩
        have e := HE.out
        subst e
        simp
    · have d2 : decide ((g.nodes.length : Int) > 1000) = true := decide_eq_true (by omega)
      have e2 := HR.out
      rw [decide_eq_false h2] at e2
      simp at e2
      subst e2
      clear h1 h2 HR
      go_enter Tryz.func25, Tryz.ntmps25
      go_wp2
      go_ret
      exact ⟨rfl, below_1 _ _⟩
  · have d1 : ((g.roots.length : Int) != 8) = true := bne_iff_ne.mpr (by omega)
    have e2 := HR.out
    rw [decide_eq_false h1] at e2
    simp at e2
    subst e2
    clear h1 HR
    go_enter Tryz.func25, Tryz.ntmps25
    go_wp2
    go_ret
    exact ⟨rfl, below_1 _ _⟩

end Go.Proofs.YteminkohgagedaaGreat.Gr
namespace Go.Proofs.YteminkohgagedaaGreat.Gr
open Go.RowKit Go.Proofs.YteminkohgagedaaGreat.Base
set_option linter.unusedVariables false
set_option linter.unusedSimpArgs false

theorem intInfo : (Tryz.prog.info? 3).map (fun i => (i.zero, i.size, i.bytes)) = some (some (.int .i64 0), 1, 8) := by kernel_rfl
theorem info_parts1 {P : Program} {e : TypeId} {z : Option Value} {s b : Nat} (h : (P.info? e).map (fun i => (i.zero, i.size, i.bytes)) = some (z, s, b)) : ∃ i, P.info? e = some i ∧ i.zero = z ∧ i.size = s ∧ i.bytes = b := by
  cases hi : P.info? e with
  | none => rw [hi] at h; cases h
  | some i =>
    rw [hi] at h
    simp only [Option.map_some, Option.some.injEq, Prod.mk.injEq] at h
    exact ⟨i, rfl, h.1, h.2.1, h.2.2⟩
theorem own_new' (w : World) (base e size n : Nat) (cs : Array Value) (hb : base ≤ w.heap.size) (hs : cs.size = n * size) (hn : n ≤ maxLen) :
    (w.alloc (.cells cs e)).ownsRow base e size (.slice (some ⟨w.heap.size, 0, none⟩) n n) n cs.toList :=
  ⟨by simpa using hs, .inr ⟨w.heap.size, n, cs, rfl, hb, heap_alloc_new w _, Nat.le_refl _, hn, hs, by rw [List.take_of_length_le]; simpa using Nat.le_of_eq hs⟩⟩
theorem ic_one (l : List Int) : ∀ u ∈ enc ic l, u.oneCell' = true := by
  intro u hu
  rw [enc_ic, List.mem_map] at hu
  obtain ⟨x, _, rfl⟩ := hu
  rfl

set_option maxRecDepth 100000 in
theorem clone_any (A : Option Addr) (l : List Int) (c : Nat) (w : World) (hA : Ints w A l) :
    Calls Tryz.prog 75 #[.slice A l.length c] w fun e w' => ∃ v, e = .returned v ∧ w'.ownsRow w.heap.size 3 1 v l.length (enc ic l) ∧ Below w.heap.size w w' := by
  obtain ⟨i0, hi0, hz0, hz1, hz2⟩ := info_parts1 intInfo
  have qT : ∀ (a : Option Addr) (n c : Nat) (w : World), (binOp .eql 22 (.slice a n c) (.slice none 0 0)).run Tryz.prog w = .ok (.bool a.isNone) w := fun a n c w => Lib.run_eql_slice_nil w _ _ _ _ _ _ _ Tryz.underlying22
  rcases A with _ | ad
  · have hl : l.length = 0 := hA.1.len ic_len (by omega) rfl
    have : l = [] := List.eq_nil_of_length_eq_zero hl
    subst this
    clear hl hA
    go_enter Tryz.func75, Tryz.ntmps75
    go_wp2
    go_ret
    exact ⟨_, rfl, own_nil _ _ _ _, Below.refl _ _⟩
  · have HA := Lib.hid hA
    have hsz := hA.2
    clear hA
    go_enter Tryz.func75, Tryz.ntmps75
    go_wp2_with (refine wpList_append_any _ (by rfl) _ _ _ (by rfl) w.heap.size 3 i0 _ 1 8 Tryz.underlying22 hi0 hz0 hz1 hz2 rfl (by omega) _ 0 [] (by rfl) (own_new' w w.heap.size 3 1 0 #[] (Nat.le_refl _) rfl (by simp [maxLen])) _ l.length c _ (by rfl) (HA.out.below (below_1 _ _)).1 (ic_one l) (fun e => by cases e) (by simp only [maxLen]; omega) (by omega) (by simp) ?_; intro v4 w4 hown4 hg4 hat4)
    go_ret
    refine ⟨v4, rfl, ?_, ?_⟩
    · have := hown4
      rw [Nat.zero_add, List.nil_append] at this
      exact this
    · refine (below_1 w _).grown hg4 (by simp) ?_
      intro b hb
      simp [Value.ownBlock] at hb
      omega


end Go.Proofs.YteminkohgagedaaGreat.Gr
