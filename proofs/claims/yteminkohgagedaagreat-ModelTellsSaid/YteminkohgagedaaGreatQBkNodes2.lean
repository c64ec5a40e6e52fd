/- The book's functions over lists of nodes (2): they grow, they are looked at. Printed by gen_bknodes2.py out of book.tpl. -/
import Derived.Test.YteminkohgagedaaGreatQBkInts
namespace Go.Proofs.YteminkohgagedaaGreat.BkNodes
open Go.RowKit Go.Proofs.YteminkohgagedaaGreat.Base Go.Proofs.YteminkohgagedaaGreat.Bk Go.Proofs.YteminkohgagedaaGreat.Gr
set_option linter.unusedVariables false
set_option linter.unusedSimpArgs false

/-- A node's two cells. -/
abbrev NC := Value × Value
def nf (p : NC) : List Value := [p.1, p.2]
theorem nf_len (p : NC) : (nf p).length = 2 := rfl
abbrev kd (w : World) (vK : Value) (vs : List Value) (c : Nat → List NC) : Prop := Kd w nf 55 23 2 vK vs c
abbrev rd (w : World) (vK : Value) (vs : List Value) (c : Nat → List NC) : Prop := Rd w nf 23 2 vK vs c
theorem below_new (w : World) (o : Obj) : Below w.heap.size w (w.alloc o) := (Below.refl _ _).alloc (Nat.le_refl _) _
theorem nodeInfo : (Tryz.prog.info? 55).map (fun i => (i.zero, i.size, i.bytes)) = some (some (.agg #[.slice none 0 0, .slice none 0 0]), 2, 48) := by kernel_rfl

/-! ### what the cells lead to -/
/-- A list of numbers in a row from lo on. -/
def IntRow (w : World) (lo : Nat) (v : Value) (l : List Int) : Prop := l.length ≤ 100000 ∧ ∃ A c, v = .slice A l.length c ∧ w.ownsRow lo 3 1 (.slice A l.length c) l.length (enc ic l)
/-- No row of numbers lies in this block. -/
def NotInt (w : World) (b : Nat) : Prop := ∀ lo n v xs, w.ownsRow lo 3 1 v n xs → v.ownBlock ≠ some b
theorem IntRow.mod {w w' : World} {lo : Nat} {v : Value} {l : List Int} {S : Nat → Prop} (h : IntRow w lo v l) (hm : Mod S w w') (hS : ∀ b, S b → b < lo ∨ NotInt w b) : IntRow w' lo v l := by
  obtain ⟨h0, A, c, rfl, h⟩ := h
  refine ⟨h0, A, c, rfl, own_mod h hm (fun k hk hs => ?_)⟩
  rcases hS k hs with h1 | h1
  · have := (own_block h k hk).1; omega
  · exact h1 _ _ _ _ h hk
theorem IntRow.below {w w' : World} {lo : Nat} {v : Value} {l : List Int} (h : IntRow w lo v l) (hb : Below w.heap.size w w') : IntRow w' lo v l := h.mod (S := fun _ => False) (Mod.of_below hb) (fun _ h => h.elim)
theorem IntRow.low {w : World} {lo lo' : Nat} {v : Value} {l : List Int} (h : IntRow w lo v l) (hl : lo' ≤ lo) : IntRow w lo' v l := by
  obtain ⟨h0, A, c, rfl, h⟩ := h
  exact ⟨h0, A, c, rfl, own_lower h hl⟩
theorem NotInt.of_blk {w : World} {b : Nat} {t : TypeId} {cs : Array Value} (h : Blk w b t cs) (ht : t ≠ 3) : NotInt w b := fun lo n v xs ho hb => own_blk_ne ho h (Ne.symm ht) hb
theorem NotInt.of_own {w : World} {b lo n s : Nat} {t : TypeId} {v : Value} {xs : List Value} (h : w.ownsRow lo t s v n xs) (ht : t ≠ 3) (hb : v.ownBlock = some b) : NotInt w b := fun lo' n' v' xs' ho hb' => own_type h ho ht b hb hb'
def Deep (w : World) (lo : Nat) (p : NC) (x : Nd) : Prop := IntRow w lo p.1 x.slots ∧ IntRow w lo p.2 x.words
def Deeps (w : World) (lo : Nat) (ps : List NC) (xs : List Nd) : Prop := ps.length = xs.length ∧ ∀ (i : Nat) (p : NC) (x : Nd), ps[i]? = some p → xs[i]? = some x → Deep w lo p x
theorem Deeps.mod {w w' : World} {lo : Nat} {ps : List NC} {xs : List Nd} {S : Nat → Prop} (h : Deeps w lo ps xs) (hm : Mod S w w') (hS : ∀ b, S b → b < lo ∨ NotInt w b) : Deeps w' lo ps xs :=
  ⟨h.1, fun i p x hp hx => ⟨(h.2 i p x hp hx).1.mod hm hS, (h.2 i p x hp hx).2.mod hm hS⟩⟩
theorem Deeps.below {w w' : World} {lo : Nat} {ps : List NC} {xs : List Nd} (h : Deeps w lo ps xs) (hb : Below w.heap.size w w') : Deeps w' lo ps xs := h.mod (S := fun _ => False) (Mod.of_below hb) (fun _ h => h.elim)
theorem Deeps.low {w : World} {lo lo' : Nat} {ps : List NC} {xs : List Nd} (h : Deeps w lo ps xs) (hl : lo' ≤ lo) : Deeps w lo' ps xs := ⟨h.1, fun i p x hp hx => ⟨(h.2 i p x hp hx).1.low hl, (h.2 i p x hp hx).2.low hl⟩⟩
theorem Deeps.nil (w : World) (lo : Nat) : Deeps w lo [] [] := ⟨rfl, fun i p x h => by simp at h⟩
theorem Deeps.app {w : World} {lo : Nat} {ps qs : List NC} {xs ys : List Nd} (h : Deeps w lo ps xs) (k : Deeps w lo qs ys) : Deeps w lo (ps ++ qs) (xs ++ ys) := by
  refine ⟨by rw [List.length_append, List.length_append, h.1, k.1], fun i p x hp hx => ?_⟩
  have hl := h.1
  rcases Nat.lt_or_ge i ps.length with hi | hi
  · rw [List.getElem?_append_left hi] at hp
    rw [List.getElem?_append_left (by omega)] at hx
    exact h.2 i p x hp hx
  · rw [List.getElem?_append_right hi] at hp
    rw [List.getElem?_append_right (by omega), ← hl] at hx
    exact k.2 _ p x hp hx
theorem Deeps.one {w : World} {lo : Nat} {p : NC} {x : Nd} (h : Deep w lo p x) : Deeps w lo [p] [x] := ⟨rfl, fun i q y hq hy => by
  rcases i with _ | i
  · simp at hq hy; subst hq hy; exact h
  · simp at hq⟩
/-- To be read. -/
theorem nodes_of {w : World} {lo : Nat} {A : Option Addr} {ps : List NC} {xs : List Nd} (h : Arr w nf 2 A ps) (hd : Deeps w lo ps xs) (hl : xs.length ≤ 100000) : Nodes w A xs := by
  refine ⟨by omega, fun i hi => ?_⟩
  have hip : i < ps.length := by rw [hd.1]; exact hi
  obtain ⟨ad, rfl, hc⟩ := h.at_ nf_len i hip (by omega)
  obtain ⟨⟨b1, A1, c1, e1, o1⟩, ⟨b2, A2, c2, e2, o2⟩⟩ := hd.2 i ps[i] xs[i] (List.getElem?_eq_getElem hip) (List.getElem?_eq_getElem hi)
  have h0 := hc 0 ps[i].1 rfl
  have h1 := hc 1 ps[i].2 rfl
  rw [e1] at h0
  rw [e2] at h1
  refine ⟨ad, rfl, A1, c1, A2, c2, by simpa using h0, ?_, Ints.of_own o1 (by omega), Ints.of_own o2 (by omega)⟩
  rw [← add_of_add] at h1
  exact h1

/-! ### two lists alike -/
theorem reads_ad {w : World} {A : Option Addr} {l : List Int} (h : Ints w A l) : Arr w ic 1 A l := h.1
set_option maxRecDepth 100000 in
set_option maxHeartbeats 4000000 in
theorem same_yes (A B : Option Addr) (l : List Nd) (c d : Nat) (w : World) (hA : Nodes w A l) (hB : Nodes w B l) (hl : l.length ≤ 100000) (hx : ∀ x ∈ l, x.slots.length ≤ 100000 ∧ x.words.length ≤ 100000) :
    Calls Tryz.prog 85 #[.slice A l.length c, .slice B l.length d] w fun e w' => e = .returned (.bool true) ∧ Below w.heap.size w w' := by
  have HA := Lib.hid hA
  have HB := Lib.hid hB
  have HX := Lib.hid hx
  have hb : ((l.length : Int) != l.length) = false := by simp
  clear hA hB hx
  go_enter Tryz.func85, Tryz.ntmps85
  go_wp2
  go_loopw [5] (fun i wr => ∃ k : Nat, k ≤ l.length ∧ i = .int .i64 k ∧ Hid (Below w.heap.size w wr)) (fun i _ => l.length - (intOf i).toNat)
  case atStart => exact ⟨0, Nat.zero_le _, rfl, Lib.hid (Below.refl _ _)⟩
  case round =>
    obtain ⟨k, hk, rfl, HBr⟩ := hrel
    by_cases hlt : k < l.length
    · obtain ⟨ad, rfl, A1, c1, A2, c2, a0, a1, i1, i2⟩ := (HA.out.below HBr.out).2 k hlt
      obtain ⟨bd, rfl, B1, d1, B2, d2, b0, b1, j1, j2⟩ := (HB.out.below HBr.out).2 k hlt
      have hxk := HX.out _ (List.getElem_mem hlt)
      generalize l[k] = x at a0 a1 i1 i2 b0 b1 j1 j2 hxk
      have C := Lib.hid (show ∀ W, Below wr.heap.size wr W → (W.cell? (ad.add (k * 2)) = some (.slice A1 x.slots.length c1) ∧ W.cell? ⟨(ad.add (k * 2)).block, (ad.add (k * 2)).off + 1, none⟩ = some (.slice A2 x.words.length c2) ∧ W.cell? (bd.add (k * 2)) = some (.slice B1 x.slots.length d1) ∧ W.cell? ⟨(bd.add (k * 2)).block, (bd.add (k * 2)).off + 1, none⟩ = some (.slice B2 x.words.length d2)) from fun W hb =>
        ⟨(hb.cell (cell_lt a0)).trans a0, (hb.cell (cell_lt a1)).trans a1, (hb.cell (cell_lt b0)).trans b0, (hb.cell (cell_lt b1)).trans b1⟩)
      have K1 := Lib.hid (fun (W : World) (hb : Below wr.heap.size wr W) => BkInts.same_yes A1 B1 x.slots c1 d1 W (i1.below hb).1 (j1.below hb).1 hxk.1)
      have K2 := Lib.hid (fun (W : World) (hb : Below wr.heap.size wr W) => BkInts.same_yes A2 B2 x.words c2 d2 W (i2.below hb).1 (j2.below hb).1 hxk.2)
      have z0 := cell_lt a0
      have z1 := cell_lt b0
      clear i1 i2 j1 j2 hxk
      go_wp2_with fail
      go_region_held3 (fun W => W.cell? (ad.add (k * 2)) = some (.slice A1 x.slots.length c1) ∧ W.cell? ⟨(ad.add (k * 2)).block, (ad.add (k * 2)).off + 1, none⟩ = some (.slice A2 x.words.length c2) ∧ W.cell? (bd.add (k * 2)) = some (.slice B1 x.slots.length d1) ∧ W.cell? ⟨(bd.add (k * 2)).block, (bd.add (k * 2)).off + 1, none⟩ = some (.slice B2 x.words.length d2))
        (first
          | exact hS
          | exact ⟨a0, a1, b0, b1⟩
          | go_keep)
        (first
          | (go_at_call 40
             revert h1
             intro h1
             refine (K2.out _ hD).mono ?_
             rintro e w6 ⟨rfl, hb⟩
             have hD2 := hD.trans (hb.mono hD.size)
             have hS := C.out _ hD2)
          | (go_at_call 40
             refine (K1.out _ (Below.refl _ _).drew).mono ?_
             rintro e w5 ⟨rfl, hb⟩
             have hD := (Below.refl wr.heap.size wr).drew.trans hb
             have hS := C.out _ hD
             have h1 := True.intro))
      all_goals
        go_wp2_with fail
        go_roundw
        case rel => exact ⟨k + 1, by omega, by go_num, Lib.hid (below_then HBr.out hD2)⟩
        case measure => simp [intOf]; omega
    · go_wp2
      go_ret
      exact ⟨rfl, HBr.out⟩

/-! ### marks -/
def mkn (i k : Nat) : Nd := ⟨[-1000 * (i : Int) - (k : Int) - 1], []⟩
def marks (i fr n : Nat) : List Nd := (List.range n).map fun k => mkn i (fr + k)
theorem marks_len (i fr n : Nat) : (marks i fr n).length = n := by simp [marks]
theorem marks_succ (i fr n : Nat) : marks i fr (n + 1) = marks i fr n ++ [mkn i (fr + n)] := by simp [marks, List.range_succ]
theorem marks_append (i fr n m : Nat) : marks i fr n ++ marks i (fr + n) m = marks i fr (n + m) := by
  induction m with
  | zero => simp [marks]
  | succ m ih => rw [marks_succ, ← List.append_assoc, ih, ← Nat.add_assoc, marks_succ, Nat.add_assoc]
theorem marks_small (i fr n : Nat) : ∀ x ∈ marks i fr n, x.slots.length ≤ 100000 ∧ x.words.length ≤ 100000 := by
  intro x hx
  simp only [marks, List.mem_map] at hx
  obtain ⟨k, _, rfl⟩ := hx
  simp [mkn]
theorem reads_new_at {w : World} {p : Nat} (hp : w.heap.size = p) (t : TypeId) {s n : Nat} {cs : Array Value} (h : cs.size = n * s) : Reads (w.alloc (.cells cs t)) s (some ⟨p, 0, none⟩) n cs.toList := by
  subst hp
  exact Reads.new w t h
theorem own_new_at {w : World} {p : Nat} (hp : w.heap.size = p) (t : TypeId) (v : Value) : (w.alloc (.cells #[v] t)).ownsRow p t 1 (.slice (some ⟨p, 0, none⟩) 1 1) 1 [v] := by
  subst hp
  exact ⟨rfl, .inr ⟨w.heap.size, 1, #[v], rfl, Nat.le_refl _, Blk.new w t #[v], Nat.le_refl _, by decide, by simp, rfl⟩⟩
theorem nf_one (p : NC) (w : World) (lo : Nat) (x : Nd) (h : Deep w lo p x) : ∀ u ∈ nf p, u.oneCell' = true := by
  obtain ⟨⟨_, A, c, e, _⟩, ⟨_, B, d, e', _⟩⟩ := h
  intro u hu
  simp only [nf, e, e', List.mem_cons, List.not_mem_nil, or_false] at hu
  rcases hu with rfl | rfl <;> rfl
theorem deep_nil (w : World) (lo : Nat) : IntRow w lo (.slice none 0 0) [] := ⟨by simp, none, 0, rfl, own_nil _ _ _ _⟩
set_option maxRecDepth 100000 in
set_option maxHeartbeats 2000000 in
theorem mark_any (i fr n : Nat) (hi : i ≤ 1000) (hfr : fr ≤ 200000) (hn : n ≤ 100000) (w : World) :
    Calls Tryz.prog 89 #[.int .i64 (i : Int), .int .i64 (fr : Int), .int .i64 (n : Int)] w fun e w' => ∃ A c ps, e = .returned (.slice A n c) ∧ w'.ownsRow w.heap.size 55 2 (.slice A n c) n (enc nf ps) ∧ Deeps w' w.heap.size ps (marks i fr n) ∧ Below w.heap.size w w' := by
  obtain ⟨i0, hi0, hz0, hz1, hz2⟩ := info_parts1 nodeInfo
  go_enter Tryz.func89, Tryz.ntmps89
  go_wp2
  go_loopw [7, 8] (fun o q wr => ∃ (j : Nat) (ps : List NC), j ≤ n ∧ q = .int .i64 ((fr : Int) + (j : Int)) ∧ Hid (wr.ownsRow w.heap.size 55 2 o j (enc nf ps)) ∧ Hid (Deeps wr w.heap.size ps (marks i fr j)) ∧ Hid (Below w.heap.size w wr)) (fun o q _ => fr + n - (intOf q).toNat)
  case atStart => exact ⟨0, [], Nat.zero_le _, by simp, Lib.hid (own_nil _ _ _ _), Lib.hid (Deeps.nil _ _), Lib.hid (Below.refl _ _)⟩
  case round =>
    obtain ⟨j, ps, hj, rfl, HO, HD, HB⟩ := hrel
    by_cases hlt : j < n
    · have hzw := HB.out.size
      have d1 : decide ((fr : Int) + (j : Int) < (fr : Int) + (n : Int)) = true := decide_eq_true (by omega)
      obtain ⟨A0, c0, rfl, hc0⟩ := own_form HO.out
      obtain ⟨V, hV⟩ : ∃ V : Int, -1000 * (i : Int) - ((fr : Int) + (j : Int)) - 1 = V := ⟨_, rfl⟩
      have HV := Lib.hid hV
      have HP := Lib.hid (show Deep ((wr.alloc (.cells #[.int .i64 V] 3)).alloc (.cells #[.slice (some ⟨wr.heap.size, 0, none⟩) 1 1, .slice none 0 0] 55)) w.heap.size (.slice (some ⟨wr.heap.size, 0, none⟩) 1 1, .slice none 0 0) ⟨[V], []⟩ from
        ⟨⟨by simp, _, _, rfl, own_below (own_lower (own_new_at rfl 3 (.int .i64 V)) hzw) (below_new _ _)⟩, deep_nil _ _⟩)
      have HB1 := Lib.hid (below_then (below_new wr (.cells #[.int .i64 V] 3)) (below_new _ (.cells #[.slice (some ⟨wr.heap.size, 0, none⟩) 1 1, .slice none 0 0] 55)))
      go_wp2_with (first
        | (at_builtin
           refine wpList_append_any _ rfl (.tmp 17) (.tmp 25) _ rfl w.heap.size 55 i0 _ 2 48 Tryz.underlying23 hi0 hz0 hz1 hz2 rfl (by omega) (.slice A0 j c0) j (enc nf ps) rfl
             (own_below HO.out HB1.out) (some ⟨wr.heap.size + 1, 0, none⟩) 1 1 (nf (.slice (some ⟨wr.heap.size, 0, none⟩) 1 1, .slice none 0 0)) (by rfl) (reads_new_at (by simp) 55 rfl) (nf_one _ _ _ _ HP.out) (fun e => by cases e) (by simp only [maxLen]; omega) (by omega) (by simp; omega) ?_
           intro v2 w2 hown2 hg2 hat2))
      have hS : ∀ b, some b = (Value.slice A0 j c0).ownBlock → b < w.heap.size ∨ NotInt ((wr.alloc (.cells #[.int .i64 V] 3)).alloc (.cells #[.slice (some ⟨wr.heap.size, 0, none⟩) 1 1, .slice none 0 0] 55)) b := fun b hb => .inr (NotInt.of_own (own_below HO.out HB1.out) (by decide) hb.symm)
      have HD2 := Lib.hid (((HD.out.below HB1.out).app (Deeps.one HP.out)).mod (Mod.of_grown hg2) hS)
      have HB2 := Lib.hid (show Below w.heap.size w w2 from (below_then HB.out HB1.out).grown hg2 (by simp; omega) (fun k hk => (own_block HO.out k hk).1))
      have HO2 := Lib.hid hown2
      clear hown2 hg2 hat2 hS
      go_roundw
      case rel =>
        refine ⟨j + 1, ps ++ [(.slice (some ⟨wr.heap.size, 0, none⟩) 1 1, .slice none 0 0)], by omega, by go_num, ?_, Lib.hid ?_, HB2⟩
        · show World.ownsRow _ _ _ _ _ _ _
          rw [enc_append]
          simpa [enc] using HO2.out
        · rw [marks_succ, show mkn i (fr + j) = ⟨[V], []⟩ from by unfold mkn; rw [← HV.out]; congr 2]
          exact HD2.out
      case measure => simp [intOf]; omega
    · obtain rfl : j = n := by omega
      obtain ⟨A, c, rfl, hc⟩ := own_form HO.out
      have d1 : decide ((fr : Int) + (j : Int) < (fr : Int) + (j : Int)) = false := decide_eq_false (by omega)
      go_wp2
      go_ret
      exact ⟨A, c, ps, rfl, HO.out, HD.out, HB.out⟩
theorem mark_at (i fr n : Nat) (a b : Int) (ha : a = (fr : Int)) (hb : b = (n : Int)) (hi : i ≤ 1000) (hfr : fr ≤ 200000) (hn : n ≤ 100000) (w : World) :
    Calls Tryz.prog 89 #[.int .i64 (i : Int), .int .i64 a, .int .i64 b] w fun e w' => ∃ A c ps, e = .returned (.slice A n c) ∧ w'.ownsRow w.heap.size 55 2 (.slice A n c) n (enc nf ps) ∧ Deeps w' w.heap.size ps (marks i fr n) ∧ Below w.heap.size w w' := by
  subst ha hb
  exact mark_any i fr n hi hfr hn w
theorem mark0_any (i n : Nat) (hi : i ≤ 1000) (hn : n ≤ 100000) (w : World) :
    Calls Tryz.prog 89 #[.int .i64 (i : Int), .int .i64 0, .int .i64 (n : Int)] w fun e w' => ∃ A c ps, e = .returned (.slice A n c) ∧ w'.ownsRow w.heap.size 55 2 (.slice A n c) n (enc nf ps) ∧ Deeps w' w.heap.size ps (marks i 0 n) ∧ Below w.heap.size w w' := mark_any i 0 n hi (by omega) hn w

/-! ### the marks are put in -/
def inn (c : Nat → List NC) (j : Nat) (ps : List NC) (k i : Nat) : List NC := if i = j then ps.take k ++ (c j).drop k else c i
theorem inn_zero (c : Nat → List NC) (j i : Nat) (ps : List NC) : c i = inn c j ps 0 i := by
  unfold inn
  split
  · rename_i e; subst e; simp
  · rfl
theorem inn_len (c : Nat → List NC) (j k i : Nat) (ps : List NC) (hp : ps.length = (c j).length) (hk : k ≤ (c j).length) : (inn c j ps k i).length = (c i).length := by
  unfold inn
  split
  · rename_i e; subst e
    rw [List.length_append, List.length_take, List.length_drop]; omega
  · rfl
theorem vs_notint {w : World} {vK : Value} {vs : List Value} {c : Nat → List NC} (h : kd w vK vs c) : ∀ b, InVs vs b → NotInt w b := by
  rintro b ⟨v, hv, hb⟩
  obtain ⟨i, hi⟩ := List.mem_iff_getElem?.1 hv
  exact NotInt.of_own (h.own i v hi) (by decide) hb

set_option maxRecDepth 100000 in
set_option maxHeartbeats 2000000 in
theorem put_any (X : Nat) (cs : Array Value) (vs : List Value) (c : Nat → List NC) (AK : Option Addr) (cK : Nat) (w : World) (hX : Blk w X 39 cs) (hc : cs[10]? = some (.slice AK vs.length cK)) (hk : kd w (.slice AK vs.length cK) vs c) (hv : vs.length ≤ 250) (hl : ∀ i, (c i).length ≤ 100000) :
    Calls Tryz.prog 51 #[.pointer (some ⟨X, 0, none⟩)] w fun e w' => e = .returned (.tuple #[]) ∧ ∃ c', kd w' (.slice AK vs.length cK) vs c' ∧ (∀ i, i < vs.length → Deeps w' w.heap.size (c' i) (marks i 0 (c i).length)) ∧ Mod (InVs vs) w w' := by
  have hXn : ¬ InVs vs X := by
    rintro ⟨v, hv, hb⟩
    obtain ⟨i, hi⟩ := List.mem_iff_getElem?.1 hv
    exact own_blk_ne (hk.own i v hi) hX (by decide) hb
  have HX := Lib.hid (show ∀ W, Mod (InVs vs) w W → W.cell? ⟨X, 10, none⟩ = some (.slice AK vs.length cK) ∧ X < W.heap.size from fun W hm => by
    have h := hX.mod hm hXn
    exact ⟨(h.cell 10).trans hc, h.lt⟩)
  have HK0 := Lib.hid hk
  have HL := Lib.hid hl
  clear hX hc hk hl hXn
  go_enter Tryz.func51, Tryz.ntmps51
  go_wp2
  go_loopw [2] (fun q wr => ∃ (j : Nat) (c1 : Nat → List NC), j ≤ vs.length ∧ q = .int .i64 (j : Int) ∧ Hid (kd wr (.slice AK vs.length cK) vs c1) ∧ Hid (∀ i, i < j → Deeps wr w.heap.size (c1 i) (marks i 0 (c i).length)) ∧ Hid (∀ i, j ≤ i → c1 i = c i) ∧ Hid (Mod (InVs vs) w wr)) (fun q _ => vs.length - (intOf q).toNat)
  case atStart => exact ⟨0, c, Nat.zero_le _, rfl, HK0, Lib.hid (fun i hi => absurd hi (by omega)), Lib.hid (fun i _ => rfl), Lib.hid (Mod.refl _ _)⟩
  case round =>
    obtain ⟨j, c1, hj, rfl, HK, HD, HC, HM⟩ := hrel
    obtain ⟨x0, x1⟩ := HX.out _ HM.out
    by_cases hlt : j < vs.length
    · obtain ⟨gK, B, q, hAK, r0, -, hi⟩ := (HK.out.rd).at_ rfl hlt
      have HI := Lib.hid hi
      have zr := cell_lt r0
      have hn : (c1 j).length ≤ 100000 := by rw [HC.out j (Nat.le_refl _)]; exact HL.out j
      have HAK := Lib.hid hAK
      rw [hAK] at x0
      have HMK := Lib.hid (mark0_any j (c1 j).length (by omega) hn wr)
      clear hi hAK
      go_wp2_with fail
      refine (HMK.out).mono ?_
      rintro e w1 ⟨A1, q1, ps, rfl, hown1, hd1, hb1⟩
      have hpl : ps.length = (c1 j).length := by rw [hd1.1, marks_len]
      have HPL := Lib.hid hpl
      have HO1 := Lib.hid hown1
      have HDP := Lib.hid hd1
      have HK1 := Lib.hid (HK.out.below hb1)
      have HM1 := Lib.hid (mod_below HM.out hb1)
      have HD1 := Lib.hid (show ∀ i, i < j → Deeps w1 w.heap.size (c1 i) (marks i 0 (c i).length) from fun i hi => (HD.out i hi).below hb1)
      have HZ := Lib.hid hb1.size
      clear hown1 hb1 hd1 hpl x0 x1 r0 zr
      go_wp2_with fail
      go_loopw [4] (fun q' wi => ∃ k : Nat, k ≤ (c1 j).length ∧ q' = .int .i64 (k : Int) ∧ Hid (kd wi (.slice AK vs.length cK) vs (inn c1 j ps k)) ∧ Hid (wi.ownsRow wr.heap.size 55 2 (.slice A1 (c1 j).length q1) (c1 j).length (enc nf ps)) ∧ Hid (Mod (InVs vs) w1 wi)) (fun q' _ => (c1 j).length - (intOf q').toNat)
      case atStart => exact ⟨0, Nat.zero_le _, rfl, Lib.hid (HK1.out.congr (fun i _ => inn_zero c1 j i ps)), HO1, Lib.hid (Mod.refl _ _)⟩
      case round =>
        obtain ⟨k, hk, rfl, HKi, HOi, HMi⟩ := hrel
        by_cases hkl : k < (c1 j).length
        · obtain ⟨x2, x3⟩ := HX.out _ (HM1.out.trans HMi.out (fun b _ h => h))
          rw [HAK.out] at x2
          have hrow := HKi.out.row
          rw [HAK.out] at hrow
          obtain ⟨g0, e0, ⟨k0, e1⟩, z1, r1, -⟩ := own_cell hrow HI.out
          injection e1 with e1 _ e1c
          injection e1 with e1
          injection e1 with e1 _ _
          subst e1
          subst e1c
          have hown := HKi.out.own j _ HI.out
          rw [inn_len c1 j k j ps HPL.out hk] at hown
          have hcur : inn c1 j ps k j = ps.take k ++ (c1 j).drop k := if_pos rfl
          have hlen := inn_len c1 j k j ps HPL.out hk
          have hpk : k < ps.length := by rw [HPL.out]; exact hkl
          obtain ⟨pk, hpe⟩ : ∃ pk, ps[k] = pk := ⟨_, rfl⟩
          have hmk : ps[k]? = some pk := by rw [List.getElem?_eq_getElem hpk, hpe]
          have hset := take_drop_set (c := c1 j) (by rw [HPL.out]) hmk
          rw [← hcur] at hset
          have hbound : k * 2 + 2 ≤ (enc nf (inn c1 j ps k j)).length := by rw [enc_len nf_len, hlen]; omega
          obtain ⟨gB, f1, ⟨q2, f2⟩, f3, f4, f5⟩ := own_cell hown (List.getElem?_eq_getElem (show k * 2 < _ by omega))
          injection f2 with f2 _ f2c
          subst f2
          subst f2c
          obtain ⟨_, f1', -, -, f6, f7⟩ := own_cell hown (List.getElem?_eq_getElem (show k * 2 + 1 < _ by omega))
          rw [f1] at f1'; injection f1' with f1'; subst f1'
          have hmc : ∀ t u, (nf pk)[t]? = some u → (enc nf ps)[k * 2 + t]? = some u := fun t u hu => by
            have ht : t < 2 := by
              rw [← nf_len pk]
              rcases Nat.lt_or_ge t (nf pk).length with h | h
              · exact h
              · rw [List.getElem?_eq_none h] at hu; cases hu
            rw [enc_get nf_len _ k hpk t ht, ← hu, hpe]
          obtain ⟨P1, n1, pc1, P2, n2, pc2, hp1, hp2⟩ : ∃ P1 n1 pc1 P2 n2 pc2, pk.1 = .slice P1 n1 pc1 ∧ pk.2 = .slice P2 n2 pc2 := by
            have hxl : k < (marks j 0 (c1 j).length).length := by rw [marks_len]; exact hkl
            obtain ⟨⟨_, P1, pc1, e1, _⟩, ⟨_, P2, pc2, e2, _⟩⟩ := HDP.out.2 k pk _ hmk (List.getElem?_eq_getElem hxl)
            exact ⟨P1, _, pc1, P2, _, pc2, e1, e2⟩
          obtain ⟨gA, a1, ⟨q3, a2⟩, a3, a4, -⟩ := own_cell HOi.out (hmc 0 (.slice P1 n1 pc1) (by rw [← hp1]; rfl))
          injection a2 with a2 _ a2c
          subst a2
          subst a2c
          rw [Nat.add_zero] at a4
          obtain ⟨_, a1', -, -, a5, -⟩ := own_cell HOi.out (hmc 1 (.slice P2 n2 pc2) (by rw [← hp2]; rfl))
          rw [a1] at a1'; injection a1' with a1'; subst a1'
          have HNEW := Lib.hid (show ∀ W, Mod (fun b => some gB = some b) wr W → W.ownsRow 0 55 2 (.slice (some ⟨gB, 0, none⟩) (c1 j).length q) (inn c1 j ps (k + 1) j).length (enc nf (inn c1 j ps (k + 1) j)) → kd W (.slice AK vs.length cK) vs (inn c1 j ps (k + 1)) from fun W hm ho =>
            (HKi.out.turn (by decide) HI.out hm ho).congr (fun i _ => by
              by_cases e : i = j
              · subst e; rw [if_pos rfl]
              · rw [if_neg e]; unfold inn; rw [if_neg e, if_neg e]))
          have HO4 := Lib.hid (own_set (q := k * 2 + 1) (u := .slice P2 n2 pc2) (own_set (q := k * 2) (u := .slice P1 n1 pc1) hown f1 (by omega)) f1 (by rw [List.length_set]; omega))
          have HE4 := Lib.hid (enc_set2 nf_len (inn c1 j ps k j) k pk (a := .slice P1 n1 pc1) (b := .slice P2 n2 pc2) (by rw [← hp1, ← hp2]; rfl))
          have HST := Lib.hid (show (inn c1 j ps k j).set k pk = inn c1 j ps (k + 1) j from hset.trans (by unfold inn; rw [if_pos rfl]))
          have HGA := Lib.hid (show gA ≠ gB from fun e => by
            have h1 := (own_block HOi.out gA a1).1
            have h2 := (own_block (HK.out.own j _ HI.out) gB f1).2
            omega)
          replace f4 : ∃ u, wr.cell? ⟨gB, k * 2, none⟩ = some u := ⟨_, f4⟩
          obtain ⟨y0, f4⟩ := f4
          replace f6 : ∃ u, wr.cell? ⟨gB, k * 2 + 1, none⟩ = some u := ⟨_, f6⟩
          obtain ⟨y1, f6⟩ := f6
          have hkn : (c1 j).length ≤ 100000 := hn
          clear hrow hown hcur hlen hmk hset hbound hmc f1 a1 hp1 hp2 hpk hpe
          go_wp2_with fail
          go_region
          go_wp2_with fail
          go_roundw
          case rel =>
            have hm := mod_set2 wr gB (k * 2) (.slice P1 n1 pc1) (.slice P2 n2 pc2)
            have ho := HO4.out
            rw [HE4.out, HST.out, ← inn_len c1 j (k + 1) j ps HPL.out (by omega)] at ho
            rw [inn_len c1 j (k + 1) j ps HPL.out (by omega)] at ho
            have hk2 := HNEW.out _ hm (by rw [inn_len c1 j (k + 1) j ps HPL.out (by omega)]; exact ho)
            have hr2 := own_mod HOi.out hm (fun b hb e => by
              injection e with e
              have : gA = b := by simpa [Value.ownBlock] using hb
              exact HGA.out (by omega))
            have hM2 := HMi.out.trans hm (fun b hb e => InVs.of_get HI.out (by rw [← e]; rfl))
            refine ⟨k + 1, by omega, by go_num, ?_, ?_, ?_⟩
            · show Kd _ _ _ _ _ _ _ _
              exact hk2.below (Below.refl _ _).drew
            · show World.ownsRow _ _ _ _ _ _ _
              exact hr2
            · show Mod _ _ _
              exact mod_below hM2 (Below.refl _ _).drew
          case measure => simp [intOf]; omega
        · go_wp2_with fail
          go_roundw
          case rel =>
            have hke : k = (c1 j).length := by omega
            subst hke
            have hni := vs_notint HK1.out
            refine ⟨j + 1, inn c1 j ps (c1 j).length, by omega, by go_num, HKi, Lib.hid (fun i hi => ?_), Lib.hid (fun i hi => ?_), Lib.hid (HM1.out.trans HMi.out (fun b _ h => h))⟩
            · unfold inn
              by_cases e : i = j
              · subst e
                rw [if_pos rfl, List.drop_length, List.append_nil, List.take_of_length_le (by rw [HPL.out]; exact Nat.le_refl _), ← HC.out i (Nat.le_refl _)]
                exact (HDP.out.mod HMi.out (fun b hb => .inr (hni b hb))).low HM.out.size
              · rw [if_neg e]
                exact (HD1.out i (by omega)).mod HMi.out (fun b hb => .inr (hni b hb))
            · unfold inn
              rw [if_neg (by omega)]
              exact HC.out i (by omega)
          case measure => simp [intOf]; omega
    · have hje : j = vs.length := by omega
      subst hje
      go_wp2_with fail
      go_end0
      exact ⟨rfl, c1, HK.out, HD.out, HM.out⟩
end Go.Proofs.YteminkohgagedaaGreat.BkNodes
namespace Go.Proofs.YteminkohgagedaaGreat.BkNodes
open Go.RowKit Go.Proofs.YteminkohgagedaaGreat.Base Go.Proofs.YteminkohgagedaaGreat.Bk Go.Proofs.YteminkohgagedaaGreat.Gr
set_option linter.unusedVariables false
set_option linter.unusedSimpArgs false

theorem sliceInfo : (Tryz.prog.info? 23).map (fun i => (i.zero, i.size, i.bytes)) = some (some (.slice none 0 0), 1, 24) := by kernel_rfl
theorem one_of {w : World} {lo : Nat} {ps : List NC} {xs : List Nd} (h : Deeps w lo ps xs) : ∀ u ∈ enc nf ps, u.oneCell' = true := by
  intro u hu
  simp only [enc, List.mem_flatMap] at hu
  obtain ⟨p, hp, hu⟩ := hu
  obtain ⟨i, hi⟩ := List.mem_iff_getElem?.1 hp
  have hl : i < ps.length := by
    rcases Nat.lt_or_ge i ps.length with h | h
    · exact h
    · rw [List.getElem?_eq_none h] at hi; cases hi
  exact nf_one p w lo _ (h.2 i p _ hi (List.getElem?_eq_getElem (show i < xs.length by rw [← h.1]; exact hl))) u hu
/-! ### lists that grow -/
/-- j of them have grown. -/
structure GS (w wr : World) (vK : Value) (vs us : List Value) (c g : Nat → List NC) (j : Nat) (o : Value) : Prop where
  row : wr.ownsRow w.heap.size 23 1 o j us
  grown : ∀ (i : Nat) (u : Value), us[i]? = some u → wr.ownsRow 0 55 2 u ((c i).length + 72) (enc nf (c i ++ g i)) ∧ ∀ b, u.ownBlock = some b → (w.heap.size ≤ b ∨ ∃ v, vs[i]? = some v ∧ v.ownBlock = some b)
  old : wr.ownsRow 0 23 1 vK vs.length vs
  done : ∀ (i : Nat) (v : Value), vs[i]? = some v → i < j → ∃ A k, v = .slice A (c i).length k ∧ Arr wr nf 2 A (c i)
  todo : ∀ (i : Nat) (v : Value), vs[i]? = some v → j ≤ i → wr.ownsRow 0 55 2 v (c i).length (enc nf (c i))
  mod : Mod (InVs vs) w wr
  deep : ∀ i, i < j → Deeps wr w.heap.size (g i) (marks i (c i).length 72)
theorem GS.start {w : World} {vK : Value} {vs : List Value} {c : Nat → List NC} (h : kd w vK vs c) : GS w w vK vs [] c (fun _ => []) 0 (.slice none 0 0) :=
  ⟨own_nil _ _ _ _, fun i u h => by simp at h, h.row, fun i v _ h => by omega, fun i v hi _ => h.own i v hi, Mod.refl _ _, fun i h => by omega⟩
theorem GS.step {w wr w1 w' : World} {vK v l o o' : Value} {vs us : List Value} {c g : Nat → List NC} {G : List NC} {j : Nat} {ob : Obj} (h : GS w wr vK vs us c g j o) (hk : kd w vK vs c) (hv : vs[j]? = some v)
    (hg : Gw wr w1 55 2 v l (c j).length ((c j).length + 72) (enc nf (c j)) (enc nf (c j ++ G))) (hG : Deeps w1 w.heap.size G (marks j (c j).length 72))
    (ho : w'.ownsRow w.heap.size 23 1 o' (j + 1) (us ++ [l])) (hgr : (w1.alloc ob).grownBy w' o.ownBlock) : GS w w' vK vs (us ++ [l]) c (fun i => if i = j then G else g i) (j + 1) o' := by
  have hlen : us.length = j := by have := h.row.1; simpa using this
  have hvb : ∀ b, v.ownBlock = some b → b < w.heap.size := fun b hb => hk.block b (InVs.of_get hv hb)
  have hob : ∀ b, o.ownBlock = some b → w.heap.size ≤ b := fun b hb => (own_block h.row b hb).1
  have hapart : ∀ i u, i ≠ j → vs[i]? = some u → ∀ b, u.ownBlock = some b → v.ownBlock ≠ some b := by
    intro i u hi hu b hb he
    rcases Nat.lt_or_ge i j with hlt | hge
    · exact hk.apart i j u v hlt hu hv b hb he
    · exact hk.apart j i v u (by omega) hv hu b he hb
  have hm1 : Mod (fun b => some b = o.ownBlock) w1 w' := by
    have h1 : Mod (fun b => some b = o.ownBlock) w1 (w1.alloc ob) := Mod.of_below ((Below.refl _ _).alloc (Nat.le_refl _) _)
    exact h1.trans (Mod.of_grown hgr) (fun _ _ h => h)
  have hsz := h.mod.size
  refine ⟨ho, ?_, ?_, ?_, ?_, ?_, ?_⟩
  · intro i u hu
    by_cases hij : i < j
    · rw [List.getElem?_append_left (by omega)] at hu
      obtain ⟨h1, h2⟩ := h.grown i u hu
      rw [if_neg (by omega)]
      refine ⟨own_mod (own_mod h1 hg.mod (fun b hb hS => ?_)) hm1 (fun b hb hS => ?_), h2⟩
      · rcases h2 b hb with h3 | ⟨q, h3, h4⟩
        · have := hvb b hS; omega
        · exact hapart i q (by omega) h3 b h4 hS
      · exact own_type h1 h.row (by decide) b hb hS.symm
    · have hi : i = j := by
        have : i < (us ++ [l]).length := by
          rcases Nat.lt_or_ge i (us ++ [l]).length with h | h
          · exact h
          · rw [List.getElem?_eq_none h] at hu; cases hu
        rw [List.length_append] at this
        simp at this
        omega
      subst hi
      rw [List.getElem?_append_right (by omega), hlen, Nat.sub_self] at hu
      injection hu with hu
      subst hu
      rw [if_pos rfl]
      refine ⟨own_mod hg.own hm1 (fun b hb hS => ?_), fun b hb => ?_⟩
      · have h3 : w1.ownsRow w.heap.size 23 1 o i us := own_mod h.row hg.mod (fun q hq hS' => by
          have := hvb q hS'
          have := hob q hq
          omega)
        exact own_type hg.own h3 (by decide) b hb hS.symm
      · rcases hg.spot with rfl | ⟨h3, _⟩ | ⟨q, h3, h4⟩
        · exact .inr ⟨_, hv, hb⟩
        · exact .inr ⟨_, hv, by rw [← h3]; exact hb⟩
        · rw [h3] at hb; injection hb with hb; exact .inl (by omega)
  · refine own_mod (own_mod h.old hg.mod (fun b hb hS => ?_)) hm1 (fun b hb hS => ?_)
    · exact hk.rowApart (by decide) b hb (InVs.of_get hv hS)
    · have := hk.rowBlock b hb
      have := hob b hS.symm
      omega
  · intro i u hu hi
    by_cases hij : i < j
    · obtain ⟨A, k, rfl, hr⟩ := h.done i u hu hij
      refine ⟨A, k, rfl, reads_mod (reads_mod hr hg.mod (fun ad e hS => ?_)) hm1 (fun ad e hS => ?_)⟩
      · exact hapart i _ (by omega) hu ad.block (by rw [e]; rfl) hS
      · have := hk.block ad.block (InVs.of_get hu (by rw [e]; rfl))
        have := hob _ hS.symm
        omega
    · have hi : i = j := by omega
      subst hi
      rw [hv] at hu
      injection hu with hu
      subst hu
      obtain ⟨A, k, rfl, _⟩ := own_form (h.todo i _ hv (Nat.le_refl _))
      refine ⟨A, k, rfl, reads_mod (hg.old A k rfl) hm1 (fun ad e hS => ?_)⟩
      have := hvb ad.block (by rw [e]; rfl)
      have := hob _ hS.symm
      omega
  · intro i u hu hi
    refine own_mod (own_mod (h.todo i u hu (by omega)) hg.mod (fun b hb hS => ?_)) hm1 (fun b hb hS => ?_)
    · exact hapart i u (by omega) hu b hb hS
    · have := hk.block b (InVs.of_get hu hb)
      have := hob b hS.symm
      omega
  · refine (h.mod.trans hg.mod (fun b _ hS => InVs.of_get hv hS)).trans hm1 (fun b hb hS => ?_)
    have := hob b hS.symm
    omega
  · intro i hi
    have hS1 : ∀ b, v.ownBlock = some b → b < w.heap.size ∨ NotInt wr b := fun b hb => .inr (NotInt.of_own (h.todo j v hv (Nat.le_refl _)) (by decide) hb)
    have hrow : w1.ownsRow w.heap.size 23 1 o j us := own_mod h.row hg.mod (fun q hq hS' => by
      have := hvb q hS'
      have := hob q hq
      omega)
    have hS2 : ∀ b, some b = o.ownBlock → b < w.heap.size ∨ NotInt w1 b := fun b hb => .inr (NotInt.of_own hrow (by decide) hb.symm)
    by_cases e : i = j
    · subst e
      rw [if_pos rfl]
      exact hG.mod hm1 hS2
    · rw [if_neg e]
      exact ((h.deep i (by omega)).mod hg.mod hS1).mod hm1 hS2

set_option maxRecDepth 100000 in
set_option maxHeartbeats 4000000 in
theorem grow_any (X : Nat) (cs : Array Value) (vs : List Value) (c : Nat → List NC) (AK : Option Addr) (cK : Nat) (w : World) (hX : Blk w X 39 cs) (hc : cs[10]? = some (.slice AK vs.length cK)) (hk : kd w (.slice AK vs.length cK) vs c) (hv : vs.length ≤ 250) (hl : ∀ i, (c i).length ≤ 100000) :
    Calls Tryz.prog 62 #[.pointer (some ⟨X, 0, none⟩)] w fun e w' => ∃ o us g, e = .returned o ∧ us.length = vs.length ∧ GS w w' (.slice AK vs.length cK) vs us c g vs.length o := by
  have hXn : ¬ InVs vs X := by
    rintro ⟨v, hv, hb⟩
    obtain ⟨i, hi⟩ := List.mem_iff_getElem?.1 hv
    exact own_blk_ne (hk.own i v hi) hX (by decide) hb
  have HX := Lib.hid (show ∀ W, Mod (InVs vs) w W → W.cell? ⟨X, 10, none⟩ = some (.slice AK vs.length cK) ∧ X < W.heap.size from fun W hm => by
    have h := hX.mod hm hXn
    exact ⟨(h.cell 10).trans hc, h.lt⟩)
  have HK0 := Lib.hid hk
  have HL := Lib.hid hl
  clear hX hc hk hl hXn
  obtain ⟨i0, hi0, hz0, hz1, hz2⟩ := info_parts1 nodeInfo
  obtain ⟨i1, hi1, hz10, hz11, hz12⟩ := info_parts sliceInfo
  go_enter Tryz.func62, Tryz.ntmps62
  go_wp2
  go_loopw [3, 4] (fun o q wr => ∃ (j : Nat) (us : List Value) (g : Nat → List NC), j ≤ vs.length ∧ q = .int .i64 (j : Int) ∧ us.length = j ∧ Hid (GS w wr (.slice AK vs.length cK) vs us c g j o)) (fun _ q _ => vs.length - (intOf q).toNat)
  case atStart => exact ⟨0, [], _, Nat.zero_le _, rfl, rfl, Lib.hid (GS.start HK0.out)⟩
  case round =>
    obtain ⟨j, us, g, hj, rfl, hus, HG⟩ := hrel
    obtain ⟨x0, x1⟩ := HX.out _ HG.out.mod
    by_cases hlt : j < vs.length
    · obtain ⟨v, hv'⟩ : ∃ v, vs[j]? = some v := ⟨_, List.getElem?_eq_getElem hlt⟩
      have hown := HG.out.todo j v hv' (Nat.le_refl _)
      obtain ⟨gK, e0, ⟨k0, e1⟩, z1, r1, -⟩ := own_cell HG.out.old hv'
      injection e1 with e1 _ e1c
      subst e1c
      have hAK := Lib.hid e1
      rw [e1] at x0
      obtain ⟨B, q, rfl, hBq⟩ := own_form hown
      have HI := Lib.hid hv'
      have HO := Lib.hid hown
      have hn := HL.out j
      obtain ⟨A0, c0, rfl, hc0⟩ := own_form HG.out.row
      clear hown hv' e1
      obtain ⟨wj, hwj⟩ : ∃ wj, wj = wr := ⟨_, rfl⟩
      subst hwj
      have HROW := Lib.hid (show ∀ W, Mod (fun b => (Value.slice B (c j).length q).ownBlock = some b) wj W → W.ownsRow w.heap.size 23 1 (.slice A0 j c0) j us from fun W hm => own_mod HG.out.row hm (fun b hb hS => by
        have h1 := HK0.out.block b (InVs.of_get HI.out hS)
        have h2 := (own_block HG.out.row b hb).1
        omega))
      have hszj := HG.out.mod.size
      go_wp2_with fail
      go_loopw [5, 6] (fun l q' wi => ∃ (k : Nat) (Al : Option Addr) (cl : Nat) (ms : List NC), k ≤ 12 ∧ q' = .int .i64 (k : Int) ∧ l = .slice Al ((c j).length + k) cl ∧ Hid (Gw wj wi 55 2 (.slice B (c j).length q) (.slice Al ((c j).length + k) cl) (c j).length ((c j).length + k) (enc nf (c j)) (enc nf (c j ++ ms))) ∧ Hid (Deeps wi w.heap.size ms (marks j (c j).length k))) (fun _ q' _ => 12 - (intOf q').toNat)
      case atStart => exact ⟨0, B, q, [], by omega, rfl, rfl, Lib.hid (by simpa using Gw.start HO.out), Lib.hid (Deeps.nil _ _)⟩
      case round =>
        obtain ⟨k, Al, cl, ms, hk, rfl, rfl, HW, HDM⟩ := hrel
        have hszr := HW.out.mod.size
        have HNB := Lib.hid (show ∀ b, (Value.slice Al ((c j).length + k) cl).ownBlock = some b → b < w.heap.size ∨ NotInt wr b from fun b hb => .inr (NotInt.of_own HW.out.own (by decide) hb))
        by_cases hk12 : k < 12
        · have HMK := Lib.hid (fun (a b : Int) (ha : a = (((c j).length + k : Nat) : Int)) (hb : b = ((1 : Nat) : Int)) => mark_at j ((c j).length + k) 1 a b ha hb (by omega) (by omega) (by omega) wr)
          go_wp2_with fail
          refine (HMK.out _ _ (by omega) rfl).mono ?_
          rintro e w1 ⟨A1, q1, ps, rfl, hown1, hd1, hb1⟩
          have HDP := Lib.hid (((HDM.out.below hb1).app (hd1.low (Nat.le_trans hszj hszr))))
          have HNB1 := Lib.hid (show ∀ b, some b = (Value.slice Al ((c j).length + k) cl).ownBlock → b < w.heap.size ∨ NotInt w1 b from fun b hb => .inr (NotInt.of_own (own_below HW.out.own hb1) (by decide) hb.symm))
          have HONE := Lib.hid (one_of hd1)
          obtain ⟨gA, rfl⟩ := own_some hown1 (by omega)
          have HW1 := Lib.hid (HW.out.below hb1)
          have hr1 := (own_reads hown1).2
          clear hown1 hb1
          go_wp2_with (first
            | (at_builtin
               refine wpList_append_kept _ rfl (.tmp 27) (.tmp 31) _ rfl 0 55 i0 _ 2 48 Tryz.underlying23 hi0 hz0 hz1 hz2 rfl (by omega) (.slice Al ((c j).length + k) cl) ((c j).length + k) _ (by rfl) HW1.out.own ⟨gA, 0, none⟩ 1 q1 _ (by rfl) hr1 HONE.out (by simp only [maxLen]; omega) (by omega) (Nat.zero_le _) (by omega) ?_
               intro v2 w2 hown2 hg2 hat2))
          have HG2 := Lib.hid (HW1.out.app hown2 hg2 hat2 HO.out)
          have HD2 := Lib.hid (HDP.out.mod (Mod.of_grown hg2) HNB1.out)
          obtain ⟨A2, c2, rfl, hc2⟩ := own_form hown2
          clear hown2 hg2 hat2
          go_roundw
          case rel =>
            refine ⟨k + 1, A2, c2, ms ++ ps, by omega, by go_num, rfl, ?_, Lib.hid ?_⟩
            · show Gw _ _ _ _ _ _ _ _ _ _
              have h := HG2.out
              rw [← enc_append, List.append_assoc] at h
              exact h
            · have h := HD2.out
              rw [marks_append] at h
              exact h
          case measure => simp [intOf]; omega
        · have hk12' : k = 12 := by omega
          subst hk12'
          have HMK := Lib.hid (fun (a b : Int) (ha : a = (((c j).length + 12 : Nat) : Int)) (hb : b = ((60 : Nat) : Int)) => mark_at j ((c j).length + 12) 60 a b ha hb (by omega) (by omega) (by omega) wr)
          go_wp2_with fail
          refine (HMK.out _ _ (by omega) rfl).mono ?_
          rintro e w1 ⟨A1, q1, ps, rfl, hown1, hd1, hb1⟩
          have HDP := Lib.hid (((HDM.out.below hb1).app (hd1.low (Nat.le_trans hszj hszr))))
          have HNB1 := Lib.hid (show ∀ b, some b = (Value.slice Al ((c j).length + 12) cl).ownBlock → b < w.heap.size ∨ NotInt w1 b from fun b hb => .inr (NotInt.of_own (own_below HW.out.own hb1) (by decide) hb.symm))
          have HONE := Lib.hid (one_of hd1)
          obtain ⟨gA, rfl⟩ := own_some hown1 (by omega)
          have HW1 := Lib.hid (HW.out.below hb1)
          have hr1 := (own_reads hown1).2
          clear hown1 hb1
          go_wp2_with (first
            | (at_builtin
               refine wpList_append_kept _ rfl (.tmp 34) (.tmp 38) _ rfl 0 55 i0 _ 2 48 Tryz.underlying23 hi0 hz0 hz1 hz2 rfl (by omega) (.slice Al ((c j).length + 12) cl) ((c j).length + 12) _ (by rfl) HW1.out.own ⟨gA, 0, none⟩ 60 q1 _ (by rfl) hr1 HONE.out (by simp only [maxLen]; omega) (by omega) (Nat.zero_le _) (by omega) ?_
               intro v2 w2 hown2 hg2 hat2
               have HG2 := Lib.hid (HW1.out.app hown2 hg2 hat2 HO.out)
               have HD2 := Lib.hid (HDP.out.mod (Mod.of_grown hg2) HNB1.out)
               obtain ⟨A2, c2, rfl, hc2⟩ := own_form hown2
               have hrow2 := HROW.out _ HG2.out.mod
               have hsz2 := HG2.out.mod.size
               clear hown2 hg2 hat2)
            | (at_builtin
               refine wpList_append_any _ rfl (.tmp 33) (.tmp 40) _ rfl w.heap.size 23 i1 _ 1 24 Tryz.underlying37 hi1 hz10 hz11 hz12 rfl (by omega) (.slice A0 j c0) j us (by rfl) (own_below hrow2 (below_new _ _)) _ 1 1 _ (by rfl) (Reads.new _ _ rfl) (by simp [Value.oneCell']) (fun e => by cases e) (by simp only [maxLen]; omega) (by omega) (by simp; omega) ?_
               intro v3 w3 hown3 hg3 hat3))
          have h := HG2.out
          rw [← enc_append, List.append_assoc] at h
          have hD3 := HD2.out
          rw [marks_append] at hD3
          have hs := Lib.hid (GS.step HG.out HK0.out HI.out h hD3 hown3 hg3)
          clear hown3 hg3 hat3 h hrow2 hD3
          go_roundw
          case rel =>
            refine ⟨j + 1, us ++ [.slice A2 ((c j).length + 12 + 60) c2], fun i => if i = j then ms ++ ps else g i, by omega, by go_num, by simp [hus], ?_⟩
            show GS _ _ _ _ _ _ _ _ _
            exact hs.out
          case measure => simp [intOf]; omega
    · have hje : j = vs.length := by omega
      subst hje
      obtain ⟨A0, c0, rfl, hc0⟩ := own_form HG.out.row
      go_wp2_with fail
      go_ret
      exact ⟨_, us, g, rfl, hus, HG.out⟩


set_option maxRecDepth 100000 in
set_option maxHeartbeats 2000000 in
theorem marked_any (A : Option Addr) (k : Nat) (vs : List Value) (c : Nat → List NC) (n : Nat → Nat) (w : World) (hr : rd w (.slice A vs.length k) vs c) (hd : ∀ i, i < vs.length → Deeps w 0 (c i) (marks i 0 (n i))) (hv : vs.length ≤ 250) (hn : ∀ i, n i ≤ 100000) :
    Calls Tryz.prog 68 #[.slice A vs.length k] w fun e w' => e = .returned (.bool true) ∧ Below w.heap.size w w' := by
  have HR := Lib.hid hr
  have HN := Lib.hid hn
  have HDD := Lib.hid hd
  clear hr hn hd
  go_enter Tryz.func68, Tryz.ntmps68
  go_wp2
  go_loopw [3] (fun q wr => ∃ j : Nat, j ≤ vs.length ∧ q = .int .i64 (j : Int) ∧ Hid (Below w.heap.size w wr)) (fun q _ => vs.length - (intOf q).toNat)
  case atStart => exact ⟨0, Nat.zero_le _, rfl, Lib.hid (Below.refl _ _)⟩
  case round =>
    obtain ⟨j, hj, rfl, HB⟩ := hrel
    by_cases hlt : j < vs.length
    · obtain ⟨g, B, q, hA, r0, hB, -⟩ := (HR.out.below HB.out).at_ rfl hlt
      obtain ⟨nj, hnj⟩ : ∃ nj, n j = nj := ⟨_, rfl⟩
      have hnj1 := HN.out j
      have hdj := (HDD.out j hlt).below HB.out
      have hcl : (c j).length = nj := by rw [hdj.1, marks_len, hnj]
      rw [hnj] at hnj1 hdj
      rw [hcl] at r0
      have HBB := Lib.hid (nodes_of hB hdj (by rw [marks_len]; exact hnj1))
      have z0 := cell_lt r0
      subst hA
      clear hB hnj hcl hdj
      go_wp2_with fail
      go_region_held3 (fun W => W.cell? ⟨g, j, none⟩ = some (.slice B nj q) ∧ Below wr.heap.size wr W)
        (first
          | exact ⟨hc, hD⟩
          | exact ⟨r0, (Below.refl _ _).drew⟩
          | go_keep)
        (first
          | (go_at_call 85
             revert ho5
             intro ho5
             have hsm := same_yes B A5 (marks j 0 nj) q q5 w5 (HBB.out.below hD) (nodes_of (by rw [Arr, hd5.1, marks_len]; exact (own_reads ho5).2) hd5 (by rw [marks_len]; exact hnj1)) (by rw [marks_len]; exact hnj1) (marks_small _ _ _)
             rw [marks_len] at hsm
             refine hsm.mono ?_
             rintro e w6 ⟨rfl, hb6⟩
             have hc : w6.cell? ⟨g, j, none⟩ = some (.slice B nj q) := (hb6.cell (cell_lt hc)).trans hc
             replace hD := below_then hD hb6)
          | (go_at_call 89
             refine (mark0_any j nj (by omega) hnj1 _).mono ?_
             rintro e w5 ⟨A5, q5, ps5, rfl, ho5, hd5, hb5⟩
             have hD : Below wr.heap.size wr w5 := (Below.refl _ _).drew.trans hb5
             have hc : w5.cell? ⟨g, j, none⟩ = some (.slice B nj q) := (hD.cell z0).trans r0))
      have HD := Lib.hid hD
      clear hD hc ho5 hd5 hb5
      go_wp2_with fail
      go_roundw
      case rel => exact ⟨j + 1, by omega, by go_num, Lib.hid (below_then HB.out HD.out)⟩
      case measure => simp [intOf]; omega
    · have hje : j = vs.length := by omega
      subst hje
      go_wp2_with fail
      go_ret
      exact ⟨rfl, HB.out⟩

set_option maxRecDepth 100000 in
set_option maxHeartbeats 2000000 in
theorem still_any (X : Nat) (cs : Array Value) (vs was : List Value) (c c2 : Nat → List NC) (d : Nat → List Nd) (AK AW : Option Addr) (cK cW : Nat) (w : World) (hX : Blk w X 39 cs) (h1 : cs[10]? = some (.slice AK vs.length cK)) (h2 : cs[11]? = some (.slice AW was.length cW))
    (hk : rd w (.slice AK vs.length cK) vs c) (hw : rd w (.slice AW was.length cW) was c2) (hd : ∀ i, i < vs.length → Deeps w 0 (c i) (d i)) (hd2 : ∀ i, i < vs.length → Deeps w 0 (c2 i) (d i)) (hx : ∀ i, ∀ x ∈ d i, x.slots.length ≤ 100000 ∧ x.words.length ≤ 100000) (hwl : was.length = vs.length) (hv : vs.length ≤ 250) (hl : ∀ i, (c i).length ≤ 100000) :
    Calls Tryz.prog 50 #[.pointer (some ⟨X, 0, none⟩)] w fun e w' => e = .returned (.bool true) ∧ Below w.heap.size w w' := by
  have HK := Lib.hid hk
  have HW := Lib.hid hw
  have HL := Lib.hid hl
  have HD1 := Lib.hid hd
  have HD2 := Lib.hid hd2
  have HXX := Lib.hid hx
  have x0 := (hX.cell 10).trans h1
  have x1 := (hX.cell 11).trans h2
  have x2 := hX.lt
  have HX := Lib.hid (show ∀ W, Below w.heap.size w W → W.cell? ⟨X, 10, none⟩ = some (.slice AK vs.length cK) ∧ W.cell? ⟨X, 11, none⟩ = some (.slice AW was.length cW) ∧ X < W.heap.size from fun W hb =>
    ⟨(hb.cell (p := ⟨X, 10, none⟩) x2).trans x0, (hb.cell (p := ⟨X, 11, none⟩) x2).trans x1, Nat.lt_of_lt_of_le x2 hb.size⟩)
  clear hk hw hl hX h1 h2 x0 x1 x2 hd hd2 hx
  go_enter Tryz.func50, Tryz.ntmps50
  go_wp2
  go_loopw [3] (fun q wr => ∃ j : Nat, j ≤ vs.length ∧ q = .int .i64 (j : Int) ∧ Hid (Below w.heap.size w wr)) (fun q _ => vs.length - (intOf q).toNat)
  case atStart => exact ⟨0, Nat.zero_le _, rfl, Lib.hid (Below.refl _ _)⟩
  case round =>
    obtain ⟨j, hj, rfl, HB⟩ := hrel
    obtain ⟨x0, x1, x2⟩ := HX.out _ HB.out
    by_cases hlt : j < vs.length
    · obtain ⟨g, B, q, hA, r0, hB, -⟩ := (HK.out.below HB.out).at_ rfl hlt
      obtain ⟨g', B', q', hA', r0', hB', -⟩ := (HW.out.below HB.out).at_ rfl (by omega : j < was.length)
      have hwlt : (j : Int) < was.length := by omega
      have hn := HL.out j
      have hd1 := (HD1.out j hlt).below HB.out
      have hd2 := (HD2.out j hlt).below HB.out
      have hdl : (d j).length ≤ 100000 := by rw [← hd1.1]; exact hn
      have hcc : (c2 j).length = (c j).length := by rw [hd1.1, hd2.1]
      have N1 := Lib.hid (nodes_of hB hd1 hdl)
      have N2 := Lib.hid (nodes_of hB' hd2 hdl)
      have HSM := Lib.hid (fun (W : World) (hb : Below wr.heap.size wr W) => same_yes B B' (d j) q q' W (N1.out.below hb) (N2.out.below hb) hdl (HXX.out j))
      rw [← hd1.1] at HSM
      rw [hcc] at r0'
      clear hd1 hd2 hdl hcc
      subst hA hA'
      clear hB hB'
      have z0 := cell_lt r0
      have z1 := cell_lt r0'
      go_wp2_with fail
      go_region_held3 (fun W => W.cell? ⟨X, 10, none⟩ = some (.slice (some ⟨g, 0, none⟩) vs.length cK) ∧ W.cell? ⟨X, 11, none⟩ = some (.slice (some ⟨g', 0, none⟩) was.length cW) ∧ W.cell? ⟨g, j, none⟩ = some (.slice B (c j).length q) ∧ W.cell? ⟨g', j, none⟩ = some (.slice B' (c j).length q'))
        (first
          | exact ⟨x0, x1, r0, r0'⟩
          | exact hS
          | go_keep)
        (first
          | (go_at_call 85
             refine (HSM.out _ (Below.refl _ _).drew).mono ?_
             rintro e w6 ⟨rfl, hb6⟩
             have hD : Below wr.heap.size wr w6 := (Below.refl _ _).drew.trans hb6
             have hS : w6.cell? ⟨X, 10, none⟩ = some (.slice (some ⟨g, 0, none⟩) vs.length cK) ∧ w6.cell? ⟨X, 11, none⟩ = some (.slice (some ⟨g', 0, none⟩) was.length cW) ∧ w6.cell? ⟨g, j, none⟩ = some (.slice B (c j).length q) ∧ w6.cell? ⟨g', j, none⟩ = some (.slice B' (c j).length q') :=
               ⟨(hD.cell (p := ⟨X, 10, none⟩) x2).trans x0, (hD.cell (p := ⟨X, 11, none⟩) x2).trans x1, (hD.cell (p := ⟨g, j, none⟩) z0).trans r0, (hD.cell (p := ⟨g', j, none⟩) z1).trans r0'⟩))
      have HD := Lib.hid hD
      clear hD hS hb6
      go_wp2_with fail
      go_roundw
      case rel => exact ⟨j + 1, by omega, by go_num, Lib.hid (below_then HB.out HD.out)⟩
      case measure => simp [intOf]; omega
    · have hje : j = vs.length := by omega
      subst hje
      go_wp2_with fail
      go_ret
      exact ⟨rfl, HB.out⟩

end Go.Proofs.YteminkohgagedaaGreat.BkNodes
