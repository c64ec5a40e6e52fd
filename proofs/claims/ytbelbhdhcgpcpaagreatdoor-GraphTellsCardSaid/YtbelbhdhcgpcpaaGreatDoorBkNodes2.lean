/- The book's functions over lists of nodes (2): they grow, they are looked at. Printed by gen_bknodes2.py out of book.tpl. -/
import Derived.Test.YtbelbhdhcgpcpaaGreatDoorBkNodes
namespace Go.Proofs.YtbelbhdhcgpcpaaGreatDoor.BkNodes
open Go.RowKit Go.Proofs.YtbelbhdhcgpcpaaGreatDoor.Base Go.Proofs.YtbelbhdhcgpcpaaGreatDoor.Bk Go.Proofs.YtbelbhdhcgpcpaaGreatDoor.Gr
set_option linter.unusedVariables false
set_option linter.unusedSimpArgs false

theorem sliceInfo : (Tryz.prog.info? 23).map (fun i => (i.zero, i.size, i.bytes)) = some (some (.slice none 0 0), 1, 24) := by kernel_rfl
theorem one_of {w : World} {lo : Nat} {ps : List NC} {xs : List Nd} (h : Deeps w lo ps xs) : ∀ u ∈ enc nf ps, u.oneCell' = true := by
  intro u hu
  simp only [enc, List.mem_flatMap] at hu
  obtain ⟨p, hp, hu⟩ := hu
  obtain ⟨i, hi⟩ := List.mem_iff_getElem?.1 hp
  have hl : i < ps.length := by
    rcases Nat.lt_or_ge i ps.length with h | h
    · exact h
    · rw [List.getElem?_eq_none h] at hi; cases hi
  exact nf_one p w lo _ (h.2 i p _ hi (List.getElem?_eq_getElem (show i < xs.length by rw [← h.1]; exact hl))) u hu
/-! ### lists that grow -/
/-- j of them have grown. -/
structure GS (w wr : World) (vK : Value) (vs us : List Value) (c g : Nat → List NC) (j : Nat) (o : Value) : Prop where
  row : wr.ownsRow w.heap.size 23 1 o j us
  grown : ∀ (i : Nat) (u : Value), us[i]? = some u → wr.ownsRow 0 45 2 u ((c i).length + 72) (enc nf (c i ++ g i)) ∧ ∀ b, u.ownBlock = some b → (w.heap.size ≤ b ∨ ∃ v, vs[i]? = some v ∧ v.ownBlock = some b)
  old : wr.ownsRow 0 23 1 vK vs.length vs
  done : ∀ (i : Nat) (v : Value), vs[i]? = some v → i < j → ∃ A k, v = .slice A (c i).length k ∧ Arr wr nf 2 A (c i)
  todo : ∀ (i : Nat) (v : Value), vs[i]? = some v → j ≤ i → wr.ownsRow 0 45 2 v (c i).length (enc nf (c i))
  mod : Mod (InVs vs) w wr
  deep : ∀ i, i < j → Deeps wr w.heap.size (g i) (marks i (c i).length 72)
theorem GS.start {w : World} {vK : Value} {vs : List Value} {c : Nat → List NC} (h : kd w vK vs c) : GS w w vK vs [] c (fun _ => []) 0 (.slice none 0 0) :=
  ⟨own_nil _ _ _ _, fun i u h => by simp at h, h.row, fun i v _ h => by omega, fun i v hi _ => h.own i v hi, Mod.refl _ _, fun i h => by omega⟩
theorem GS.step {w wr w1 w' : World} {vK v l o o' : Value} {vs us : List Value} {c g : Nat → List NC} {G : List NC} {j : Nat} {ob : Obj} (h : GS w wr vK vs us c g j o) (hk : kd w vK vs c) (hv : vs[j]? = some v)
    (hg : Gw wr w1 45 2 v l (c j).length ((c j).length + 72) (enc nf (c j)) (enc nf (c j ++ G))) (hG : Deeps w1 w.heap.size G (marks j (c j).length 72))
    (ho : w'.ownsRow w.heap.size 23 1 o' (j + 1) (us ++ [l])) (hgr : (w1.alloc ob).grownBy w' o.ownBlock) : GS w w' vK vs (us ++ [l]) c (fun i => if i = j then G else g i) (j + 1) o' := by
  have hlen : us.length = j := by have := h.row.1; simpa using this
  have hvb : ∀ b, v.ownBlock = some b → b < w.heap.size := fun b hb => hk.block b (InVs.of_get hv hb)
  have hob : ∀ b, o.ownBlock = some b → w.heap.size ≤ b := fun b hb => (own_block h.row b hb).1
  have hapart : ∀ i u, i ≠ j → vs[i]? = some u → ∀ b, u.ownBlock = some b → v.ownBlock ≠ some b := by
    intro i u hi hu b hb he
    rcases Nat.lt_or_ge i j with hlt | hge
    · exact hk.apart i j u v hlt hu hv b hb he
    · exact hk.apart j i v u (by omega) hv hu b he hb
  have hm1 : Mod (fun b => some b = o.ownBlock) w1 w' := by
    have h1 : Mod (fun b => some b = o.ownBlock) w1 (w1.alloc ob) := Mod.of_below ((Below.refl _ _).alloc (Nat.le_refl _) _)
    exact h1.trans (Mod.of_grown hgr) (fun _ _ h => h)
  have hsz := h.mod.size
  refine ⟨ho, ?_, ?_, ?_, ?_, ?_, ?_⟩
  · intro i u hu
    by_cases hij : i < j
    · rw [List.getElem?_append_left (by omega)] at hu
      obtain ⟨h1, h2⟩ := h.grown i u hu
      rw [if_neg (by omega)]
      refine ⟨own_mod (own_mod h1 hg.mod (fun b hb hS => ?_)) hm1 (fun b hb hS => ?_), h2⟩
      · rcases h2 b hb with h3 | ⟨q, h3, h4⟩
        · have := hvb b hS; omega
        · exact hapart i q (by omega) h3 b h4 hS
      · exact own_type h1 h.row (by decide) b hb hS.symm
    · have hi : i = j := by
        have : i < (us ++ [l]).length := by
          rcases Nat.lt_or_ge i (us ++ [l]).length with h | h
          · exact h
          · rw [List.getElem?_eq_none h] at hu; cases hu
        rw [List.length_append] at this
        simp at this
        omega
      subst hi
      rw [List.getElem?_append_right (by omega), hlen, Nat.sub_self] at hu
      injection hu with hu
      subst hu
      rw [if_pos rfl]
      refine ⟨own_mod hg.own hm1 (fun b hb hS => ?_), fun b hb => ?_⟩
      · have h3 : w1.ownsRow w.heap.size 23 1 o i us := own_mod h.row hg.mod (fun q hq hS' => by
          have := hvb q hS'
          have := hob q hq
          omega)
        exact own_type hg.own h3 (by decide) b hb hS.symm
      · rcases hg.spot with rfl | ⟨h3, _⟩ | ⟨q, h3, h4⟩
        · exact .inr ⟨_, hv, hb⟩
        · exact .inr ⟨_, hv, by rw [← h3]; exact hb⟩
        · rw [h3] at hb; injection hb with hb; exact .inl (by omega)
  · refine own_mod (own_mod h.old hg.mod (fun b hb hS => ?_)) hm1 (fun b hb hS => ?_)
    · exact hk.rowApart (by decide) b hb (InVs.of_get hv hS)
    · have := hk.rowBlock b hb
      have := hob b hS.symm
      omega
  · intro i u hu hi
    by_cases hij : i < j
    · obtain ⟨A, k, rfl, hr⟩ := h.done i u hu hij
      refine ⟨A, k, rfl, reads_mod (reads_mod hr hg.mod (fun ad e hS => ?_)) hm1 (fun ad e hS => ?_)⟩
      · exact hapart i _ (by omega) hu ad.block (by rw [e]; rfl) hS
      · have := hk.block ad.block (InVs.of_get hu (by rw [e]; rfl))
        have := hob _ hS.symm
        omega
    · have hi : i = j := by omega
      subst hi
      rw [hv] at hu
      injection hu with hu
      subst hu
      obtain ⟨A, k, rfl, _⟩ := own_form (h.todo i _ hv (Nat.le_refl _))
      refine ⟨A, k, rfl, reads_mod (hg.old A k rfl) hm1 (fun ad e hS => ?_)⟩
      have := hvb ad.block (by rw [e]; rfl)
      have := hob _ hS.symm
      omega
  · intro i u hu hi
    refine own_mod (own_mod (h.todo i u hu (by omega)) hg.mod (fun b hb hS => ?_)) hm1 (fun b hb hS => ?_)
    · exact hapart i u (by omega) hu b hb hS
    · have := hk.block b (InVs.of_get hu hb)
      have := hob b hS.symm
      omega
  · refine (h.mod.trans hg.mod (fun b _ hS => InVs.of_get hv hS)).trans hm1 (fun b hb hS => ?_)
    have := hob b hS.symm
    omega
  · intro i hi
    have hS1 : ∀ b, v.ownBlock = some b → b < w.heap.size ∨ NotInt wr b := fun b hb => .inr (NotInt.of_own (h.todo j v hv (Nat.le_refl _)) (by decide) hb)
    have hrow : w1.ownsRow w.heap.size 23 1 o j us := own_mod h.row hg.mod (fun q hq hS' => by
      have := hvb q hS'
      have := hob q hq
      omega)
    have hS2 : ∀ b, some b = o.ownBlock → b < w.heap.size ∨ NotInt w1 b := fun b hb => .inr (NotInt.of_own hrow (by decide) hb.symm)
    by_cases e : i = j
    · subst e
      rw [if_pos rfl]
      exact hG.mod hm1 hS2
    · rw [if_neg e]
      exact ((h.deep i (by omega)).mod hg.mod hS1).mod hm1 hS2

set_option maxRecDepth 100000 in
set_option maxHeartbeats 4000000 in
theorem grow_any (X : Nat) (cs : Array Value) (vs : List Value) (c : Nat → List NC) (AK : Option Addr) (cK : Nat) (w : World) (hX : Blk w X 37 cs) (hc : cs[10]? = some (.slice AK vs.length cK)) (hk : kd w (.slice AK vs.length cK) vs c) (hv : vs.length ≤ 250) (hl : ∀ i, (c i).length ≤ 100000) :
    Calls Tryz.prog 62 #[.pointer (some ⟨X, 0, none⟩)] w fun e w' => ∃ o us g, e = .returned o ∧ us.length = vs.length ∧ GS w w' (.slice AK vs.length cK) vs us c g vs.length o := by
  have hXn : ¬ InVs vs X := by
    rintro ⟨v, hv, hb⟩
    obtain ⟨i, hi⟩ := List.mem_iff_getElem?.1 hv
    exact own_blk_ne (hk.own i v hi) hX (by decide) hb
  have HX := Lib.hid (show ∀ W, Mod (InVs vs) w W → W.cell? ⟨X, 10, none⟩ = some (.slice AK vs.length cK) ∧ X < W.heap.size from fun W hm => by
    have h := hX.mod hm hXn
    exact ⟨(h.cell 10).trans hc, h.lt⟩)
  have HK0 := Lib.hid hk
  have HL := Lib.hid hl
  clear hX hc hk hl hXn
  obtain ⟨i0, hi0, hz0, hz1, hz2⟩ := info_parts1 nodeInfo
  obtain ⟨i1, hi1, hz10, hz11, hz12⟩ := info_parts sliceInfo
  go_enter Tryz.func62, Tryz.ntmps62
  go_wp2
  go_loopw [3, 4] (fun o q wr => ∃ (j : Nat) (us : List Value) (g : Nat → List NC), j ≤ vs.length ∧ q = .int .i64 (j : Int) ∧ us.length = j ∧ Hid (GS w wr (.slice AK vs.length cK) vs us c g j o)) (fun _ q _ => vs.length - (intOf q).toNat)
  case atStart => exact ⟨0, [], _, Nat.zero_le _, rfl, rfl, Lib.hid (GS.start HK0.out)⟩
  case round =>
    obtain ⟨j, us, g, hj, rfl, hus, HG⟩ := hrel
    obtain ⟨x0, x1⟩ := HX.out _ HG.out.mod
    by_cases hlt : j < vs.length
    · obtain ⟨v, hv'⟩ : ∃ v, vs[j]? = some v := ⟨_, List.getElem?_eq_getElem hlt⟩
      have hown := HG.out.todo j v hv' (Nat.le_refl _)
      obtain ⟨gK, e0, ⟨k0, e1⟩, z1, r1, -⟩ := own_cell HG.out.old hv'
      injection e1 with e1 _ e1c
      subst e1c
      have hAK := Lib.hid e1
      rw [e1] at x0
      obtain ⟨B, q, rfl, hBq⟩ := own_form hown
      have HI := Lib.hid hv'
      have HO := Lib.hid hown
      have hn := HL.out j
      obtain ⟨A0, c0, rfl, hc0⟩ := own_form HG.out.row
      clear hown hv' e1
      obtain ⟨wj, hwj⟩ : ∃ wj, wj = wr := ⟨_, rfl⟩
      subst hwj
      have HROW := Lib.hid (show ∀ W, Mod (fun b => (Value.slice B (c j).length q).ownBlock = some b) wj W → W.ownsRow w.heap.size 23 1 (.slice A0 j c0) j us from fun W hm => own_mod HG.out.row hm (fun b hb hS => by
        have h1 := HK0.out.block b (InVs.of_get HI.out hS)
        have h2 := (own_block HG.out.row b hb).1
        omega))
      have hszj := HG.out.mod.size
      go_wp2_with fail
      go_loopw [5, 6] (fun l q' wi => ∃ (k : Nat) (Al : Option Addr) (cl : Nat) (ms : List NC), k ≤ 12 ∧ q' = .int .i64 (k : Int) ∧ l = .slice Al ((c j).length + k) cl ∧ Hid (Gw wj wi 45 2 (.slice B (c j).length q) (.slice Al ((c j).length + k) cl) (c j).length ((c j).length + k) (enc nf (c j)) (enc nf (c j ++ ms))) ∧ Hid (Deeps wi w.heap.size ms (marks j (c j).length k))) (fun _ q' _ => 12 - (intOf q').toNat)
      case atStart => exact ⟨0, B, q, [], by omega, rfl, rfl, Lib.hid (by simpa using Gw.start HO.out), Lib.hid (Deeps.nil _ _)⟩
      case round =>
        obtain ⟨k, Al, cl, ms, hk, rfl, rfl, HW, HDM⟩ := hrel
        have hszr := HW.out.mod.size
        have HNB := Lib.hid (show ∀ b, (Value.slice Al ((c j).length + k) cl).ownBlock = some b → b < w.heap.size ∨ NotInt wr b from fun b hb => .inr (NotInt.of_own HW.out.own (by decide) hb))
        by_cases hk12 : k < 12
        · have HMK := Lib.hid (fun (a b : Int) (ha : a = (((c j).length + k : Nat) : Int)) (hb : b = ((1 : Nat) : Int)) => mark_at j ((c j).length + k) 1 a b ha hb (by omega) (by omega) (by omega) wr)
          go_wp2_with fail
          refine (HMK.out _ _ (by omega) rfl).mono ?_
          rintro e w1 ⟨A1, q1, ps, rfl, hown1, hd1, hb1⟩
          have HDP := Lib.hid (((HDM.out.below hb1).app (hd1.low (Nat.le_trans hszj hszr))))
          have HNB1 := Lib.hid (show ∀ b, some b = (Value.slice Al ((c j).length + k) cl).ownBlock → b < w.heap.size ∨ NotInt w1 b from fun b hb => .inr (NotInt.of_own (own_below HW.out.own hb1) (by decide) hb.symm))
          have HONE := Lib.hid (one_of hd1)
          obtain ⟨gA, rfl⟩ := own_some hown1 (by omega)
          have HW1 := Lib.hid (HW.out.below hb1)
          have hr1 := (own_reads hown1).2
          clear hown1 hb1
          go_wp2_with (first
            | (at_builtin
               refine wpList_append_kept _ rfl (.tmp 27) (.tmp 31) _ rfl 0 45 i0 _ 2 48 Tryz.underlying23 hi0 hz0 hz1 hz2 rfl (by omega) (.slice Al ((c j).length + k) cl) ((c j).length + k) _ (by rfl) HW1.out.own ⟨gA, 0, none⟩ 1 q1 _ (by rfl) hr1 HONE.out (by simp only [maxLen]; omega) (by omega) (Nat.zero_le _) (by omega) ?_
               intro v2 w2 hown2 hg2 hat2))
          have HG2 := Lib.hid (HW1.out.app hown2 hg2 hat2 HO.out)
          have HD2 := Lib.hid (HDP.out.mod (Mod.of_grown hg2) HNB1.out)
          obtain ⟨A2, c2, rfl, hc2⟩ := own_form hown2
          clear hown2 hg2 hat2
          go_roundw
          case rel =>
            refine ⟨k + 1, A2, c2, ms ++ ps, by omega, by go_num, rfl, ?_, Lib.hid ?_⟩
            · show Gw _ _ _ _ _ _ _ _ _ _
              have h := HG2.out
              rw [← enc_append, List.append_assoc] at h
              exact h
            · have h := HD2.out
              rw [marks_append] at h
              exact h
          case measure => simp [intOf]; omega
        · have hk12' : k = 12 := by omega
          subst hk12'
          have HMK := Lib.hid (fun (a b : Int) (ha : a = (((c j).length + 12 : Nat) : Int)) (hb : b = ((60 : Nat) : Int)) => mark_at j ((c j).length + 12) 60 a b ha hb (by omega) (by omega) (by omega) wr)
          go_wp2_with fail
          refine (HMK.out _ _ (by omega) rfl).mono ?_
          rintro e w1 ⟨A1, q1, ps, rfl, hown1, hd1, hb1⟩
          have HDP := Lib.hid (((HDM.out.below hb1).app (hd1.low (Nat.le_trans hszj hszr))))
          have HNB1 := Lib.hid (show ∀ b, some b = (Value.slice Al ((c j).length + 12) cl).ownBlock → b < w.heap.size ∨ NotInt w1 b from fun b hb => .inr (NotInt.of_own (own_below HW.out.own hb1) (by decide) hb.symm))
          have HONE := Lib.hid (one_of hd1)
          obtain ⟨gA, rfl⟩ := own_some hown1 (by omega)
          have HW1 := Lib.hid (HW.out.below hb1)
          have hr1 := (own_reads hown1).2
          clear hown1 hb1
          go_wp2_with (first
            | (at_builtin
               refine wpList_append_kept _ rfl (.tmp 34) (.tmp 38) _ rfl 0 45 i0 _ 2 48 Tryz.underlying23 hi0 hz0 hz1 hz2 rfl (by omega) (.slice Al ((c j).length + 12) cl) ((c j).length + 12) _ (by rfl) HW1.out.own ⟨gA, 0, none⟩ 60 q1 _ (by rfl) hr1 HONE.out (by simp only [maxLen]; omega) (by omega) (Nat.zero_le _) (by omega) ?_
               intro v2 w2 hown2 hg2 hat2
               have HG2 := Lib.hid (HW1.out.app hown2 hg2 hat2 HO.out)
               have HD2 := Lib.hid (HDP.out.mod (Mod.of_grown hg2) HNB1.out)
               obtain ⟨A2, c2, rfl, hc2⟩ := own_form hown2
               have hrow2 := HROW.out _ HG2.out.mod
               have hsz2 := HG2.out.mod.size
               clear hown2 hg2 hat2)
            | (at_builtin
               refine wpList_append_any _ rfl (.tmp 33) (.tmp 40) _ rfl w.heap.size 23 i1 _ 1 24 Tryz.underlying35 hi1 hz10 hz11 hz12 rfl (by omega) (.slice A0 j c0) j us (by rfl) (own_below hrow2 (below_new _ _)) _ 1 1 _ (by rfl) (Reads.new _ _ rfl) (by simp [Value.oneCell']) (fun e => by cases e) (by simp only [maxLen]; omega) (by omega) (by simp; omega) ?_
               intro v3 w3 hown3 hg3 hat3))
          have h := HG2.out
          rw [← enc_append, List.append_assoc] at h
          have hD3 := HD2.out
          rw [marks_append] at hD3
          have hs := Lib.hid (GS.step HG.out HK0.out HI.out h hD3 hown3 hg3)
          clear hown3 hg3 hat3 h hrow2 hD3
          go_roundw
          case rel =>
            refine ⟨j + 1, us ++ [.slice A2 ((c j).length + 12 + 60) c2], fun i => if i = j then ms ++ ps else g i, by omega, by go_num, by simp [hus], ?_⟩
            show GS _ _ _ _ _ _ _ _ _
            exact hs.out
          case measure => simp [intOf]; omega
    · have hje : j = vs.length := by omega
      subst hje
      obtain ⟨A0, c0, rfl, hc0⟩ := own_form HG.out.row
      go_wp2_with fail
      go_ret
      exact ⟨_, us, g, rfl, hus, HG.out⟩


set_option maxRecDepth 100000 in
set_option maxHeartbeats 2000000 in
theorem marked_any (A : Option Addr) (k : Nat) (vs : List Value) (c : Nat → List NC) (n : Nat → Nat) (w : World) (hr : rd w (.slice A vs.length k) vs c) (hd : ∀ i, i < vs.length → Deeps w 0 (c i) (marks i 0 (n i))) (hv : vs.length ≤ 250) (hn : ∀ i, n i ≤ 100000) :
    Calls Tryz.prog 68 #[.slice A vs.length k] w fun e w' => e = .returned (.bool true) ∧ Below w.heap.size w w' := by
  have HR := Lib.hid hr
  have HN := Lib.hid hn
  have HDD := Lib.hid hd
  clear hr hn hd
  go_enter Tryz.func68, Tryz.ntmps68
  go_wp2
  go_loopw [3] (fun q wr => ∃ j : Nat, j ≤ vs.length ∧ q = .int .i64 (j : Int) ∧ Hid (Below w.heap.size w wr)) (fun q _ => vs.length - (intOf q).toNat)
  case atStart => exact ⟨0, Nat.zero_le _, rfl, Lib.hid (Below.refl _ _)⟩
  case round =>
    obtain ⟨j, hj, rfl, HB⟩ := hrel
    by_cases hlt : j < vs.length
    · obtain ⟨g, B, q, hA, r0, hB, -⟩ := (HR.out.below HB.out).at_ rfl hlt
      obtain ⟨nj, hnj⟩ : ∃ nj, n j = nj := ⟨_, rfl⟩
      have hnj1 := HN.out j
      have hdj := (HDD.out j hlt).below HB.out
      have hcl : (c j).length = nj := by rw [hdj.1, marks_len, hnj]
      rw [hnj] at hnj1 hdj
      rw [hcl] at r0
      have HBB := Lib.hid (nodes_of hB hdj (by rw [marks_len]; exact hnj1))
      have z0 := cell_lt r0
      subst hA
      clear hB hnj hcl hdj
      go_wp2_with fail
      go_region_held3 (fun W => W.cell? ⟨g, j, none⟩ = some (.slice B nj q) ∧ Below wr.heap.size wr W)
        (first
          | exact ⟨hc, hD⟩
          | exact ⟨r0, (Below.refl _ _).drew⟩
          | go_keep)
        (first
          | (go_at_call 81
             revert ho5
             intro ho5
             have hsm := same_yes B A5 (marks j 0 nj) q q5 w5 (HBB.out.below hD) (nodes_of (by rw [Arr, hd5.1, marks_len]; exact (own_reads ho5).2) hd5 (by rw [marks_len]; exact hnj1)) (by rw [marks_len]; exact hnj1) (marks_small _ _ _)
             rw [marks_len] at hsm
             refine hsm.mono ?_
             rintro e w6 ⟨rfl, hb6⟩
             have hc : w6.cell? ⟨g, j, none⟩ = some (.slice B nj q) := (hb6.cell (cell_lt hc)).trans hc
             replace hD := below_then hD hb6)
          | (go_at_call 86
             refine (mark0_any j nj (by omega) hnj1 _).mono ?_
             rintro e w5 ⟨A5, q5, ps5, rfl, ho5, hd5, hb5⟩
             have hD : Below wr.heap.size wr w5 := (Below.refl _ _).drew.trans hb5
             have hc : w5.cell? ⟨g, j, none⟩ = some (.slice B nj q) := (hD.cell z0).trans r0))
      have HD := Lib.hid hD
      clear hD hc ho5 hd5 hb5
      go_wp2_with fail
      go_roundw
      case rel => exact ⟨j + 1, by omega, by go_num, Lib.hid (below_then HB.out HD.out)⟩
      case measure => simp [intOf]; omega
    · have hje : j = vs.length := by omega
      subst hje
      go_wp2_with fail
      go_ret
      exact ⟨rfl, HB.out⟩

set_option maxRecDepth 100000 in
set_option maxHeartbeats 2000000 in
theorem still_any (X : Nat) (cs : Array Value) (vs was : List Value) (c c2 : Nat → List NC) (d : Nat → List Nd) (AK AW : Option Addr) (cK cW : Nat) (w : World) (hX : Blk w X 37 cs) (h1 : cs[10]? = some (.slice AK vs.length cK)) (h2 : cs[11]? = some (.slice AW was.length cW))
    (hk : rd w (.slice AK vs.length cK) vs c) (hw : rd w (.slice AW was.length cW) was c2) (hd : ∀ i, i < vs.length → Deeps w 0 (c i) (d i)) (hd2 : ∀ i, i < vs.length → Deeps w 0 (c2 i) (d i)) (hx : ∀ i, ∀ x ∈ d i, x.slots.length ≤ 100000 ∧ x.words.length ≤ 100000) (hwl : was.length = vs.length) (hv : vs.length ≤ 250) (hl : ∀ i, (c i).length ≤ 100000) :
    Calls Tryz.prog 50 #[.pointer (some ⟨X, 0, none⟩)] w fun e w' => e = .returned (.bool true) ∧ Below w.heap.size w w' := by
  have HK := Lib.hid hk
  have HW := Lib.hid hw
  have HL := Lib.hid hl
  have HD1 := Lib.hid hd
  have HD2 := Lib.hid hd2
  have HXX := Lib.hid hx
  have x0 := (hX.cell 10).trans h1
  have x1 := (hX.cell 11).trans h2
  have x2 := hX.lt
  have HX := Lib.hid (show ∀ W, Below w.heap.size w W → W.cell? ⟨X, 10, none⟩ = some (.slice AK vs.length cK) ∧ W.cell? ⟨X, 11, none⟩ = some (.slice AW was.length cW) ∧ X < W.heap.size from fun W hb =>
    ⟨(hb.cell (p := ⟨X, 10, none⟩) x2).trans x0, (hb.cell (p := ⟨X, 11, none⟩) x2).trans x1, Nat.lt_of_lt_of_le x2 hb.size⟩)
  clear hk hw hl hX h1 h2 x0 x1 x2 hd hd2 hx
  go_enter Tryz.func50, Tryz.ntmps50
  go_wp2
  go_loopw [3] (fun q wr => ∃ j : Nat, j ≤ vs.length ∧ q = .int .i64 (j : Int) ∧ Hid (Below w.heap.size w wr)) (fun q _ => vs.length - (intOf q).toNat)
  case atStart => exact ⟨0, Nat.zero_le _, rfl, Lib.hid (Below.refl _ _)⟩
  case round =>
    obtain ⟨j, hj, rfl, HB⟩ := hrel
    obtain ⟨x0, x1, x2⟩ := HX.out _ HB.out
    by_cases hlt : j < vs.length
    · obtain ⟨g, B, q, hA, r0, hB, -⟩ := (HK.out.below HB.out).at_ rfl hlt
      obtain ⟨g', B', q', hA', r0', hB', -⟩ := (HW.out.below HB.out).at_ rfl (by omega : j < was.length)
      have hwlt : (j : Int) < was.length := by omega
      have hn := HL.out j
      have hd1 := (HD1.out j hlt).below HB.out
      have hd2 := (HD2.out j hlt).below HB.out
      have hdl : (d j).length ≤ 100000 := by rw [← hd1.1]; exact hn
      have hcc : (c2 j).length = (c j).length := by rw [hd1.1, hd2.1]
      have N1 := Lib.hid (nodes_of hB hd1 hdl)
      have N2 := Lib.hid (nodes_of hB' hd2 hdl)
      have HSM := Lib.hid (fun (W : World) (hb : Below wr.heap.size wr W) => same_yes B B' (d j) q q' W (N1.out.below hb) (N2.out.below hb) hdl (HXX.out j))
      rw [← hd1.1] at HSM
      rw [hcc] at r0'
      clear hd1 hd2 hdl hcc
      subst hA hA'
      clear hB hB'
      have z0 := cell_lt r0
      have z1 := cell_lt r0'
      go_wp2_with fail
      go_region_held3 (fun W => W.cell? ⟨X, 10, none⟩ = some (.slice (some ⟨g, 0, none⟩) vs.length cK) ∧ W.cell? ⟨X, 11, none⟩ = some (.slice (some ⟨g', 0, none⟩) was.length cW) ∧ W.cell? ⟨g, j, none⟩ = some (.slice B (c j).length q) ∧ W.cell? ⟨g', j, none⟩ = some (.slice B' (c j).length q'))
        (first
          | exact ⟨x0, x1, r0, r0'⟩
          | exact hS
          | go_keep)
        (first
          | (go_at_call 81
             refine (HSM.out _ (Below.refl _ _).drew).mono ?_
             rintro e w6 ⟨rfl, hb6⟩
             have hD : Below wr.heap.size wr w6 := (Below.refl _ _).drew.trans hb6
             have hS : w6.cell? ⟨X, 10, none⟩ = some (.slice (some ⟨g, 0, none⟩) vs.length cK) ∧ w6.cell? ⟨X, 11, none⟩ = some (.slice (some ⟨g', 0, none⟩) was.length cW) ∧ w6.cell? ⟨g, j, none⟩ = some (.slice B (c j).length q) ∧ w6.cell? ⟨g', j, none⟩ = some (.slice B' (c j).length q') :=
               ⟨(hD.cell (p := ⟨X, 10, none⟩) x2).trans x0, (hD.cell (p := ⟨X, 11, none⟩) x2).trans x1, (hD.cell (p := ⟨g, j, none⟩) z0).trans r0, (hD.cell (p := ⟨g', j, none⟩) z1).trans r0'⟩))
      have HD := Lib.hid hD
      clear hD hS hb6
      go_wp2_with fail
      go_roundw
      case rel => exact ⟨j + 1, by omega, by go_num, Lib.hid (below_then HB.out HD.out)⟩
      case measure => simp [intOf]; omega
    · have hje : j = vs.length := by omega
      subst hje
      go_wp2_with fail
      go_ret
      exact ⟨rfl, HB.out⟩

end Go.Proofs.YtbelbhdhcgpcpaaGreatDoor.BkNodes
