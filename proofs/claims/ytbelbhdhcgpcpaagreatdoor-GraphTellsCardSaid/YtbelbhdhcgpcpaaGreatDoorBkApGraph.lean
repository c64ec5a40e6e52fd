/- Apart of a book that holds lists of numbers and of nodes. Printed by gen_apart2.py. -/
import Derived.Test.YtbelbhdhcgpcpaaGreatDoorBkNil
import Derived.Test.YtbelbhdhcgpcpaaGreatDoorBkNodes4
namespace Go.Proofs.YtbelbhdhcgpcpaaGreatDoor.BkNodes
open Go.RowKit Go.Proofs.YtbelbhdhcgpcpaaGreatDoor.Base Go.Proofs.YtbelbhdhcgpcpaaGreatDoor.Bk Go.Proofs.YtbelbhdhcgpcpaaGreatDoor.Gr
set_option linter.unusedVariables false
set_option linter.unusedSimpArgs false

theorem GS.rd_us {w wr : World} {vK o : Value} {vs us : List Value} {c g : Nat → List NC} {j : Nat} (h : GS w wr vK vs us c g j o) (hg : ∀ i, i < j → (g i).length = 72) : rd wr o us (fun i => c i ++ g i) := by
  have hlen : us.length = j := by have := h.row.1; simpa using this
  refine ⟨by rw [hlen]; exact own_zero h.row, fun i u hu => ?_⟩
  have hi : i < us.length := by
    rcases Nat.lt_or_ge i us.length with h | h
    · exact h
    · rw [List.getElem?_eq_none h] at hu; cases hu
  have h1 := (h.grown i u hu).1
  have hl : (c i ++ g i).length = (c i).length + 72 := by rw [List.length_append, hg i (by omega)]
  obtain ⟨A, k, rfl, _⟩ := own_form h1
  refine ⟨A, k, by rw [hl], ?_⟩
  have := (own_reads h1).2
  rw [Arr, hl]
  exact this
theorem GS.rd_vs {w wr : World} {vK o : Value} {vs us : List Value} {c g : Nat → List NC} (h : GS w wr vK vs us c g vs.length o) : rd wr vK vs c :=
  ⟨h.old, fun i v hi => by
    have hlt : i < vs.length := by
      rcases Nat.lt_or_ge i vs.length with h | h
      · exact h
      · rw [List.getElem?_eq_none h] at hi; cases hi
    exact h.done i v hi hlt⟩
theorem rd_mod {α : Type} {f : α → List Value} {st s : Nat} {w w' : World} {vK : Value} {vs : List Value} {c : Nat → List α} {S : Nat → Prop} (h : Rd w f st s vK vs c) (hm : Mod S w w') (h1 : ∀ b, vK.ownBlock = some b → ¬ S b) (h2 : ∀ b, InVs vs b → ¬ S b) : Rd w' f st s vK vs c :=
  ⟨own_mod h.row hm h1, fun i v hi => by
    obtain ⟨A, k, rfl, hr⟩ := h.reads i v hi
    exact ⟨A, k, rfl, reads_mod hr hm (fun ad e hS => h2 ad.block (InVs.of_get hi (by rw [e]; rfl)) hS)⟩⟩

/-- A book that holds lists of numbers (vI, cI) and of nodes (vN, raw cN, as nodes d); copies of them. -/
structure BG (w : World) (X : Nat) (cs : Array Value) (vI wI : List Value) (cI : Nat → List Int) (AI BI : Option Addr) (kI lI : Nat) (vN wN : List Value) (cN c2 : Nat → List NC) (d : Nat → List Nd) (AN BN : Option Addr) (kN lN : Nat) : Prop where
  blk : Blk w X 37 cs
  i : BkInts.BK w X cs vI wI cI AI BI kI lI
  n : BK w X cs vN wN cN c2 AN BN kN lN
  deep : ∀ i, i < vN.length → Deeps w 0 (cN i) (d i)
  deep2 : ∀ i, i < vN.length → Deeps w 0 (c2 i) (d i)
  rest : ∀ i, i < 12 → i ≠ 2 → i ≠ 3 → i ≠ 10 → i ≠ 11 → cs[i]? = some (.slice none 0 0)
theorem BG.below {w w' : World} {X : Nat} {cs : Array Value} {vI wI : List Value} {cI : Nat → List Int} {AI BI : Option Addr} {kI lI : Nat} {vN wN : List Value} {cN c2 : Nat → List NC} {d : Nat → List Nd} {AN BN : Option Addr} {kN lN : Nat} (h : BG w X cs vI wI cI AI BI kI lI vN wN cN c2 d AN BN kN lN) (hb : Below w.heap.size w w') : BG w' X cs vI wI cI AI BI kI lI vN wN cN c2 d AN BN kN lN :=
  ⟨h.blk.below hb h.blk.lt, h.i.below hb, h.n.below hb, fun i hi => (h.deep i hi).below hb, fun i hi => (h.deep2 i hi).below hb, h.rest⟩
/-- The blocks of all its lists. -/
def InG (vI vN : List Value) (b : Nat) : Prop := InVs vI b ∨ InVs vN b
set_option maxRecDepth 100000 in
set_option maxHeartbeats 8000000 in
theorem apart_any (X : Nat) (cs : Array Value) (vI wI : List Value) (cI : Nat → List Int) (AI BI : Option Addr) (kI lI : Nat) (vN wN : List Value) (cN c2 : Nat → List NC) (d : Nat → List Nd) (AN BN : Option Addr) (kN lN : Nat) (w : World)
    (h : BG w X cs vI wI cI AI BI kI lI vN wN cN c2 d AN BN kN lN) (hvI : vI.length ≤ 250) (hvN : vN.length ≤ 250) (hlI : ∀ i, (cI i).length ≤ 90000) (hlN : ∀ i, (cN i).length ≤ 90000) (hx : ∀ i, ∀ x ∈ d i, x.slots.length ≤ 100000 ∧ x.words.length ≤ 100000) :
    Calls Tryz.prog 21 #[.pointer (some ⟨X, 0, none⟩)] w fun e w' => e = .returned (.bool true) ∧ Mod (InG vI vN) w w' := by
  have hXI : ¬ InVs vI X := by
    rintro ⟨v, hv, hb⟩
    obtain ⟨i, hi⟩ := List.mem_iff_getElem?.1 hv
    exact own_blk_ne (h.i.kept.own i v hi) h.blk (by decide) hb
  have hXN : ¬ InVs vN X := by
    rintro ⟨v, hv, hb⟩
    obtain ⟨i, hi⟩ := List.mem_iff_getElem?.1 hv
    exact own_blk_ne (h.n.kept.own i v hi) h.blk (by decide) hb
  have hdis : ∀ b, InVs vI b → ¬ InVs vN b := by
    rintro b ⟨v, hv, hb⟩ ⟨u, hu, hb'⟩
    obtain ⟨i, hi⟩ := List.mem_iff_getElem?.1 hv
    obtain ⟨j, hj⟩ := List.mem_iff_getElem?.1 hu
    exact own_type (h.i.kept.own i v hi) (h.n.kept.own j u hj) (by decide) b hb hb'
  have hltI : ∀ b, InVs vI b → b < w.heap.size := h.i.kept.block
  have hltN : ∀ b, InVs vN b → b < w.heap.size := h.n.kept.block
  have HH := Lib.hid h
  have HX := Lib.hid h.blk
  have HXI := Lib.hid hXI
  have HXN := Lib.hid hXN
  have HDIS := Lib.hid hdis
  have HLI := Lib.hid hltI
  have HLN := Lib.hid hltN
  have HcI := Lib.hid hlI
  have HcN := Lib.hid hlN
  have HXX := Lib.hid hx

  have HTexts := Lib.hid (h.rest 0 (by decide) (by decide) (by decide) (by decide) (by decide))
  have HChanges := Lib.hid (h.rest 4 (by decide) (by decide) (by decide) (by decide) (by decide))
  have HEntries := Lib.hid (h.rest 6 (by decide) (by decide) (by decide) (by decide) (by decide))
  have HCodes := Lib.hid (h.rest 8 (by decide) (by decide) (by decide) (by decide) (by decide))
  clear h hXI hXN hdis hltI hltN hlI hlN hx
  go_enter Tryz.func21, Tryz.ntmps21
  go_wp2_with fail
  refine (BkNil.still_Texts HX.out HTexts.out).mono ?_
  rintro e w9 ⟨rfl, h9⟩
  rw [h9]
  clear h9 w9
  go_wp2_with fail
  refine (BkInts.still_any X cs vI wI cI AI BI kI lI w HX.out HH.out.i.k0 HH.out.i.k1 HH.out.i.kept.rd HH.out.i.was_.rd HH.out.i.len hvI (fun i => by have := HcI.out i; omega)).mono ?_
  rintro e w1 ⟨rfl, hb1⟩
  have HG1 := Lib.hid (HH.out.below hb1)
  have HX1 := Lib.hid HG1.out.blk
  have HB1 := Lib.hid hb1
  clear hb1
  go_wp2_with fail
  refine (BkNil.still_Changes HX1.out HChanges.out).mono ?_
  rintro e w9 ⟨rfl, h9⟩
  rw [h9]
  clear h9 w9
  go_wp2_with fail
  refine (BkNil.still_Entries HX1.out HEntries.out).mono ?_
  rintro e w9 ⟨rfl, h9⟩
  rw [h9]
  clear h9 w9
  go_wp2_with fail
  refine (BkNil.still_Codes HX1.out HCodes.out).mono ?_
  rintro e w9 ⟨rfl, h9⟩
  rw [h9]
  clear h9 w9
  go_wp2_with fail
  refine (still_any X cs vN wN cN c2 d AN BN kN lN w1 HX1.out HG1.out.n.k0 HG1.out.n.k1 HG1.out.n.kept.rd HG1.out.n.was_.rd HG1.out.deep HG1.out.deep2 HXX.out HG1.out.n.len hvN (fun i => by have := HcN.out i; omega)).mono ?_
  rintro e w2 ⟨rfl, hb2⟩
  have HG2 := Lib.hid (HG1.out.below hb2)
  have HX2 := Lib.hid HG2.out.blk
  have HB2 := Lib.hid (below_then HB1.out hb2)
  have hz2 := HB2.out.size
  clear hb2
  go_wp2_with fail
  refine (put_any X cs vN cN AN kN w2 HX2.out HG2.out.n.k0 HG2.out.n.kept hvN (fun i => by have := HcN.out i; omega)).mono ?_
  rintro e w3 ⟨rfl, c3, hk3, hd3, hm3⟩
  have HX3 := Lib.hid (HX2.out.mod hm3 HXN.out)
  have HKN3 := Lib.hid hk3
  have HDN3 := Lib.hid hd3
  have HKI3 := Lib.hid (Kd.mod HG2.out.i.kept hm3 (fun b hb ⟨v, hv, hvb⟩ => by
    obtain ⟨i, hi⟩ := List.mem_iff_getElem?.1 hv
    exact own_type (HG2.out.n.kept.own i v hi) HG2.out.i.kept.row (by decide) b hvb hb) (fun b hb hS => HDIS.out b hb hS))
  have HM3 := Lib.hid (show Mod (InG vI vN) w w3 from Mod.trans (Mod.of_below HB2.out) hm3 (fun b _ hS => .inr hS))
  clear hk3 hd3 hm3
  go_wp2_with fail
  refine (BkNil.put_Texts HX3.out HTexts.out).mono ?_
  rintro e w9 ⟨rfl, h9⟩
  rw [h9]
  clear h9 w9
  go_wp2_with fail
  refine (BkInts.put_any X cs vI cI AI kI w3 HX3.out HH.out.i.k0 HKI3.out hvI (fun i => by have := HcI.out i; omega)).mono ?_
  rintro e w4 ⟨rfl, hk4, hm4⟩
  have HX4 := Lib.hid (HX3.out.mod hm4 HXI.out)
  have HKI4 := Lib.hid hk4
  have HKN4 := Lib.hid (Kd.mod HKN3.out hm4 (fun b hb ⟨v, hv, hvb⟩ => by
    obtain ⟨i, hi⟩ := List.mem_iff_getElem?.1 hv
    exact own_type (HKI3.out.own i v hi) HKN3.out.row (by decide) b hvb hb) (fun b hb hS => HDIS.out b hS hb))
  have HDN4 := Lib.hid (show ∀ i, i < vN.length → Deeps w4 w2.heap.size (c3 i) (marks i 0 (cN i).length) from fun i hi => (HDN3.out i hi).mod hm4 (fun b hb => .inl (by have := HLI.out b hb; omega)))
  have HM4 := Lib.hid (show Mod (InG vI vN) w w4 from Mod.trans HM3.out hm4 (fun b _ hS => .inl hS))
  clear hk4 hm4
  go_wp2_with fail
  refine (BkNil.put_Changes HX4.out HChanges.out).mono ?_
  rintro e w9 ⟨rfl, h9⟩
  rw [h9]
  clear h9 w9
  go_wp2_with fail
  refine (BkNil.put_Entries HX4.out HEntries.out).mono ?_
  rintro e w9 ⟨rfl, h9⟩
  rw [h9]
  clear h9 w9
  go_wp2_with fail
  refine (BkNil.put_Codes HX4.out HCodes.out).mono ?_
  rintro e w9 ⟨rfl, h9⟩
  rw [h9]
  clear h9 w9
  go_wp2_with fail
  refine (BkNil.grow_Texts HX4.out HTexts.out).mono ?_
  rintro e w9 ⟨rfl, h9⟩
  rw [h9]
  clear h9 w9
  go_wp2_with fail
  refine (BkInts.grow_any X cs vI (fun i => BkInts.marks i 0 (cI i).length) AI kI w4 HX4.out HH.out.i.k0 HKI4.out hvI (fun i => by rw [BkInts.marks_len]; have := HcI.out i; omega)).mono ?_
  rintro e w5 ⟨v5, us5, rfl, hus5, hg5⟩
  obtain ⟨A5, k5, rfl, hk5⟩ := own_form hg5.row
  have HG5 := Lib.hid hg5
  have HX5 := Lib.hid (HX4.out.mod hg5.mod HXI.out)
  have HKN5 := Lib.hid (Kd.mod HKN4.out hg5.mod (fun b hb ⟨v, hv, hvb⟩ => by
    obtain ⟨i, hi⟩ := List.mem_iff_getElem?.1 hv
    exact own_type (HKI4.out.own i v hi) HKN4.out.row (by decide) b hvb hb) (fun b hb hS => HDIS.out b hS hb))
  have HDN5 := Lib.hid (show ∀ i, i < vN.length → Deeps w5 w2.heap.size (c3 i) (marks i 0 (cN i).length) from fun i hi => (HDN4.out i hi).mod hg5.mod (fun b hb => .inl (by have := HLI.out b hb; omega)))
  have HM5 := Lib.hid (show Mod (InG vI vN) w w5 from Mod.trans HM4.out hg5.mod (fun b _ hS => .inl hS))
  have HRU := Lib.hid hg5.rd_us
  have HRV := Lib.hid hg5.rd_vs
  have huv5 : us5.length ≤ 250 := by omega
  have HUB := Lib.hid (show ∀ b, InVs us5 b → ¬ InVs vN b from fun b ⟨u, hu, hub⟩ hS => by
    obtain ⟨i, hi⟩ := List.mem_iff_getElem?.1 hu
    rcases (hg5.grown i u hi).2 b hub with h1 | ⟨q, h1, h2⟩
    · have h3 := HLN.out b hS
      have h4 := HM4.out.size
      omega
    · exact HDIS.out b (InVs.of_get h1 h2) hS)
  have HOB := Lib.hid (show ∀ b, (Value.slice A5 vI.length k5).ownBlock = some b → ¬ InVs vN b from fun b hb hS => by
    have h1 := (own_block hg5.row b hb).1
    have h3 := HLN.out b hS
    have h4 := HM4.out.size
    omega)
  have HKB := Lib.hid (show ∀ b, (Value.slice AI vI.length kI).ownBlock = some b → ¬ InVs vN b from fun b hb ⟨v, hv, hvb⟩ => by
    obtain ⟨i, hi⟩ := List.mem_iff_getElem?.1 hv
    exact own_type (HKN5.out.own i v hi) hg5.old (by decide) b hvb hb)
  clear hg5
  go_wp2_with fail
  refine (BkNil.grow_Changes HX5.out HChanges.out).mono ?_
  rintro e w9 ⟨rfl, h9⟩
  rw [h9]
  clear h9 w9
  go_wp2_with fail
  refine (BkNil.grow_Entries HX5.out HEntries.out).mono ?_
  rintro e w9 ⟨rfl, h9⟩
  rw [h9]
  clear h9 w9
  go_wp2_with fail
  refine (BkNil.grow_Codes HX5.out HCodes.out).mono ?_
  rintro e w9 ⟨rfl, h9⟩
  rw [h9]
  clear h9 w9
  have hcl : ∀ i, i < vN.length → (c3 i).length = (cN i).length := fun i hi => by rw [(HDN5.out i hi).1, marks_len]
  have HCL := Lib.hid hcl
  clear hcl
  have hkn5 : kd w5 (.slice AN vN.length kN) vN (fun i => if i < vN.length then c3 i else []) := HKN5.out.congr (fun i hi => by rw [if_pos hi])
  have HKN6 := Lib.hid hkn5
  clear hkn5
  go_wp2_with fail
  refine (grow_any X cs vN _ AN kN w5 HX5.out HH.out.n.k0 HKN6.out hvN (fun i => by
    split
    · rename_i hi
      rw [HCL.out i hi]
      have := HcN.out i
      omega
    · simp)).mono ?_
  rintro e w6 ⟨v6, us6, g6, rfl, hus6, hg6⟩
  obtain ⟨A6, k6, rfl, hk6⟩ := own_form hg6.row
  have HG6 := Lib.hid hg6
  have HX6 := Lib.hid (HX5.out.mod hg6.mod HXN.out)
  have HM6 := Lib.hid (show Mod (InG vI vN) w w6 from Mod.trans HM5.out hg6.mod (fun b _ hS => .inr hS))
  have huv6 : us6.length ≤ 250 := by omega
  have hgl : ∀ i, i < vN.length → (g6 i).length = 72 := fun i hi => by rw [(hg6.deep i hi).1, marks_len]
  have HR6 := Lib.hid (hg6.rd_us hgl)
  have HV6 := Lib.hid hg6.rd_vs
  have hni : ∀ b, InVs vN b → b < 0 ∨ NotInt w5 b := fun b hb => .inr (vs_notint HKN6.out b hb)
  have HD6 := Lib.hid (show ∀ i, i < vN.length → Deeps w6 0 (c3 i) (marks i 0 (cN i).length) from fun i hi => ((HDN5.out i hi).low (Nat.zero_le _)).mod hg6.mod hni)
  have HE6 := Lib.hid (show ∀ i, i < vN.length → Deeps w6 0 ((if i < vN.length then c3 i else []) ++ g6 i) (marks i 0 ((cN i).length + 72)) from fun i hi => by
    have h1 := (HD6.out i hi).app ((hg6.deep i hi).low (Nat.zero_le _))
    rw [if_pos hi] at h1
    rw [if_pos hi]
    rw [HCL.out i hi] at h1
    have e := marks_append i 0 (cN i).length 72
    rw [Nat.zero_add] at e
    rw [e] at h1
    exact h1)
  have HRU6 := Lib.hid (rd_mod HRU.out hg6.mod (by rw [hus5] at *; exact HOB.out) HUB.out)
  have HRV6 := Lib.hid (rd_mod HRV.out hg6.mod HKB.out HDIS.out)
  clear hg6 hgl hni
  have xTexts := (HX6.out.cell 0).trans HTexts.out
  have xInts := (HX6.out.cell 2).trans HH.out.i.k0
  have xChanges := (HX6.out.cell 4).trans HChanges.out
  have xEntries := (HX6.out.cell 6).trans HEntries.out
  have xCodes := (HX6.out.cell 8).trans HCodes.out
  have xNodes := (HX6.out.cell 10).trans HH.out.n.k0
  have zX := HX6.out.lt
  go_wp2_with fail
  refine BkNil.marked_Texts.mono ?_
  rintro e w9 ⟨rfl, h9⟩
  rw [h9]
  clear h9 w9
  go_wp2_with fail
  refine BkNil.marked_Texts.mono ?_
  rintro e w9 ⟨rfl, h9⟩
  rw [h9]
  clear h9 w9
  go_wp2_with fail
  have hmu := BkInts.marked_any A5 k5 us5 (fun i => (cI i).length + 72) w6 (by rw [hus5]; exact HRU6.out) huv5 (fun i => by have := HcI.out i; omega)
  rw [hus5] at hmu
  refine hmu.mono ?_
  rintro e w7 ⟨rfl, hb7⟩
  have HX7 := Lib.hid (HX6.out.below hb7 HX6.out.lt)
  have HM7 := Lib.hid (mod_below HM6.out hb7)
  have HB7 := Lib.hid hb7
  clear hb7 hmu
  have xTexts := (HX7.out.cell 0).trans HTexts.out
  have xInts := (HX7.out.cell 2).trans HH.out.i.k0
  have xChanges := (HX7.out.cell 4).trans HChanges.out
  have xEntries := (HX7.out.cell 6).trans HEntries.out
  have xCodes := (HX7.out.cell 8).trans HCodes.out
  have xNodes := (HX7.out.cell 10).trans HH.out.n.k0
  have zX := HX7.out.lt
  go_wp2_with fail
  refine (BkInts.marked_any AI kI vI (fun i => (cI i).length) w7 (HRV6.out.below HB7.out) hvI (fun i => by have := HcI.out i; omega)).mono ?_
  rintro e w8 ⟨rfl, hb8⟩
  have HX8 := Lib.hid (HX7.out.below hb8 HX7.out.lt)
  have HM8 := Lib.hid (mod_below HM7.out hb8)
  have HB8 := Lib.hid (below_then HB7.out hb8)
  clear hb8
  have xTexts := (HX8.out.cell 0).trans HTexts.out
  have xInts := (HX8.out.cell 2).trans HH.out.i.k0
  have xChanges := (HX8.out.cell 4).trans HChanges.out
  have xEntries := (HX8.out.cell 6).trans HEntries.out
  have xCodes := (HX8.out.cell 8).trans HCodes.out
  have xNodes := (HX8.out.cell 10).trans HH.out.n.k0
  have zX := HX8.out.lt
  go_wp2_with fail
  refine BkNil.marked_Changes.mono ?_
  rintro e w9 ⟨rfl, h9⟩
  rw [h9]
  clear h9 w9
  go_wp2_with fail
  refine BkNil.marked_Changes.mono ?_
  rintro e w9 ⟨rfl, h9⟩
  rw [h9]
  clear h9 w9
  go_wp2_with fail
  refine BkNil.marked_Entries.mono ?_
  rintro e w9 ⟨rfl, h9⟩
  rw [h9]
  clear h9 w9
  go_wp2_with fail
  refine BkNil.marked_Entries.mono ?_
  rintro e w9 ⟨rfl, h9⟩
  rw [h9]
  clear h9 w9
  go_wp2_with fail
  refine BkNil.marked_Codes.mono ?_
  rintro e w9 ⟨rfl, h9⟩
  rw [h9]
  clear h9 w9
  go_wp2_with fail
  refine BkNil.marked_Codes.mono ?_
  rintro e w9 ⟨rfl, h9⟩
  rw [h9]
  clear h9 w9
  go_wp2_with fail
  have hmu := marked_any A6 k6 us6 _ (fun i => (cN i).length + 72) w8 (by rw [hus6]; exact HR6.out.below HB8.out) (fun i hi => (HE6.out i (by omega)).below HB8.out) huv6 (fun i => by have := HcN.out i; omega)
  rw [hus6] at hmu
  refine hmu.mono ?_
  rintro e w10 ⟨rfl, hb10⟩
  have HX10 := Lib.hid (HX8.out.below hb10 HX8.out.lt)
  have HM10 := Lib.hid (mod_below HM8.out hb10)
  have HB10 := Lib.hid (below_then HB8.out hb10)
  clear hb10 hmu
  have xTexts := (HX10.out.cell 0).trans HTexts.out
  have xInts := (HX10.out.cell 2).trans HH.out.i.k0
  have xChanges := (HX10.out.cell 4).trans HChanges.out
  have xEntries := (HX10.out.cell 6).trans HEntries.out
  have xCodes := (HX10.out.cell 8).trans HCodes.out
  have xNodes := (HX10.out.cell 10).trans HH.out.n.k0
  have zX := HX10.out.lt
  go_wp2_with fail
  refine (marked_any AN kN vN _ (fun i => (cN i).length) w10 (HV6.out.below HB10.out) (fun i hi => by rw [if_pos hi]; exact (HD6.out i hi).below HB10.out) hvN (fun i => by have := HcN.out i; omega)).mono ?_
  rintro e w11 ⟨rfl, hb11⟩
  have HM11 := Lib.hid (mod_below HM10.out hb11)
  clear hb11
  go_wp2_with fail
  go_ret
  exact ⟨rfl, HM11.out⟩
end Go.Proofs.YtbelbhdhcgpcpaaGreatDoor.BkNodes
