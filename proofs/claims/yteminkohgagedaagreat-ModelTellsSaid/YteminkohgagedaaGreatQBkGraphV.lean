/- A book that keeps graphs, of which some may be older than the book (their blocks are in V): BookG.start, ints_add, graph_add, bookg_apart. -/
import Derived.Test.YteminkohgagedaaGreatQBkNil
import Derived.Test.YteminkohgagedaaGreatQBkNodes4
namespace Go.Proofs.YteminkohgagedaaGreat.BkNodes
open Go.RowKit Go.Proofs.YteminkohgagedaaGreat.Base Go.Proofs.YteminkohgagedaaGreat.Bk Go.Proofs.YteminkohgagedaaGreat.Gr
set_option linter.unusedVariables false
set_option linter.unusedSimpArgs false

theorem GS.rd_us {w wr : World} {vK o : Value} {vs us : List Value} {c g : Nat → List NC} {j : Nat} (h : GS w wr vK vs us c g j o) (hg : ∀ i, i < j → (g i).length = 72) : rd wr o us (fun i => c i ++ g i) := by
  have hlen : us.length = j := by have := h.row.1; simpa using this
  refine ⟨by rw [hlen]; exact own_zero h.row, fun i u hu => ?_⟩
  have hi : i < us.length := by
    rcases Nat.lt_or_ge i us.length with h | h
    · exact h
    · rw [List.getElem?_eq_none h] at hu; cases hu
  have h1 := (h.grown i u hu).1
  have hl : (c i ++ g i).length = (c i).length + 72 := by rw [List.length_append, hg i (by omega)]
  obtain ⟨A, k, rfl, _⟩ := own_form h1
  refine ⟨A, k, by rw [hl], ?_⟩
  have := (own_reads h1).2
  rw [Arr, hl]
  exact this
theorem GS.rd_vs {w wr : World} {vK o : Value} {vs us : List Value} {c g : Nat → List NC} (h : GS w wr vK vs us c g vs.length o) : rd wr vK vs c :=
  ⟨h.old, fun i v hi => by
    have hlt : i < vs.length := by
      rcases Nat.lt_or_ge i vs.length with h | h
      · exact h
      · rw [List.getElem?_eq_none h] at hi; cases hi
    exact h.done i v hi hlt⟩
theorem rd_mod {α : Type} {f : α → List Value} {st s : Nat} {w w' : World} {vK : Value} {vs : List Value} {c : Nat → List α} {S : Nat → Prop} (h : Rd w f st s vK vs c) (hm : Mod S w w') (h1 : ∀ b, vK.ownBlock = some b → ¬ S b) (h2 : ∀ b, InVs vs b → ¬ S b) : Rd w' f st s vK vs c :=
  ⟨own_mod h.row hm h1, fun i v hi => by
    obtain ⟨A, k, rfl, hr⟩ := h.reads i v hi
    exact ⟨A, k, rfl, reads_mod hr hm (fun ad e hS => h2 ad.block (InVs.of_get hi (by rw [e]; rfl)) hS)⟩⟩

/-- A book that holds lists of numbers (vI, cI) and of nodes (vN, raw cN, as nodes d); copies of them. -/
structure BG (w : World) (X : Nat) (cs : Array Value) (vI wI : List Value) (cI : Nat → List Int) (AI BI : Option Addr) (kI lI : Nat) (vN wN : List Value) (cN c2 : Nat → List NC) (d : Nat → List Nd) (AN BN : Option Addr) (kN lN : Nat) : Prop where
  blk : Blk w X 39 cs
  i : BkInts.BK w X cs vI wI cI AI BI kI lI
  n : BK w X cs vN wN cN c2 AN BN kN lN
  deep : ∀ i, i < vN.length → Deeps w 0 (cN i) (d i)
  deep2 : ∀ i, i < vN.length → Deeps w 0 (c2 i) (d i)
  rest : ∀ i, i < 12 → i ≠ 2 → i ≠ 3 → i ≠ 10 → i ≠ 11 → cs[i]? = some (.slice none 0 0)
theorem BG.below {w w' : World} {X : Nat} {cs : Array Value} {vI wI : List Value} {cI : Nat → List Int} {AI BI : Option Addr} {kI lI : Nat} {vN wN : List Value} {cN c2 : Nat → List NC} {d : Nat → List Nd} {AN BN : Option Addr} {kN lN : Nat} (h : BG w X cs vI wI cI AI BI kI lI vN wN cN c2 d AN BN kN lN) (hb : Below w.heap.size w w') : BG w' X cs vI wI cI AI BI kI lI vN wN cN c2 d AN BN kN lN :=
  ⟨h.blk.below hb h.blk.lt, h.i.below hb, h.n.below hb, fun i hi => (h.deep i hi).below hb, fun i hi => (h.deep2 i hi).below hb, h.rest⟩
/-- The blocks of all its lists. -/
def InG (vI vN : List Value) (b : Nat) : Prop := InVs vI b ∨ InVs vN b
set_option maxRecDepth 100000 in
set_option maxHeartbeats 8000000 in
theorem apart_any (X : Nat) (cs : Array Value) (vI wI : List Value) (cI : Nat → List Int) (AI BI : Option Addr) (kI lI : Nat) (vN wN : List Value) (cN c2 : Nat → List NC) (d : Nat → List Nd) (AN BN : Option Addr) (kN lN : Nat) (w : World)
    (h : BG w X cs vI wI cI AI BI kI lI vN wN cN c2 d AN BN kN lN) (hvI : vI.length ≤ 250) (hvN : vN.length ≤ 250) (hlI : ∀ i, (cI i).length ≤ 90000) (hlN : ∀ i, (cN i).length ≤ 90000) (hx : ∀ i, ∀ x ∈ d i, x.slots.length ≤ 100000 ∧ x.words.length ≤ 100000) :
    Calls Tryz.prog 19 #[.pointer (some ⟨X, 0, none⟩)] w fun e w' => e = .returned (.bool true) ∧ Mod (InG vI vN) w w' := by
  have hXI : ¬ InVs vI X := by
    rintro ⟨v, hv, hb⟩
    obtain ⟨i, hi⟩ := List.mem_iff_getElem?.1 hv
    exact own_blk_ne (h.i.kept.own i v hi) h.blk (by decide) hb
  have hXN : ¬ InVs vN X := by
    rintro ⟨v, hv, hb⟩
    obtain ⟨i, hi⟩ := List.mem_iff_getElem?.1 hv
    exact own_blk_ne (h.n.kept.own i v hi) h.blk (by decide) hb
  have hdis : ∀ b, InVs vI b → ¬ InVs vN b := by
    rintro b ⟨v, hv, hb⟩ ⟨u, hu, hb'⟩
    obtain ⟨i, hi⟩ := List.mem_iff_getElem?.1 hv
    obtain ⟨j, hj⟩ := List.mem_iff_getElem?.1 hu
    exact own_type (h.i.kept.own i v hi) (h.n.kept.own j u hj) (by decide) b hb hb'
  have hltI : ∀ b, InVs vI b → b < w.heap.size := h.i.kept.block
  have hltN : ∀ b, InVs vN b → b < w.heap.size := h.n.kept.block
  have HH := Lib.hid h
  have HX := Lib.hid h.blk
  have HXI := Lib.hid hXI
  have HXN := Lib.hid hXN
  have HDIS := Lib.hid hdis
  have HLI := Lib.hid hltI
  have HLN := Lib.hid hltN
  have HcI := Lib.hid hlI
  have HcN := Lib.hid hlN
  have HXX := Lib.hid hx

  have HTexts := Lib.hid (h.rest 0 (by decide) (by decide) (by decide) (by decide) (by decide))
  have HChanges := Lib.hid (h.rest 4 (by decide) (by decide) (by decide) (by decide) (by decide))
  have HEntries := Lib.hid (h.rest 6 (by decide) (by decide) (by decide) (by decide) (by decide))
  have HCodes := Lib.hid (h.rest 8 (by decide) (by decide) (by decide) (by decide) (by decide))
  clear h hXI hXN hdis hltI hltN hlI hlN hx
  go_enter Tryz.func19, Tryz.ntmps19
  go_wp2_with fail
  refine (BkNil.still_Texts HX.out HTexts.out).mono ?_
  rintro e w9 ⟨rfl, h9⟩
  rw [h9]
  clear h9 w9
  go_wp2_with fail
  refine (BkInts.still_any X cs vI wI cI AI BI kI lI w HX.out HH.out.i.k0 HH.out.i.k1 HH.out.i.kept.rd HH.out.i.was_.rd HH.out.i.len hvI (fun i => by have := HcI.out i; omega)).mono ?_
  rintro e w1 ⟨rfl, hb1⟩
  have HG1 := Lib.hid (HH.out.below hb1)
  have HX1 := Lib.hid HG1.out.blk
  have HB1 := Lib.hid hb1
  clear hb1
  go_wp2_with fail
  refine (BkNil.still_Changes HX1.out HChanges.out).mono ?_
  rintro e w9 ⟨rfl, h9⟩
  rw [h9]
  clear h9 w9
  go_wp2_with fail
  refine (BkNil.still_Entries HX1.out HEntries.out).mono ?_
  rintro e w9 ⟨rfl, h9⟩
  rw [h9]
  clear h9 w9
  go_wp2_with fail
  refine (BkNil.still_Codes HX1.out HCodes.out).mono ?_
  rintro e w9 ⟨rfl, h9⟩
  rw [h9]
  clear h9 w9
  go_wp2_with fail
  refine (still_any X cs vN wN cN c2 d AN BN kN lN w1 HX1.out HG1.out.n.k0 HG1.out.n.k1 HG1.out.n.kept.rd HG1.out.n.was_.rd HG1.out.deep HG1.out.deep2 HXX.out HG1.out.n.len hvN (fun i => by have := HcN.out i; omega)).mono ?_
  rintro e w2 ⟨rfl, hb2⟩
  have HG2 := Lib.hid (HG1.out.below hb2)
  have HX2 := Lib.hid HG2.out.blk
  have HB2 := Lib.hid (below_then HB1.out hb2)
  have hz2 := HB2.out.size
  clear hb2
  go_wp2_with fail
  refine (put_any X cs vN cN AN kN w2 HX2.out HG2.out.n.k0 HG2.out.n.kept hvN (fun i => by have := HcN.out i; omega)).mono ?_
  rintro e w3 ⟨rfl, c3, hk3, hd3, hm3⟩
  have HX3 := Lib.hid (HX2.out.mod hm3 HXN.out)
  have HKN3 := Lib.hid hk3
  have HDN3 := Lib.hid hd3
  have HKI3 := Lib.hid (Kd.mod HG2.out.i.kept hm3 (fun b hb ⟨v, hv, hvb⟩ => by
    obtain ⟨i, hi⟩ := List.mem_iff_getElem?.1 hv
    exact own_type (HG2.out.n.kept.own i v hi) HG2.out.i.kept.row (by decide) b hvb hb) (fun b hb hS => HDIS.out b hb hS))
  have HM3 := Lib.hid (show Mod (InG vI vN) w w3 from Mod.trans (Mod.of_below HB2.out) hm3 (fun b _ hS => .inr hS))
  clear hk3 hd3 hm3
  go_wp2_with fail
  refine (BkNil.put_Texts HX3.out HTexts.out).mono ?_
  rintro e w9 ⟨rfl, h9⟩
  rw [h9]
  clear h9 w9
  go_wp2_with fail
  refine (BkInts.put_any X cs vI cI AI kI w3 HX3.out HH.out.i.k0 HKI3.out hvI (fun i => by have := HcI.out i; omega)).mono ?_
  rintro e w4 ⟨rfl, hk4, hm4⟩
  have HX4 := Lib.hid (HX3.out.mod hm4 HXI.out)
  have HKI4 := Lib.hid hk4
  have HKN4 := Lib.hid (Kd.mod HKN3.out hm4 (fun b hb ⟨v, hv, hvb⟩ => by
    obtain ⟨i, hi⟩ := List.mem_iff_getElem?.1 hv
    exact own_type (HKI3.out.own i v hi) HKN3.out.row (by decide) b hvb hb) (fun b hb hS => HDIS.out b hS hb))
  have HDN4 := Lib.hid (show ∀ i, i < vN.length → Deeps w4 w2.heap.size (c3 i) (marks i 0 (cN i).length) from fun i hi => (HDN3.out i hi).mod hm4 (fun b hb => .inl (by have := HLI.out b hb; omega)))
  have HM4 := Lib.hid (show Mod (InG vI vN) w w4 from Mod.trans HM3.out hm4 (fun b _ hS => .inl hS))
  clear hk4 hm4
  go_wp2_with fail
  refine (BkNil.put_Changes HX4.out HChanges.out).mono ?_
  rintro e w9 ⟨rfl, h9⟩
  rw [h9]
  clear h9 w9
  go_wp2_with fail
  refine (BkNil.put_Entries HX4.out HEntries.out).mono ?_
  rintro e w9 ⟨rfl, h9⟩
  rw [h9]
  clear h9 w9
  go_wp2_with fail
  refine (BkNil.put_Codes HX4.out HCodes.out).mono ?_
  rintro e w9 ⟨rfl, h9⟩
  rw [h9]
  clear h9 w9
  go_wp2_with fail
  refine (BkNil.grow_Texts HX4.out HTexts.out).mono ?_
  rintro e w9 ⟨rfl, h9⟩
  rw [h9]
  clear h9 w9
  go_wp2_with fail
  refine (BkInts.grow_any X cs vI (fun i => BkInts.marks i 0 (cI i).length) AI kI w4 HX4.out HH.out.i.k0 HKI4.out hvI (fun i => by rw [BkInts.marks_len]; have := HcI.out i; omega)).mono ?_
  rintro e w5 ⟨v5, us5, rfl, hus5, hg5⟩
  obtain ⟨A5, k5, rfl, hk5⟩ := own_form hg5.row
  have HG5 := Lib.hid hg5
  have HX5 := Lib.hid (HX4.out.mod hg5.mod HXI.out)
  have HKN5 := Lib.hid (Kd.mod HKN4.out hg5.mod (fun b hb ⟨v, hv, hvb⟩ => by
    obtain ⟨i, hi⟩ := List.mem_iff_getElem?.1 hv
    exact own_type (HKI4.out.own i v hi) HKN4.out.row (by decide) b hvb hb) (fun b hb hS => HDIS.out b hS hb))
  have HDN5 := Lib.hid (show ∀ i, i < vN.length → Deeps w5 w2.heap.size (c3 i) (marks i 0 (cN i).length) from fun i hi => (HDN4.out i hi).mod hg5.mod (fun b hb => .inl (by have := HLI.out b hb; omega)))
  have HM5 := Lib.hid (show Mod (InG vI vN) w w5 from Mod.trans HM4.out hg5.mod (fun b _ hS => .inl hS))
  have HRU := Lib.hid hg5.rd_us
  have HRV := Lib.hid hg5.rd_vs
  have huv5 : us5.length ≤ 250 := by omega
  have HUB := Lib.hid (show ∀ b, InVs us5 b → ¬ InVs vN b from fun b ⟨u, hu, hub⟩ hS => by
    obtain ⟨i, hi⟩ := List.mem_iff_getElem?.1 hu
    rcases (hg5.grown i u hi).2 b hub with h1 | ⟨q, h1, h2⟩
    · have h3 := HLN.out b hS
      have h4 := HM4.out.size
      omega
    · exact HDIS.out b (InVs.of_get h1 h2) hS)
  have HOB := Lib.hid (show ∀ b, (Value.slice A5 vI.length k5).ownBlock = some b → ¬ InVs vN b from fun b hb hS => by
    have h1 := (own_block hg5.row b hb).1
    have h3 := HLN.out b hS
    have h4 := HM4.out.size
    omega)
  have HKB := Lib.hid (show ∀ b, (Value.slice AI vI.length kI).ownBlock = some b → ¬ InVs vN b from fun b hb ⟨v, hv, hvb⟩ => by
    obtain ⟨i, hi⟩ := List.mem_iff_getElem?.1 hv
    exact own_type (HKN5.out.own i v hi) hg5.old (by decide) b hvb hb)
  clear hg5
  go_wp2_with fail
  refine (BkNil.grow_Changes HX5.out HChanges.out).mono ?_
  rintro e w9 ⟨rfl, h9⟩
  rw [h9]
  clear h9 w9
  go_wp2_with fail
  refine (BkNil.grow_Entries HX5.out HEntries.out).mono ?_
  rintro e w9 ⟨rfl, h9⟩
  rw [h9]
  clear h9 w9
  go_wp2_with fail
  refine (BkNil.grow_Codes HX5.out HCodes.out).mono ?_
  rintro e w9 ⟨rfl, h9⟩
  rw [h9]
  clear h9 w9
  have hcl : ∀ i, i < vN.length → (c3 i).length = (cN i).length := fun i hi => by rw [(HDN5.out i hi).1, marks_len]
  have HCL := Lib.hid hcl
  clear hcl
  have hkn5 : kd w5 (.slice AN vN.length kN) vN (fun i => if i < vN.length then c3 i else []) := HKN5.out.congr (fun i hi => by rw [if_pos hi])
  have HKN6 := Lib.hid hkn5
  clear hkn5
  go_wp2_with fail
  refine (grow_any X cs vN _ AN kN w5 HX5.out HH.out.n.k0 HKN6.out hvN (fun i => by
    split
    · rename_i hi
      rw [HCL.out i hi]
      have := HcN.out i
      omega
    · simp)).mono ?_
  rintro e w6 ⟨v6, us6, g6, rfl, hus6, hg6⟩
  obtain ⟨A6, k6, rfl, hk6⟩ := own_form hg6.row
  have HG6 := Lib.hid hg6
  have HX6 := Lib.hid (HX5.out.mod hg6.mod HXN.out)
  have HM6 := Lib.hid (show Mod (InG vI vN) w w6 from Mod.trans HM5.out hg6.mod (fun b _ hS => .inr hS))
  have huv6 : us6.length ≤ 250 := by omega
  have hgl : ∀ i, i < vN.length → (g6 i).length = 72 := fun i hi => by rw [(hg6.deep i hi).1, marks_len]
  have HR6 := Lib.hid (hg6.rd_us hgl)
  have HV6 := Lib.hid hg6.rd_vs
  have hni : ∀ b, InVs vN b → b < 0 ∨ NotInt w5 b := fun b hb => .inr (vs_notint HKN6.out b hb)
  have HD6 := Lib.hid (show ∀ i, i < vN.length → Deeps w6 0 (c3 i) (marks i 0 (cN i).length) from fun i hi => ((HDN5.out i hi).low (Nat.zero_le _)).mod hg6.mod hni)
  have HE6 := Lib.hid (show ∀ i, i < vN.length → Deeps w6 0 ((if i < vN.length then c3 i else []) ++ g6 i) (marks i 0 ((cN i).length + 72)) from fun i hi => by
    have h1 := (HD6.out i hi).app ((hg6.deep i hi).low (Nat.zero_le _))
    rw [if_pos hi] at h1
    rw [if_pos hi]
    rw [HCL.out i hi] at h1
    have e := marks_append i 0 (cN i).length 72
    rw [Nat.zero_add] at e
    rw [e] at h1
    exact h1)
  have HRU6 := Lib.hid (rd_mod HRU.out hg6.mod (by rw [hus5] at *; exact HOB.out) HUB.out)
  have HRV6 := Lib.hid (rd_mod HRV.out hg6.mod HKB.out HDIS.out)
  clear hg6 hgl hni
  have xTexts := (HX6.out.cell 0).trans HTexts.out
  have xInts := (HX6.out.cell 2).trans HH.out.i.k0
  have xChanges := (HX6.out.cell 4).trans HChanges.out
  have xEntries := (HX6.out.cell 6).trans HEntries.out
  have xCodes := (HX6.out.cell 8).trans HCodes.out
  have xNodes := (HX6.out.cell 10).trans HH.out.n.k0
  have zX := HX6.out.lt
  go_wp2_with fail
  refine BkNil.marked_Texts.mono ?_
  rintro e w9 ⟨rfl, h9⟩
  rw [h9]
  clear h9 w9
  go_wp2_with fail
  refine BkNil.marked_Texts.mono ?_
  rintro e w9 ⟨rfl, h9⟩
  rw [h9]
  clear h9 w9
  go_wp2_with fail
  have hmu := BkInts.marked_any A5 k5 us5 (fun i => (cI i).length + 72) w6 (by rw [hus5]; exact HRU6.out) huv5 (fun i => by have := HcI.out i; omega)
  rw [hus5] at hmu
  refine hmu.mono ?_
  rintro e w7 ⟨rfl, hb7⟩
  have HX7 := Lib.hid (HX6.out.below hb7 HX6.out.lt)
  have HM7 := Lib.hid (mod_below HM6.out hb7)
  have HB7 := Lib.hid hb7
  clear hb7 hmu
  have xTexts := (HX7.out.cell 0).trans HTexts.out
  have xInts := (HX7.out.cell 2).trans HH.out.i.k0
  have xChanges := (HX7.out.cell 4).trans HChanges.out
  have xEntries := (HX7.out.cell 6).trans HEntries.out
  have xCodes := (HX7.out.cell 8).trans HCodes.out
  have xNodes := (HX7.out.cell 10).trans HH.out.n.k0
  have zX := HX7.out.lt
  go_wp2_with fail
  refine (BkInts.marked_any AI kI vI (fun i => (cI i).length) w7 (HRV6.out.below HB7.out) hvI (fun i => by have := HcI.out i; omega)).mono ?_
  rintro e w8 ⟨rfl, hb8⟩
  have HX8 := Lib.hid (HX7.out.below hb8 HX7.out.lt)
  have HM8 := Lib.hid (mod_below HM7.out hb8)
  have HB8 := Lib.hid (below_then HB7.out hb8)
  clear hb8
  have xTexts := (HX8.out.cell 0).trans HTexts.out
  have xInts := (HX8.out.cell 2).trans HH.out.i.k0
  have xChanges := (HX8.out.cell 4).trans HChanges.out
  have xEntries := (HX8.out.cell 6).trans HEntries.out
  have xCodes := (HX8.out.cell 8).trans HCodes.out
  have xNodes := (HX8.out.cell 10).trans HH.out.n.k0
  have zX := HX8.out.lt
  go_wp2_with fail
  refine BkNil.marked_Changes.mono ?_
  rintro e w9 ⟨rfl, h9⟩
  rw [h9]
  clear h9 w9
  go_wp2_with fail
  refine BkNil.marked_Changes.mono ?_
  rintro e w9 ⟨rfl, h9⟩
  rw [h9]
  clear h9 w9
  go_wp2_with fail
  refine BkNil.marked_Entries.mono ?_
  rintro e w9 ⟨rfl, h9⟩
  rw [h9]
  clear h9 w9
  go_wp2_with fail
  refine BkNil.marked_Entries.mono ?_
  rintro e w9 ⟨rfl, h9⟩
  rw [h9]
  clear h9 w9
  go_wp2_with fail
  refine BkNil.marked_Codes.mono ?_
  rintro e w9 ⟨rfl, h9⟩
  rw [h9]
  clear h9 w9
  go_wp2_with fail
  refine BkNil.marked_Codes.mono ?_
  rintro e w9 ⟨rfl, h9⟩
  rw [h9]
  clear h9 w9
  go_wp2_with fail
  have hmu := marked_any A6 k6 us6 _ (fun i => (cN i).length + 72) w8 (by rw [hus6]; exact HR6.out.below HB8.out) (fun i hi => (HE6.out i (by omega)).below HB8.out) huv6 (fun i => by have := HcN.out i; omega)
  rw [hus6] at hmu
  refine hmu.mono ?_
  rintro e w10 ⟨rfl, hb10⟩
  have HX10 := Lib.hid (HX8.out.below hb10 HX8.out.lt)
  have HM10 := Lib.hid (mod_below HM8.out hb10)
  have HB10 := Lib.hid (below_then HB8.out hb10)
  clear hb10 hmu
  have xTexts := (HX10.out.cell 0).trans HTexts.out
  have xInts := (HX10.out.cell 2).trans HH.out.i.k0
  have xChanges := (HX10.out.cell 4).trans HChanges.out
  have xEntries := (HX10.out.cell 6).trans HEntries.out
  have xCodes := (HX10.out.cell 8).trans HCodes.out
  have xNodes := (HX10.out.cell 10).trans HH.out.n.k0
  have zX := HX10.out.lt
  go_wp2_with fail
  refine (marked_any AN kN vN _ (fun i => (cN i).length) w10 (HV6.out.below HB10.out) (fun i hi => by rw [if_pos hi]; exact (HD6.out i hi).below HB10.out) hvN (fun i => by have := HcN.out i; omega)).mono ?_
  rintro e w11 ⟨rfl, hb11⟩
  have HM11 := Lib.hid (mod_below HM10.out hb11)
  clear hb11
  go_wp2_with fail
  go_ret
  exact ⟨rfl, HM11.out⟩
end Go.Proofs.YteminkohgagedaaGreat.BkNodes
namespace Go.Proofs.YteminkohgagedaaGreat.BkNodes
open Go.RowKit Go.Proofs.YteminkohgagedaaGreat.Base Go.Proofs.YteminkohgagedaaGreat.Bk Go.Proofs.YteminkohgagedaaGreat.Gr
set_option linter.unusedVariables false
set_option linter.unusedSimpArgs false

def bookNil : Array Value := #[.slice none 0 0, .slice none 0 0, .slice none 0 0, .slice none 0 0, .slice none 0 0, .slice none 0 0, .slice none 0 0, .slice none 0 0, .slice none 0 0, .slice none 0 0, .slice none 0 0, .slice none 0 0]
/-- What is kept: lists of numbers, lists of nodes. -/
structure Kept where
  vI : List Value
  cI : Nat → List Int
  vN : List Value
  cN : Nat → List NC
  d : Nat → List Nd
structure BGs (V : Nat → Prop) (w0 w : World) (X : Nat) (K : Kept) (cs : Array Value) (wI : List Value) (AI BI : Option Addr) (kI lI : Nat) (wN : List Value) (c2 : Nat → List NC) (AN BN : Option Addr) (kN lN : Nat) : Prop where
  g : BG w X cs K.vI wI K.cI AI BI kI lI K.vN wN K.cN c2 K.d AN BN kN lN
  z : Mod (fun b => b = X) w0 w
  rI : ∀ b, (Value.slice AI K.vI.length kI).ownBlock = some b → w0.heap.size ≤ b
  sI : ∀ b, (Value.slice BI wI.length lI).ownBlock = some b → w0.heap.size ≤ b
  rN : ∀ b, (Value.slice AN K.vN.length kN).ownBlock = some b → w0.heap.size ≤ b
  sN : ∀ b, (Value.slice BN wN.length lN).ownBlock = some b → w0.heap.size ≤ b
  v : ∀ b, InG K.vI K.vN b → V b
def BookG (V : Nat → Prop) (w0 w : World) (X : Nat) (K : Kept) : Prop := ∃ cs wI AI BI kI lI wN c2 AN BN kN lN, BGs V w0 w X K cs wI AI BI kI lI wN c2 AN BN kN lN
theorem bel_modg {S : Nat → Prop} {w0 w w' : World} (h : Below w0.heap.size w0 w) (m : Mod S w w') (hS : ∀ b, S b → w0.heap.size ≤ b) : Below w0.heap.size w0 w' :=
  ⟨m.os.trans h.os, m.tape.trans h.tape, m.output.trans h.output, Nat.le_trans h.size m.size, fun i hi => (m.block i (Nat.lt_of_lt_of_le hi h.size) (fun hs => by have := hS i hs; omega)).trans (h.block i hi)⟩
theorem bel_modx {S : Nat → Prop} {w0 w w' : World} {X : Nat} (h : Mod (fun b => b = X) w0 w) (m : Mod S w w') (hS : ∀ b, S b → w0.heap.size ≤ b ∨ b = X) : Mod (fun b => b = X) w0 w' :=
  Mod.trans h m (fun b hb hs => by rcases hS b hs with h1 | h1; omega; exact h1)
def keptNil : Kept := ⟨[], fun _ => [], [], fun _ => [], fun _ => []⟩
theorem BookG.start {V : Nat → Prop} {w : World} {X : Nat} (h : Blk w X 39 bookNil) : BookG V w w X keptNil :=
  ⟨bookNil, [], none, none, 0, 0, [], fun _ => [], none, none, 0, 0,
    ⟨h, ⟨rfl, rfl, Kd.nil (by omega), Kd.nil (by omega), rfl, fun b hb => by simp [Value.ownBlock] at hb⟩, ⟨rfl, rfl, Kd.nil (by omega), Kd.nil (by omega), rfl, fun b hb => by simp [Value.ownBlock] at hb⟩, fun i hi => by simp [keptNil] at hi, fun i hi => by simp [keptNil] at hi, fun i hi h1 h2 h3 h4 => by
      rcases (by omega : i = 0 ∨ i = 1 ∨ i = 2 ∨ i = 3 ∨ i = 4 ∨ i = 5 ∨ i = 6 ∨ i = 7 ∨ i = 8 ∨ i = 9 ∨ i = 10 ∨ i = 11) with rfl | rfl | rfl | rfl | rfl | rfl | rfl | rfl | rfl | rfl | rfl | rfl <;> rfl⟩,
    Mod.refl _ _, fun b hb => by simp [Value.ownBlock] at hb, fun b hb => by simp [Value.ownBlock] at hb, fun b hb => by simp [Value.ownBlock] at hb, fun b hb => by simp [Value.ownBlock] at hb,
    fun b hb => by rcases hb with ⟨v, hv, _⟩ | ⟨v, hv, _⟩ <;> simp [keptNil] at hv⟩
theorem BookG.below {V : Nat → Prop} {w0 w w' : World} {X : Nat} {K : Kept} (h : BookG V w0 w X K) (hb : Below w.heap.size w w') : BookG V w0 w' X K := by
  obtain ⟨cs, wI, AI, BI, kI, lI, wN, c2, AN, BN, kN, lN, h⟩ := h
  exact ⟨cs, wI, AI, BI, kI, lI, wN, c2, AN, BN, kN, lN, h.g.below hb, Mod.trans h.z (Mod.of_below (S := fun _ => False) hb) (fun _ _ h => h.elim), h.rI, h.sI, h.rN, h.sN, h.v⟩
theorem BookG.behind {V : Nat → Prop} {w0 w : World} {X : Nat} {K : Kept} (h : BookG V w0 w X K) : Mod (fun b => b = X) w0 w := by
  obtain ⟨cs, wI, AI, BI, kI, lI, wN, c2, AN, BN, kN, lN, h⟩ := h
  exact h.z
theorem BookG.lt {V : Nat → Prop} {w0 w : World} {X : Nat} {K : Kept} (h : BookG V w0 w X K) : ∀ b, InG K.vI K.vN b → b < w.heap.size := by
  obtain ⟨cs, wI, AI, BI, kI, lI, wN, c2, AN, BN, kN, lN, h⟩ := h
  rintro b (hb | hb)
  · exact h.g.i.kept.block b hb
  · exact h.g.n.kept.block b hb
theorem bookg_apart {V : Nat → Prop} {w0 w : World} {X : Nat} {K : Kept} (h : BookG V w0 w X K) (hvI : K.vI.length ≤ 250) (hvN : K.vN.length ≤ 250) (hlI : ∀ i, (K.cI i).length ≤ 90000) (hlN : ∀ i, (K.cN i).length ≤ 90000) (hx : ∀ i, ∀ x ∈ K.d i, x.slots.length ≤ 100000 ∧ x.words.length ≤ 100000) :
    Calls Tryz.prog 19 #[.pointer (some ⟨X, 0, none⟩)] w fun e w' => e = .returned (.bool true) ∧ Mod (fun b => b = X ∨ V b) w0 w' := by
  obtain ⟨cs, wI, AI, BI, kI, lI, wN, c2, AN, BN, kN, lN, h⟩ := h
  refine (apart_any X cs K.vI wI K.cI AI BI kI lI K.vN wN K.cN c2 K.d AN BN kN lN w h.g hvI hvN hlI hlN hx).mono ?_
  rintro e w' ⟨rfl, hm⟩
  exact ⟨rfl, Mod.trans (h.z.mono (fun b _ e => .inl e)) hm (fun b _ hs => .inr (h.v b hs))⟩

/-! ### one list of numbers more, one list of nodes more -/
theorem ints_add {V : Nat → Prop} {w0 w : World} {X : Nat} {K : Kept} (h : BookG V w0 w X K) (A : Option Addr) (q : Nat) (l : List Int) (hv : w.ownsRow 0 3 1 (.slice A l.length q) l.length (enc ic l))
    (hn : ∀ b, (Value.slice A l.length q).ownBlock = some b → ¬ InG K.vI K.vN b) (hA : ∀ b, (Value.slice A l.length q).ownBlock = some b → V b) (hl : l.length ≤ 100000) (hm : K.vI.length < 250) :
    Calls Tryz.prog 11 #[.pointer (some ⟨X, 0, none⟩), .slice A l.length q] w fun e w' => e = .returned (.tuple #[]) ∧ BookG V w0 w' X { K with vI := K.vI ++ [.slice A l.length q], cI := BkInts.more K.cI K.vI.length l } ∧
      (∃ S : Nat → Prop, Mod S w w' ∧ ∀ b, S b → NotInt w b ∧ (∀ lo n v xs, w.ownsRow lo 55 2 v n xs → v.ownBlock ≠ some b) ∧ ∀ cs', ¬ Blk w b 25 cs') := by
  obtain ⟨cs, wI, AI, BI, kI, lI, wN, c2, AN, BN, kN, lN, h⟩ := h
  refine (BkInts.add_any X cs K.vI wI K.cI AI BI kI lI A q l w h.g.blk h.g.i hv (fun b hb hi => hn b hb (.inl hi)) hl hm).mono ?_
  rintro e w' ⟨rfl, AI', BI', kI', lI', v2, b1, b2, b3, b4, b5⟩
  have hni : ∀ b, (b = X ∨ (Value.slice AI K.vI.length kI).ownBlock = some b ∨ (Value.slice BI wI.length lI).ownBlock = some b) → NotInt w b := fun b hb => by
    rcases hb with rfl | hb | hb
    · exact NotInt.of_blk h.g.blk (by decide)
    · exact NotInt.of_own h.g.i.kept.row (by decide) hb
    · exact NotInt.of_own h.g.i.was_.row (by decide) hb
  have hnn : ∀ b, (b = X ∨ (Value.slice AI K.vI.length kI).ownBlock = some b ∨ (Value.slice BI wI.length lI).ownBlock = some b) → ∀ lo n v xs, w.ownsRow lo 55 2 v n xs → v.ownBlock ≠ some b := fun b hb lo n v xs ho hvb => by
    rcases hb with rfl | hb | hb
    · exact own_blk_ne ho h.g.blk (by decide) hvb
    · exact own_type ho h.g.i.kept.row (by decide) b hvb hb
    · exact own_type ho h.g.i.was_.row (by decide) b hvb hb
  have hnr : ∀ b, (b = X ∨ (Value.slice AI K.vI.length kI).ownBlock = some b ∨ (Value.slice BI wI.length lI).ownBlock = some b) → ∀ lo n v xs, w.ownsRow lo 23 1 v n xs → v.ownBlock ≠ some b := fun b hb lo n v xs ho hvb => by
    rcases hb with rfl | hb | hb
    · exact own_blk_ne ho h.g.blk (by decide) hvb
    · exact own_type ho h.g.i.kept.row (by decide) b hvb hb
    · exact own_type ho h.g.i.was_.row (by decide) b hvb hb
  have hkd : ∀ {vK : Value} {vs : List Value} {c : Nat → List NC}, kd w vK vs c → kd w' vK vs c := fun {vK vs c} hk =>
    Kd.mod hk b3 (fun b hb hS => hnr b hS _ _ _ _ hk.row hb) (fun b ⟨v, hv, hvb⟩ hS => by
      obtain ⟨i, hi⟩ := List.mem_iff_getElem?.1 hv
      exact hnn b hS _ _ _ _ (hk.own i v hi) hvb)
  have hnb : ∀ b, (b = X ∨ (Value.slice AI K.vI.length kI).ownBlock = some b ∨ (Value.slice BI wI.length lI).ownBlock = some b) → ∀ cs', ¬ Blk w b 25 cs' := fun b hb cs' hc => by
    rcases hb with rfl | hb | hb
    · exact Blk.ne_ hc h.g.blk (by decide) rfl
    · exact own_blk_ne h.g.i.kept.row hc (by decide) hb
    · exact own_blk_ne h.g.i.was_.row hc (by decide) hb
  have hz : ∀ b, (b = X ∨ (Value.slice AI K.vI.length kI).ownBlock = some b ∨ (Value.slice BI wI.length lI).ownBlock = some b) → w0.heap.size ≤ b ∨ b = X := fun b hb => by
    rcases hb with rfl | hb | hb
    · exact .inr rfl
    · exact .inl (h.rI b hb)
    · exact .inl (h.sI b hb)
  have hcs : ∀ i, i ≠ 2 → i ≠ 3 → ((cs.setIfInBounds 2 (.slice AI' (K.vI.length + 1) kI')).setIfInBounds 3 (.slice BI' (wI.length + 1) lI'))[i]? = cs[i]? := fun i h1 h2 => by
    rw [Array.getElem?_setIfInBounds_ne (by omega), Array.getElem?_setIfInBounds_ne (by omega)]
  refine ⟨rfl, ⟨_, _, AI', BI', kI', lI', wN, c2, AN, BN, kN, lN, ⟨b1, b2, ⟨?_, ?_, hkd h.g.n.kept, hkd h.g.n.was_, h.g.n.len, h.g.n.rows⟩, fun i hi => (h.g.deep i hi).mod b3 (fun b hb => .inr (hni b hb)), fun i hi => (h.g.deep2 i hi).mod b3 (fun b hb => .inr (hni b hb)), fun i h0 h1 h2 h3 h4 => ?_⟩, bel_modx h.z b3 hz, fun b hb => ?_, fun b hb => ?_, h.rN, h.sN, fun b hb => ?_⟩, _, b3, fun b hb => ⟨hni b hb, hnn b hb, hnb b hb⟩⟩
  · rw [hcs 10 (by decide) (by decide)]; exact h.g.n.k0
  · rw [hcs 11 (by decide) (by decide)]; exact h.g.n.k1
  · rw [hcs i h1 h2]; exact h.g.rest i h0 h1 h2 h3 h4
  · simp only [List.length_append, List.length_singleton] at hb
    rcases b4 b hb with h' | h'
    · exact h.rI b h'
    · exact Nat.le_trans h.z.size h'
  · simp only [List.length_append, List.length_singleton] at hb
    rcases b5 b hb with h' | h'
    · exact h.sI b h'
    · exact Nat.le_trans h.z.size h'
  · rcases hb with ⟨v, hv, hb⟩ | hb
    · rcases List.mem_append.1 hv with hv | hv
      · exact h.v b (.inl ⟨v, hv, hb⟩)
      · rw [List.mem_singleton.1 hv] at hb
        exact hA b hb
    · exact h.v b (.inr hb)
def moreD (d : Nat → List Nd) (m : Nat) (l : List Nd) (i : Nat) : List Nd := if i = m then l else d i
theorem nodes_add {V : Nat → Prop} {w0 w : World} {X : Nat} {K : Kept} (h : BookG V w0 w X K) (A : Option Addr) (q : Nat) (l : List NC) (xs : List Nd) (hdp : Deeps w 0 l xs) (hxs : ∀ x ∈ xs, x.slots.length ≤ 100000 ∧ x.words.length ≤ 100000)
    (hv : w.ownsRow 0 55 2 (.slice A l.length q) l.length (enc nf l))
    (hn : ∀ b, (Value.slice A l.length q).ownBlock = some b → ¬ InG K.vI K.vN b) (hA : ∀ b, (Value.slice A l.length q).ownBlock = some b → V b) (hl : l.length ≤ 100000) (hm : K.vN.length < 250) :
    Calls Tryz.prog 30 #[.pointer (some ⟨X, 0, none⟩), .slice A l.length q] w fun e w' => e = .returned (.tuple #[]) ∧ BookG V w0 w' X { K with vN := K.vN ++ [.slice A l.length q], cN := more K.cN K.vN.length l, d := moreD K.d K.vN.length xs } ∧
      (∃ S : Nat → Prop, Mod S w w' ∧ ∀ b, S b → NotInt w b ∧ (∀ lo n v xs, w.ownsRow lo 55 2 v n xs → v.ownBlock ≠ some b) ∧ ∀ cs', ¬ Blk w b 25 cs') := by
  obtain ⟨cs, wI, AI, BI, kI, lI, wN, c2, AN, BN, kN, lN, h⟩ := h
  refine (add_any X cs K.vN wN K.cN c2 AN BN kN lN A q l w h.g.blk h.g.n xs hdp hxs hv (fun b hb hi => hn b hb (.inr hi)) hl hm).mono ?_
  rintro e w' ⟨rfl, AN', BN', kN', lN', v2, l2, b1, b2, bd, b3, b4, b5⟩
  have hni : ∀ b, (b = X ∨ (Value.slice AN K.vN.length kN).ownBlock = some b ∨ (Value.slice BN wN.length lN).ownBlock = some b) → NotInt w b := fun b hb => by
    rcases hb with rfl | hb | hb
    · exact NotInt.of_blk h.g.blk (by decide)
    · exact NotInt.of_own h.g.n.kept.row (by decide) hb
    · exact NotInt.of_own h.g.n.was_.row (by decide) hb
  have hnn : ∀ b, (b = X ∨ (Value.slice AN K.vN.length kN).ownBlock = some b ∨ (Value.slice BN wN.length lN).ownBlock = some b) → ∀ lo n v xs, w.ownsRow lo 3 1 v n xs → v.ownBlock ≠ some b := fun b hb lo n v xs ho hvb => by
    rcases hb with rfl | hb | hb
    · exact own_blk_ne ho h.g.blk (by decide) hvb
    · exact own_type ho h.g.n.kept.row (by decide) b hvb hb
    · exact own_type ho h.g.n.was_.row (by decide) b hvb hb
  have hnr : ∀ b, (b = X ∨ (Value.slice AN K.vN.length kN).ownBlock = some b ∨ (Value.slice BN wN.length lN).ownBlock = some b) → ∀ lo n v xs, w.ownsRow lo 22 1 v n xs → v.ownBlock ≠ some b := fun b hb lo n v xs ho hvb => by
    rcases hb with rfl | hb | hb
    · exact own_blk_ne ho h.g.blk (by decide) hvb
    · exact own_type ho h.g.n.kept.row (by decide) b hvb hb
    · exact own_type ho h.g.n.was_.row (by decide) b hvb hb
  have hnm : ∀ b, (b = X ∨ (Value.slice AN K.vN.length kN).ownBlock = some b ∨ (Value.slice BN wN.length lN).ownBlock = some b) → ∀ lo n v xs, w.ownsRow lo 55 2 v n xs → v.ownBlock ≠ some b := fun b hb lo n v xs ho hvb => by
    rcases hb with rfl | hb | hb
    · exact own_blk_ne ho h.g.blk (by decide) hvb
    · exact own_type ho h.g.n.kept.row (by decide) b hvb hb
    · exact own_type ho h.g.n.was_.row (by decide) b hvb hb
  have hkd : ∀ {vK : Value} {vs : List Value} {c : Nat → List Int}, BkInts.kd w vK vs c → BkInts.kd w' vK vs c := fun {vK vs c} hk =>
    Kd.mod hk b3 (fun b hb hS => hnr b hS _ _ _ _ hk.row hb) (fun b ⟨v, hv, hvb⟩ hS => by
      obtain ⟨i, hi⟩ := List.mem_iff_getElem?.1 hv
      exact hnn b hS _ _ _ _ (hk.own i v hi) hvb)
  have hnb : ∀ b, (b = X ∨ (Value.slice AN K.vN.length kN).ownBlock = some b ∨ (Value.slice BN wN.length lN).ownBlock = some b) → ∀ cs', ¬ Blk w b 25 cs' := fun b hb cs' hc => by
    rcases hb with rfl | hb | hb
    · exact Blk.ne_ hc h.g.blk (by decide) rfl
    · exact own_blk_ne h.g.n.kept.row hc (by decide) hb
    · exact own_blk_ne h.g.n.was_.row hc (by decide) hb
  have hz : ∀ b, (b = X ∨ (Value.slice AN K.vN.length kN).ownBlock = some b ∨ (Value.slice BN wN.length lN).ownBlock = some b) → w0.heap.size ≤ b ∨ b = X := fun b hb => by
    rcases hb with rfl | hb | hb
    · exact .inr rfl
    · exact .inl (h.rN b hb)
    · exact .inl (h.sN b hb)
  have hcs : ∀ i, i ≠ 10 → i ≠ 11 → ((cs.setIfInBounds 10 (.slice AN' (K.vN.length + 1) kN')).setIfInBounds 11 (.slice BN' (wN.length + 1) lN'))[i]? = cs[i]? := fun i h1 h2 => by
    rw [Array.getElem?_setIfInBounds_ne (by omega), Array.getElem?_setIfInBounds_ne (by omega)]
  have hwl := h.g.n.len
  refine ⟨rfl, ⟨_, wI, AI, BI, kI, lI, _, _, AN', BN', kN', lN', ⟨b1, ⟨?_, ?_, hkd h.g.i.kept, hkd h.g.i.was_, h.g.i.len, h.g.i.rows⟩, b2, fun i hi => ?_, fun i hi => ?_, fun i h0 h1 h2 h3 h4 => ?_⟩, bel_modx h.z b3 hz, h.rI, h.sI, fun b hb => ?_, fun b hb => ?_, fun b hb => ?_⟩, _, b3, fun b hb => ⟨hni b hb, hnm b hb, hnb b hb⟩⟩
  · rw [hcs 2 (by decide) (by decide)]; exact h.g.i.k0
  · rw [hcs 3 (by decide) (by decide)]; exact h.g.i.k1
  · simp only [List.length_append, List.length_singleton] at hi
    simp only [more, moreD]
    split
    · exact hdp.mod b3 (fun b hb => .inr (hni b hb))
    · exact (h.g.deep i (by omega)).mod b3 (fun b hb => .inr (hni b hb))
  · simp only [List.length_append, List.length_singleton] at hi
    simp only [more, moreD, hwl]
    split
    · exact bd.low (Nat.zero_le _)
    · exact (h.g.deep2 i (by omega)).mod b3 (fun b hb => .inr (hni b hb))
  · rw [hcs i h3 h4]; exact h.g.rest i h0 h1 h2 h3 h4
  · simp only [List.length_append, List.length_singleton] at hb
    rcases b4 b hb with h' | h'
    · exact h.rN b h'
    · exact Nat.le_trans h.z.size h'
  · simp only [List.length_append, List.length_singleton] at hb
    rcases b5 b hb with h' | h'
    · exact h.sN b h'
    · exact Nat.le_trans h.z.size h'
  · rcases hb with hb | ⟨v, hv, hb⟩
    · exact h.v b (.inl hb)
    · rcases List.mem_append.1 hv with hv | hv
      · exact h.v b (.inr ⟨v, hv, hb⟩)
      · rw [List.mem_singleton.1 hv] at hb
        exact hA b hb
/-- Lists of numbers, of nodes, and boxes of graphs are what they were. -/
structure Kind (w w' : World) : Prop where
  ints : ∀ lo n v xs, w.ownsRow lo 3 1 v n xs → w'.ownsRow lo 3 1 v n xs
  nodes : ∀ lo n v xs, w.ownsRow lo 55 2 v n xs → w'.ownsRow lo 55 2 v n xs
  box : ∀ b cs, Blk w b 25 cs → Blk w' b 25 cs
theorem Kind.trans {w w1 w2 : World} (h : Kind w w1) (k : Kind w1 w2) : Kind w w2 := ⟨fun _ _ _ _ ho => k.ints _ _ _ _ (h.ints _ _ _ _ ho), fun _ _ _ _ ho => k.nodes _ _ _ _ (h.nodes _ _ _ _ ho), fun _ _ hb => k.box _ _ (h.box _ _ hb)⟩
theorem Kind.of_below {w w' : World} (h : Below w.heap.size w w') : Kind w w' := ⟨fun _ _ _ _ ho => own_below ho h, fun _ _ _ _ ho => own_below ho h, fun _ _ hb => hb.below h hb.lt⟩
theorem Kind.of_mod {S : Nat → Prop} {w w' : World} (hm : Mod S w w') (hs : ∀ b, S b → NotInt w b ∧ (∀ lo n v xs, w.ownsRow lo 55 2 v n xs → v.ownBlock ≠ some b) ∧ ∀ cs', ¬ Blk w b 25 cs') : Kind w w' :=
  ⟨fun _ _ _ _ ho => own_mod ho hm (fun b hb hS => (hs b hS).1 _ _ _ _ ho hb), fun _ _ _ _ ho => own_mod ho hm (fun b hb hS => (hs b hS).2.1 _ _ _ _ ho hb), fun _ _ hb => hb.mod hm (fun hS => (hs _ hS).2.2 _ hb)⟩
theorem Kind.deeps {w w' : World} (h : Kind w w') {lo : Nat} {ps : List NC} {xs : List Nd} (hd : Deeps w lo ps xs) : Deeps w' lo ps xs :=
  ⟨hd.1, fun i p x hp hx => by
    obtain ⟨⟨k1, A, c, e1, o1⟩, ⟨k2, B, d, e2, o2⟩⟩ := hd.2 i p x hp hx
    exact ⟨⟨k1, A, c, e1, h.ints _ _ _ _ o1⟩, ⟨k2, B, d, e2, h.ints _ _ _ _ o2⟩⟩⟩
/-- The kept, with one graph more. -/
def Kept.graph (K : Kept) (r n : Value) (l : List Int) (ps : List NC) (xs : List Nd) : Kept :=
  ⟨K.vI ++ [r], BkInts.more K.cI K.vI.length l, K.vN ++ [n], more K.cN K.vN.length ps, moreD K.d K.vN.length xs⟩
theorem graph_add {V : Nat → Prop} {w0 w : World} {X : Nat} {K : Kept} (h : BookG V w0 w X K) (A D : Option Addr) (c d : Nat) (l : List Int) (ps : List NC) (xs : List Nd) (hdp : Deeps w 0 ps xs) (hxs : ∀ x ∈ xs, x.slots.length ≤ 100000 ∧ x.words.length ≤ 100000)
    (hv : w.ownsRow 0 3 1 (.slice A l.length c) l.length (enc ic l)) (hv2 : w.ownsRow 0 55 2 (.slice D ps.length d) ps.length (enc nf ps))
    (hn : ∀ b, (Value.slice A l.length c).ownBlock = some b → ¬ InG K.vI K.vN b) (hn2 : ∀ b, (Value.slice D ps.length d).ownBlock = some b → ¬ InG K.vI K.vN b)
    (hA : ∀ b, (Value.slice A l.length c).ownBlock = some b → V b) (hA2 : ∀ b, (Value.slice D ps.length d).ownBlock = some b → V b) (hl : l.length ≤ 100000) (hl2 : ps.length ≤ 100000) (hm : K.vI.length < 250) (hm2 : K.vN.length < 250) :
    Calls Tryz.prog 10 #[.pointer (some ⟨X, 0, none⟩), .agg #[.slice A l.length c, .slice D ps.length d]] w fun e w' => e = .returned (.tuple #[]) ∧ BookG V w0 w' X (K.graph (.slice A l.length c) (.slice D ps.length d) l ps xs) ∧ Kind w w' := by
  have HB := Lib.hid (below_1 w (.cells #[.slice A l.length c, .slice D ps.length d] 25))
  have HG := Lib.hid (Blk.new w 25 #[.slice A l.length c, .slice D ps.length d])
  have K1 := Lib.hid (ints_add (h.below HB.out) A c l (own_below hv HB.out) hn hA hl hm)
  have HDP := Lib.hid (hdp.below HB.out)
  have HV2 := Lib.hid (own_below hv2 HB.out)
  have HN2 := Lib.hid hn2
  have HX := Lib.hid hxs
  have HV := Lib.hid (own_below hv HB.out)
  have HL := Lib.hid h.lt
  clear h hdp hxs hv hv2 hn hn2
  go_enter Tryz.func10, Tryz.ntmps10
  go_wp2_with (first
    | (go_at_call 11
       refine K1.out.mono ?_
       rintro e w2 ⟨rfl, hb2, S, hm2', hs⟩
       have HB2 := Lib.hid hb2
       have HK2 := Lib.hid (Kind.of_mod hm2' hs)
       have HG2 := Lib.hid (HG.out.mod hm2' (fun hS => (hs _ hS).2.2 _ HG.out))
       have HD2 := Lib.hid (HDP.out.mod hm2' (fun b hS => .inr (hs b hS).1))
       have HV3 := Lib.hid (own_mod HV2.out hm2' (fun b hb hS => (hs b hS).2.1 _ _ _ _ HV2.out hb))
       have c0 := HG2.out.cell 1
       have cl := HG2.out.lt
       clear hb2 hm2' hs)
    | (go_at_call 30
       refine (nodes_add HB2.out D d ps xs HD2.out HX.out HV3.out (fun b hb hi => ?_) hA2 hl2 hm2).mono ?_
       · rcases hi with ⟨v, hv, hvb⟩ | hi
         · rcases List.mem_append.1 hv with hv | hv
           · exact HN2.out b hb (.inl ⟨v, hv, hvb⟩)
           · rw [List.mem_singleton.1 hv] at hvb
             exact own_type HV.out HV2.out (by decide) b hvb hb
         · exact HN2.out b hb (.inr hi)
       rintro e w3 ⟨rfl, hb3, S3, hm3', hs3⟩
       have HB3 := Lib.hid hb3
       have HK3 := Lib.hid (Kind.of_mod hm3' hs3)
       clear hb3 hm3' hs3)
    | fail)
  exact ⟨rfl, _, by kernel_rfl, rfl, HB3.out, (Kind.of_below HB.out).trans (HK2.out.trans HK3.out)⟩
end Go.Proofs.YteminkohgagedaaGreat.BkNodes
