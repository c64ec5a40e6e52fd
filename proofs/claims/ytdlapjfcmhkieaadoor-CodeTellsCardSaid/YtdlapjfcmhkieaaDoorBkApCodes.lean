/- Apart of a book that holds Codes alone. Printed by gen_apart.py. -/
import Derived.Test.YtdlapjfcmhkieaaDoorBkNil
import Derived.Test.YtdlapjfcmhkieaaDoorBkCodes
namespace Go.Proofs.YtdlapjfcmhkieaaDoor.BkCodes
open Go.RowKit Go.Proofs.YtdlapjfcmhkieaaDoor.Base Go.Proofs.YtdlapjfcmhkieaaDoor.Bk
set_option linter.unusedVariables false
set_option linter.unusedSimpArgs false

set_option maxRecDepth 100000 in
set_option maxHeartbeats 8000000 in
theorem apart_any (X : Nat) (cs : Array Value) (vs was : List Value) (c : Nat → List Ver.Ins) (AK AW : Option Addr) (cK cW : Nat) (w : World) (hX : Blk w X 44 cs) (h : BK w X cs vs was c AK AW cK cW)
    (hTexts : cs[0]? = some (.slice none 0 0)) (hInts : cs[2]? = some (.slice none 0 0)) (hChanges : cs[4]? = some (.slice none 0 0)) (hEntries : cs[6]? = some (.slice none 0 0)) (hNodes : cs[10]? = some (.slice none 0 0)) (hv : vs.length ≤ 250) (hl : ∀ i, (c i).length ≤ 90000) :
    Calls Tryd.prog 19 #[.pointer (some ⟨X, 0, none⟩)] w fun e w' => e = .returned (.bool true) ∧ Mod (InVs vs) w w' := by
  have hXn : ¬ InVs vs X := by
    rintro ⟨v, hv, hb⟩
    obtain ⟨i, hi⟩ := List.mem_iff_getElem?.1 hv
    exact own_blk_ne (h.kept.own i v hi) hX (by decide) hb
  have HX := Lib.hid hX
  have HH := Lib.hid h
  have HL := Lib.hid hl
  have HXN := Lib.hid hXn
  clear hX h hl hXn
  have HTexts := Lib.hid hTexts
  have HInts := Lib.hid hInts
  have HChanges := Lib.hid hChanges
  have HEntries := Lib.hid hEntries
  have HNodes := Lib.hid hNodes
  clear hTexts hInts hChanges hEntries hNodes
  go_enter Tryd.func19, Tryd.ntmps19
  go_wp2_with fail
  refine (BkNil.still_Texts HX.out HTexts.out).mono ?_
  rintro e w9 ⟨rfl, h9⟩
  rw [h9]
  clear h9 w9
  go_wp2_with fail
  refine (BkNil.still_Ints HX.out HInts.out).mono ?_
  rintro e w9 ⟨rfl, h9⟩
  rw [h9]
  clear h9 w9
  go_wp2_with fail
  refine (BkNil.still_Changes HX.out HChanges.out).mono ?_
  rintro e w9 ⟨rfl, h9⟩
  rw [h9]
  clear h9 w9
  go_wp2_with fail
  refine (BkNil.still_Entries HX.out HEntries.out).mono ?_
  rintro e w9 ⟨rfl, h9⟩
  rw [h9]
  clear h9 w9
  go_wp2_with fail
  refine (still_any X cs vs was c AK AW cK cW w HX.out HH.out.k0 HH.out.k1 HH.out.kept.rd HH.out.was_.rd HH.out.len hv (fun i => by have := HL.out i; omega)).mono ?_
  rintro e w1 ⟨rfl, hb1⟩
  have HM1 := Lib.hid (Mod.of_below (S := InVs vs) hb1)
  have HX1 := Lib.hid (HX.out.below hb1 HX.out.lt)
  have HK1 := Lib.hid (HH.out.kept.below hb1)
  clear hb1
  go_wp2_with fail
  refine (BkNil.still_Nodes HX1.out HNodes.out).mono ?_
  rintro e w9 ⟨rfl, h9⟩
  rw [h9]
  clear h9 w9
  go_wp2_with fail
  refine (BkNil.put_Nodes HX1.out HNodes.out).mono ?_
  rintro e w9 ⟨rfl, h9⟩
  rw [h9]
  clear h9 w9
  go_wp2_with fail
  refine (BkNil.put_Texts HX1.out HTexts.out).mono ?_
  rintro e w9 ⟨rfl, h9⟩
  rw [h9]
  clear h9 w9
  go_wp2_with fail
  refine (BkNil.put_Ints HX1.out HInts.out).mono ?_
  rintro e w9 ⟨rfl, h9⟩
  rw [h9]
  clear h9 w9
  go_wp2_with fail
  refine (BkNil.put_Changes HX1.out HChanges.out).mono ?_
  rintro e w9 ⟨rfl, h9⟩
  rw [h9]
  clear h9 w9
  go_wp2_with fail
  refine (BkNil.put_Entries HX1.out HEntries.out).mono ?_
  rintro e w9 ⟨rfl, h9⟩
  rw [h9]
  clear h9 w9
  go_wp2_with fail
  refine (put_any X cs vs c AK cK w1 HX1.out HH.out.k0 HK1.out hv (fun i => by have := HL.out i; omega)).mono ?_
  rintro e w2 ⟨rfl, hk2, hm2⟩
  have HK2 := Lib.hid hk2
  have HM2 := Lib.hid (HM1.out.trans hm2 (fun _ _ h => h))
  have HX2 := Lib.hid (HX1.out.mod hm2 HXN.out)
  clear hk2 hm2
  go_wp2_with fail
  refine (BkNil.grow_Texts HX2.out HTexts.out).mono ?_
  rintro e w9 ⟨rfl, h9⟩
  rw [h9]
  clear h9 w9
  go_wp2_with fail
  refine (BkNil.grow_Ints HX2.out HInts.out).mono ?_
  rintro e w9 ⟨rfl, h9⟩
  rw [h9]
  clear h9 w9
  go_wp2_with fail
  refine (BkNil.grow_Changes HX2.out HChanges.out).mono ?_
  rintro e w9 ⟨rfl, h9⟩
  rw [h9]
  clear h9 w9
  go_wp2_with fail
  refine (BkNil.grow_Entries HX2.out HEntries.out).mono ?_
  rintro e w9 ⟨rfl, h9⟩
  rw [h9]
  clear h9 w9
  go_wp2_with fail
  refine (grow_any X cs vs (fun i => marks i 0 (c i).length) AK cK w2 HX2.out HH.out.k0 HK2.out hv (fun i => by rw [marks_len]; have := HL.out i; omega)).mono ?_
  rintro e w3 ⟨v3, us, rfl, hus, hg3⟩
  obtain ⟨A3, k3, rfl, hk3⟩ := own_form hg3.row
  have HG3 := Lib.hid hg3
  have HM3 := Lib.hid (HM2.out.trans hg3.mod (fun _ _ h => h))
  have HX3 := Lib.hid (HX2.out.mod hg3.mod HXN.out)
  have huv : us.length ≤ 250 := by omega
  clear hg3
  go_wp2_with fail
  refine (BkNil.grow_Nodes HX3.out HNodes.out).mono ?_
  rintro e w9 ⟨rfl, h9⟩
  rw [h9]
  clear h9 w9
  have xTexts := (HX3.out.cell 0).trans HTexts.out
  have xInts := (HX3.out.cell 2).trans HInts.out
  have xChanges := (HX3.out.cell 4).trans HChanges.out
  have xEntries := (HX3.out.cell 6).trans HEntries.out
  have xCodes := (HX3.out.cell 8).trans HH.out.k0
  have xNodes := (HX3.out.cell 10).trans HNodes.out
  have zX := HX3.out.lt
  go_wp2_with fail
  refine BkNil.marked_Texts.mono ?_
  rintro e w9 ⟨rfl, h9⟩
  rw [h9]
  clear h9 w9
  go_wp2_with fail
  refine BkNil.marked_Texts.mono ?_
  rintro e w9 ⟨rfl, h9⟩
  rw [h9]
  clear h9 w9
  go_wp2_with fail
  refine BkNil.marked_Ints.mono ?_
  rintro e w9 ⟨rfl, h9⟩
  rw [h9]
  clear h9 w9
  go_wp2_with fail
  refine BkNil.marked_Ints.mono ?_
  rintro e w9 ⟨rfl, h9⟩
  rw [h9]
  clear h9 w9
  go_wp2_with fail
  refine BkNil.marked_Changes.mono ?_
  rintro e w9 ⟨rfl, h9⟩
  rw [h9]
  clear h9 w9
  go_wp2_with fail
  refine BkNil.marked_Changes.mono ?_
  rintro e w9 ⟨rfl, h9⟩
  rw [h9]
  clear h9 w9
  go_wp2_with fail
  refine BkNil.marked_Entries.mono ?_
  rintro e w9 ⟨rfl, h9⟩
  rw [h9]
  clear h9 w9
  go_wp2_with fail
  refine BkNil.marked_Entries.mono ?_
  rintro e w9 ⟨rfl, h9⟩
  rw [h9]
  clear h9 w9
  go_wp2_with fail
  have hmu := marked_any A3 k3 us (fun i => (c i).length + 72) w3 (by rw [hus]; exact HG3.out.rd_us) huv (fun i => by have := HL.out i; omega)
  rw [hus] at hmu
  refine hmu.mono ?_
  rintro e w4 ⟨rfl, hb4⟩
  have HX4 := Lib.hid (HX3.out.below hb4 HX3.out.lt)
  have HM4 := Lib.hid (mod_below HM3.out hb4)
  have HR4 := Lib.hid (HG3.out.rd_vs.below hb4)
  clear hb4 hmu
  have xTexts := (HX4.out.cell 0).trans HTexts.out
  have xInts := (HX4.out.cell 2).trans HInts.out
  have xChanges := (HX4.out.cell 4).trans HChanges.out
  have xEntries := (HX4.out.cell 6).trans HEntries.out
  have xCodes := (HX4.out.cell 8).trans HH.out.k0
  have xNodes := (HX4.out.cell 10).trans HNodes.out
  have zX := HX4.out.lt
  go_wp2_with fail
  refine (marked_any AK cK vs (fun i => (c i).length) w4 HR4.out hv (fun i => by have := HL.out i; omega)).mono ?_
  rintro e w5 ⟨rfl, hb5⟩
  have HX5 := Lib.hid (HX4.out.below hb5 HX4.out.lt)
  have HM5 := Lib.hid (mod_below HM4.out hb5)
  clear hb5
  have xTexts := (HX5.out.cell 0).trans HTexts.out
  have xInts := (HX5.out.cell 2).trans HInts.out
  have xChanges := (HX5.out.cell 4).trans HChanges.out
  have xEntries := (HX5.out.cell 6).trans HEntries.out
  have xCodes := (HX5.out.cell 8).trans HH.out.k0
  have xNodes := (HX5.out.cell 10).trans HNodes.out
  have zX := HX5.out.lt
  go_wp2_with fail
  refine BkNil.marked_Nodes.mono ?_
  rintro e w9 ⟨rfl, h9⟩
  rw [h9]
  clear h9 w9
  go_wp2_with fail
  refine BkNil.marked_Nodes.mono ?_
  rintro e w9 ⟨rfl, h9⟩
  rw [h9]
  clear h9 w9
  go_wp2_with fail
  go_ret
  exact ⟨rfl, HM5.out⟩

end Go.Proofs.YtdlapjfcmhkieaaDoor.BkCodes