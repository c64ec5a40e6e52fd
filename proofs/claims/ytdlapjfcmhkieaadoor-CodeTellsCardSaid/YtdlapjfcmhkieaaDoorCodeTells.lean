/- flittinglaw19.CodeTells: plain facts, and its walk. -/
import Derived.Test.YtdlapjfcmhkieaaDoorCodeR10
import Derived.Test.YtdlapjfcmhkieaaDoorCodeR16
import Derived.Test.YtdlapjfcmhkieaaDoorCodeR18J
import Derived.Test.YtdlapjfcmhkieaaDoorCodeR20
import Derived.Test.YtdlapjfcmhkieaaDoorCodeR21
import Derived.Test.YtdlapjfcmhkieaaDoorCodePut
import Derived.Test.YtdlapjfcmhkieaaDoorCodeGet
import Derived.Test.YtdlapjfcmhkieaaDoorCodeText
import Derived.Test.YtdlapjfcmhkieaaDoorCodeAlive
import Derived.Test.YtdlapjfcmhkieaaDoorCodeJoins
import Derived.Test.YtdlapjfcmhkieaaDoorBkOneCodes
namespace Go.Proofs.YtdlapjfcmhkieaaDoor.Ver
open Go.RowKit Go.Proofs.YtdlapjfcmhkieaaDoor.Base
set_option linter.unusedVariables false
set_option linter.unusedSimpArgs false

/-! ### the bytes and whether they may be, value by value -/
def Ins.vals (x : Ins) : List Int := [x.op, x.a, x.b, x.c]
def SInv (L : Bool) (vs : List Int) (m : Bool) (b : List UInt8) : Prop := m = (L && vs.all byt) ∧ b.length = vs.length ∧ (vs.all byt = true → b = vs.map byteOf)
theorem SInv.nil (L : Bool) : SInv L [] L [] := ⟨by simp, rfl, fun _ => rfl⟩
theorem SInv.step {L m : Bool} {vs : List Int} {b : List UInt8} (h : SInv L vs m b) (v : Int) (m' : Bool) (d : UInt8) (hm : m' = (m && byt v)) (hd : byt v = true → d = byteOf v) : SInv L (vs ++ [v]) m' (b ++ [d]) := by
  obtain ⟨h1, h2, h3⟩ := h
  refine ⟨by rw [hm, h1]; simp [Bool.and_assoc], by simp [h2], fun ha => ?_⟩
  simp only [List.all_append, List.all_cons, List.all_nil, Bool.and_true, Bool.and_eq_true] at ha
  rw [h3 ha.1, hd ha.2]
  simp
/-- A number's lowest byte. -/
def lowByte (v : Int) : UInt8 := UInt8.ofNat (v % 256).toNat
theorem low_val (v : Int) : ((lowByte v).toNat : Int) = v % 256 := by
  have h1 : (lowByte v).toNat = (v % 256).toNat := by unfold lowByte; rw [UInt8.toNat_ofNat']; omega
  rw [h1]
  omega
theorem low_byt {v : Int} (h : byt v = true) : lowByte v = byteOf v := by
  have := byt_iff h
  unfold lowByte byteOf
  congr 1
  omega
theorem vals_bytes (x : Ins) : x.vals.map byteOf = x.bytes := rfl
theorem vals_all (x : Ins) : x.vals.all byt = x.byteful := by simp [Ins.vals, Ins.byteful, Bool.and_assoc]
theorem flat_all (l : List Ins) : (l.flatMap Ins.vals).all byt = l.all Ins.byteful := by
  induction l with
  | nil => rfl
  | cons x l ih => rw [List.flatMap_cons, List.all_append, ih, List.all_cons, vals_all]
theorem flat_bytes (l : List Ins) : (l.flatMap Ins.vals).map byteOf = bytesOf l := by
  induction l with
  | nil => rfl
  | cons x l ih => rw [List.flatMap_cons, List.map_append, ih, vals_bytes]; rfl
theorem flat_take {l : List Ins} {k : Nat} (hk : k < l.length) : (l.take k).flatMap Ins.vals ++ l[k].vals = (l.take (k + 1)).flatMap Ins.vals := by
  rw [List.take_succ_eq_append_getElem hk, List.flatMap_append]; simp
theorem SInv.ok {l : List Ins} {m : Bool} {b : List UInt8} (h : SInv (decide (l.length ≤ 200)) (l.flatMap Ins.vals) m b) : m = progOk l ∧ (progOk l = true → b = bytesOf l) := by
  obtain ⟨h1, h2, h3⟩ := h
  rw [flat_all] at h1 h3
  refine ⟨h1, fun hp => ?_⟩
  rw [progOk, Bool.and_eq_true] at hp
  rw [h3 hp.2, flat_bytes]

theorem cat_snoc (l : List UInt8) (d : UInt8) : ((⟨l.toArray⟩ : ByteArray) ++ ⟨#[d]⟩) = ⟨(l ++ [d]).toArray⟩ := by
  apply ByteArray.ext
  simp
theorem below_1' (w : World) (o : Obj) {p : Addr} {v : Value} (h : w.cell? p = some v) : (w.alloc o).drew.cell? p = some v := ((Below.refl w.heap.size w).alloc (Nat.le_refl _) o).drew.cell (cell_lt h) |>.trans h
theorem progOf_len (b : List UInt8) : (progOf b).length = b.length / 4 := by simp [progOf]
theorem size_list (s : ByteArray) : s.size = s.data.toList.length := by show s.data.size = _; simp
theorem byt_nat (d : UInt8) : byt (d.toNat : Int) = true := by
  have := d.toNat_lt
  exact decide_eq_true ⟨by omega, by omega⟩
theorem byteOf_nat (d : UInt8) : byteOf (d.toNat : Int) = d := by
  unfold byteOf
  rw [Int.toNat_natCast, UInt8.ofNat_toNat]
theorem insOf_byteful (b : List UInt8) (i : Nat) : (insOf b i).byteful = true := by simp [insOf, Ins.byteful, byt_nat]
theorem insOf_nth (b : List UInt8) (i j : Nat) (hj : j < 4) : (insOf b i).nth j = ((b.getD (4 * i + j) 0).toNat : Int) := by
  rcases (by omega : j = 0 ∨ j = 1 ∨ j = 2 ∨ j = 3) with rfl | rfl | rfl | rfl <;> rfl
theorem progOf_ok (b : List UInt8) (h : b.length ≤ 800) : progOk (progOf b) = true := by
  refine progOk_yes (by rw [progOf_len]; omega) (fun j hj => ?_)
  simp only [progOf, List.getElem_map]
  exact insOf_byteful _ _
theorem bytes_progOf (b : List UInt8) (h : b.length % 4 = 0) : bytesOf (progOf b) = b := by
  apply List.ext_getElem?
  intro n
  have hl : (bytesOf (progOf b)).length = b.length := by rw [bytesOf_len, progOf_len]; omega
  rcases Nat.lt_or_ge n b.length with hn | hn
  · have hi : n / 4 < (progOf b).length := by rw [progOf_len]; omega
    have e := bytesOf_get (progOf b) (n / 4) hi (n % 4) (by omega)
    rw [show 4 * (n / 4) + n % 4 = n by omega] at e
    rw [e, List.getElem?_eq_getElem hn]
    congr 1
    simp only [progOf, List.getElem_map, List.getElem_range]
    rw [insOf_nth _ _ _ (by omega), byteOf_nat, show 4 * (n / 4) + n % 4 = n by omega, List.getD_eq_getElem?_getD, List.getElem?_eq_getElem hn]
    rfl
  · rw [List.getElem?_eq_none (by omega), List.getElem?_eq_none hn]
theorem put_progOf (s : ByteArray) (h1 : s.size % 4 = 0) (h2 : s.size ≤ 800) : putRes (progOf s.data.toList) = .tuple #[.string s, .bool true] := by
  have e := size_list s
  rw [putRes_yes (progOf_ok _ (by omega)), bytes_progOf _ (by omega)]
theorem get_bytes (l : List Ins) (w : World) (h1 : l.length ≤ 200) (h2 : ∀ x ∈ l, x.byteful = true) :
    Calls Tryd.prog 16 #[.string ⟨(bytesOf l).toArray⟩] w fun e w' => ∃ v, e = .returned (.tuple #[v, .bool true]) ∧ w'.ownsRow w.heap.size 28 4 v l.length (enc Ins.cells l) ∧ Below w.heap.size w w' := by
  have hs : (⟨(bytesOf l).toArray⟩ : ByteArray).size = 4 * l.length := by show (bytesOf l).toArray.size = _; simp [bytesOf_len]
  have h := get_yes ⟨(bytesOf l).toArray⟩ w (by rw [hs]; omega) (by rw [hs]; omega)
  rw [hs, show 4 * l.length / 4 = l.length by omega] at h
  rw [show (⟨(bytesOf l).toArray⟩ : ByteArray).data.toList = bytesOf l from by simp, progOf_bytes l h2] at h
  exact h
set_option maxRecDepth 100000 in
set_option maxHeartbeats 8000000 in
theorem tells_walk (A : Option Addr) (l : List Ins) (c : Nat) (s : ByteArray) (w : World) (ht : Tab w) (hr : Arr w Ins.cells 4 A l) (hf : ∀ x ∈ l, x.fits) :
    Calls Tryd.prog 3 #[.slice A l.length c, .string s] w fun e w' => e = .returned (.bool true) ∧ Below w.heap.size w w' := by
  have HT := Lib.hid ht
  have HR := Lib.hid hr
  have HF := Lib.hid hf
  have K1 := Lib.hid (alive_any w ht)
  clear ht hr hf
  by_cases hl : 250 < l.length
  · have d0 : decide ((l.length : Int) > 250) = true := decide_eq_true (by omega)
    go_enter Tryd.func3, Tryd.ntmps3
    go_wp2_with fail
    refine K1.out.mono ?_
    rintro e w1 ⟨rfl, hb⟩
    have HB := Lib.hid hb
    clear hb
    go_wp2_with fail
    go_ret
    exact ⟨rfl, HB.out⟩
  have d0 : decide ((l.length : Int) > 250) = false := decide_eq_false (by omega)
  by_cases hs : 1200 < s.size
  · have d1 : decide ((s.size : Int) > 1200) = true := decide_eq_true (by omega)
    go_enter Tryd.func3, Tryd.ntmps3
    go_wp2_with fail
    refine K1.out.mono ?_
    rintro e w1 ⟨rfl, hb⟩
    have HB := Lib.hid hb
    clear hb
    go_wp2_with fail
    go_ret
    exact ⟨rfl, HB.out⟩
  have d1 : decide ((s.size : Int) > 1200) = false := decide_eq_false (by omega)
  have hl2 : l.length ≤ 250 := by omega
  have hs2 : s.size ≤ 1200 := by omega
  clear hl hs
  go_enter Tryd.func3, Tryd.ntmps3
  go_wp2_with fail
  refine K1.out.mono ?_
  rintro e w1 ⟨rfl, hb1⟩
  have HB1 := Lib.hid hb1
  have KL := Lib.hid (lent_any A l c w1 (HR.out.below hb1) (by omega))
  clear hb1 K1
  go_wp2_with fail
  refine KL.out.mono ?_
  rintro e w2 ⟨B, q, rfl, hq, hown2, hb2⟩
  have hq2 : l.length + 1 ≤ q := by obtain ⟨A', c', e', h'⟩ := own_form hown2; injection e' with _ _ e'; omega
  have HM2 := Lib.hid (show Arr w2 Ins.cells 4 B (l ++ [⟨-77, 0, 0, 0⟩]) from by
    have := Reads.of_own hown2
    rw [Arr, List.length_append]; exact this)
  have HB2 := Lib.hid (below_then HB1.out hb2)
  have KP := Lib.hid (put_any B l q w2 (arr_prefix HM2.out))
  clear hown2 hb2 KL
  go_wp2_with fail
  refine KP.out.mono ?_
  rintro e w3 ⟨rfl, hb3⟩
  have HB3 := Lib.hid (below_then HB2.out hb3)
  have HM3 := Lib.hid (HM2.out.below hb3)
  clear hb3 KP
  obtain ⟨ok, hok⟩ : ∃ ok, progOk l = ok := ⟨_, rfl⟩
  obtain ⟨out, hout⟩ : ∃ out : List UInt8, out = if ok then bytesOf l else [] := ⟨_, rfl⟩
  have hput : putRes l = .tuple #[.string ⟨out.toArray⟩, .bool ok] := by
    rw [hout, putRes, hok]
    cases ok <;> rfl
  rw [hput]
  have HOK := Lib.hid hok
  have HOUT := Lib.hid hout
  clear hok hout hput
  obtain ⟨L, hL1⟩ : ∃ L, decide ((l.length : Int) ≤ 200) = L := ⟨_, rfl⟩
  have hL2 : decide (l.length ≤ 200) = L := by rw [← hL1]; exact decide_eq_decide.mpr (by omega)
  go_upto_block 0 with fail
  go_cut [8, 9] (fun m v wx => ∃ (M : Bool) (b : List UInt8), m = .bool M ∧ v = .string ⟨b.toArray⟩ ∧ Hid (SInv L (l.flatMap Ins.vals) M b) ∧ Hid (Below w3.heap.size w3 wx))
  case first =>
    as_aux_lemma =>
      go_wp2_with fail
      go_loopw [8, 9, 10] (fun m v i wr => ∃ (k : Nat) (M : Bool) (b : List UInt8), k ≤ l.length ∧ i = .int .i64 (k : Int) ∧ m = .bool M ∧ v = .string ⟨b.toArray⟩ ∧ Hid (SInv L ((l.take k).flatMap Ins.vals) M b) ∧ Hid (Below w3.heap.size w3 wr)) (fun _ _ i _ => l.length - (intOf i).toNat)
      case atStart => exact ⟨0, L, [], Nat.zero_le _, rfl, rfl, rfl, Lib.hid (SInv.nil _), Lib.hid (Below.refl _ _)⟩
      case round =>
        obtain ⟨k, M, b, hk, rfl, rfl, rfl, HI, HB⟩ := hrel
        by_cases hlt : k < l.length
        · obtain ⟨ad, rfl, c0, c1, c2, c3⟩ := codes_at (HR.out.below (below_then HB3.out HB.out)) k hlt
          have p1 : (0 : Int) ≤ k := by omega
          have p2 : (k : Int) < l.length := by omega
          have HFX := Lib.hid (HF.out _ (List.getElem_mem hlt))
          have HTK := Lib.hid (flat_take hlt)
          have hlb := HI.out.2.1
          have hb1 : b.length ≤ 1000 := by
            rw [hlb]
            have : ((l.take k).flatMap Ins.vals).length = 4 * k := by
              have h1 : ∀ m : List Ins, (m.flatMap Ins.vals).length = 4 * m.length := fun m => by
                induction m with
                | nil => rfl
                | cons x m ih => rw [List.flatMap_cons, List.length_append, ih]; simp [Ins.vals]; omega
              rw [h1, List.length_take]; omega
            omega
          generalize l[k] = x at c0 c1 c2 c3 HFX HTK
          have z0 := cell_lt c0
          clear hlb
          have C4 := Lib.hid (show ∀ W, Below wr.heap.size wr W → W.cell? (ad.add (k * 4)) = some (.int .i64 x.op) ∧ W.cell? ⟨(ad.add (k * 4)).block, (ad.add (k * 4)).off + 1, none⟩ = some (.int .i64 x.a) ∧ W.cell? ⟨(ad.add (k * 4)).block, (ad.add (k * 4)).off + 2, none⟩ = some (.int .i64 x.b) ∧ W.cell? ⟨(ad.add (k * 4)).block, (ad.add (k * 4)).off + 3, none⟩ = some (.int .i64 x.c) from fun W hb =>
            ⟨(hb.cell (cell_lt c0)).trans c0, (hb.cell (cell_lt c1)).trans c1, (hb.cell (cell_lt c2)).trans c2, (hb.cell (cell_lt c3)).trans c3⟩)
          go_upto_region 10 with fail
          refine r10 ad l.length c k x.op x.a x.b x.c _ _ _ _ _ _ _ _ _ _ _ _ _ _ _ _ _ _ _ _ _ _ _ _ _ _ _ _ _ _ _ _ _ _ _ _ _ _ _ _ _ _ _ _ _ _ _ _ _ _ _ _ _ _ _ _ _ _ _ _ _ _ _ _ _ _ _ _ _ _ _ _ _ _ _ _ _ _ _ _ _ _ _ _ _ _ _ _ _ _ _ _ _ _ _ _ _ _ _ _ _ _ _ _ _ _ _ _ _ _ _ _ _ _ _ _ _ _ _ _ _ _ _ _ _ _ _ _ _ _ _ _ _ _ _ _ _ _ _ _ _ _ _ _ _ _ _ _ _ _ _ _ _ _ _ _ _ _ _ _ _ _ _ _ _ _ _ _ _ _ _ _ _ _ _ _ _ _ _ _ _ _ _ _ _ _ _ _ _ _ _ _ _ _ _ _ _ _ _ _ _ _ _ _ _ _ _ _ _ _ _ _ _ _ _ _ _ _ _ _ _ _ _ _ _ _ _ _ _ _ _ _ _ _ _ _ _ _ _ _ _ _ _ _ _ _ _ _ _ _ _ _ _ _ _ _ _ _ _ _ _ _ _ _ _ _ _ _ _ _ _ _ _ _ _ _ _ _ _ _ _ _ _ _ _ _ _ _ _ _ _ _ _ _ _ _ _ _ _ _ _ _ _ _ _ _ _ _ _ _ _ _ _ _ _ _ _ _ _ _ _ _ _ _ _ _ _ _ _ _ _ _ _ _ wr p1 p2 hlt c0 c1 c2 c3 ?_
          intro t51 t52 t53 t54 t55 t56 t57 t58 t59 t60 t61 t62 t63 t64 t65 t66 t67 t68 t69 t70 wq hpost
          dsimp only
          have HLT := Lib.hid hpost.1
          have HBr := Lib.hid hpost.2
          clear hpost
          have HBq := Lib.hid (below_then HB.out HBr.out)
          have hzq : wr.heap.size < wq.heap.size := HLT.out.lt
          clear c0 c1 c2 c3 z0
          have HLT2 := Lib.hid (show ∀ W, Below wq.heap.size wq W → ∀ t, t < 4 → W.cell? ⟨wr.heap.size, t, none⟩ = some (.int .i64 (x.nth t)) from fun W hb t ht => by
            have h := (HLT.out.below hb HLT.out.lt).cell t
            rw [h]
            rcases (by omega : t = 0 ∨ t = 1 ∨ t = 2 ∨ t = 3) with rfl | rfl | rfl | rfl <;> rfl)
          go_upto_block 2 with fail
          go_cut [8, 9] (fun m v wx => ∃ (M' : Bool) (b' : List UInt8), m = .bool M' ∧ v = .string ⟨b'.toArray⟩ ∧ Hid (SInv L ((l.take (k + 1)).flatMap Ins.vals) M' b') ∧ Hid (Below wq.heap.size wq wx))
          case first =>
            as_aux_lemma =>
              go_wp2_with fail
              go_loopw [8, 9, 12, 73] (fun m v _ i wi => ∃ (t : Nat) (M' : Bool) (b' : List UInt8), t ≤ 4 ∧ i = .int .i64 (t : Int) ∧ m = .bool M' ∧ v = .string ⟨b'.toArray⟩ ∧ b'.length = b.length + t ∧ Hid (SInv L ((l.take k).flatMap Ins.vals ++ x.vals.take t) M' b') ∧ Hid (Below wq.heap.size wq wi)) (fun _ _ _ i _ => 4 - (intOf i).toNat)
              case atStart => exact ⟨0, M, b, by omega, rfl, rfl, rfl, by omega, Lib.hid (by simpa using HI.out), Lib.hid (Below.refl _ _)⟩
              case round =>
                obtain ⟨t, M', b', ht4, rfl, rfl, rfl, hbl, HI2, HB4⟩ := hrel
                by_cases htl : t < 4
                · have v0 := HLT2.out _ HB4.out t htl
                  have hvt : x.vals.take (t + 1) = x.vals.take t ++ [x.nth t] := by
                    rcases (by omega : t = 0 ∨ t = 1 ∨ t = 2 ∨ t = 3) with rfl | rfl | rfl | rfl <;> rfl
                  generalize x.nth t = v at v0 hvt
                  have HVT := Lib.hid hvt
                  have hcv := conv_one wr (lowByte v) _ (low_val v)
                  have hb2 : b'.length ≤ 1010 := by omega
                  have HS := Lib.hid (fun (m' : Bool) (hm : m' = (M' && byt v)) => HI2.out.step v m' (lowByte v) hm low_byt)
                  have hz4 := HB4.out.size
                  have HCT := Lib.hid (cat_snoc b' (lowByte v))
                  rcases (by
                    cases M'
                    · exact .inl rfl
                    · by_cases h0 : 0 ≤ v
                      · by_cases h1 : v ≤ 255
                        · exact .inr (.inr (.inr ⟨rfl, h0, h1⟩))
                        · exact .inr (.inr (.inl ⟨rfl, h0, h1⟩))
                      · exact .inr (.inl ⟨rfl, h0⟩) : M' = false ∨ (M' = true ∧ ¬ 0 ≤ v) ∨ (M' = true ∧ 0 ≤ v ∧ ¬ v ≤ 255) ∨ (M' = true ∧ 0 ≤ v ∧ v ≤ 255)) with rfl | ⟨rfl, h0⟩ | ⟨rfl, h0, h1⟩ | ⟨rfl, h0, h1⟩
                  · go_wp2_with fail
                    go_roundw
                    case rel =>
                      refine ⟨t + 1, false, b' ++ [lowByte v], by omega, by go_num, rfl, congrArg Value.string HCT.out, by simp; omega, ?_, ?_⟩
                      · show SInv _ _ _ _
                        rw [HVT.out, ← List.append_assoc]; exact HS.out _ rfl
                      · show Below _ _ _
                        exact HB4.out.alloc hz4 _
                    case measure => simp [intOf]; omega
                  · have e0 : decide (v ≥ 0) = false := decide_eq_false h0
                    have hby : byt v = false := decide_eq_false (fun h => h0 h.1)
                    go_wp2_with fail
                    go_roundw
                    case rel =>
                      refine ⟨t + 1, false, b' ++ [lowByte v], by omega, by go_num, by simp, congrArg Value.string HCT.out, by simp; omega, ?_, ?_⟩
                      · show SInv _ _ _ _
                        rw [HVT.out, ← List.append_assoc]; exact HS.out _ (by rw [hby]; rfl)
                      · show Below _ _ _
                        exact HB4.out.alloc hz4 _
                    case measure => simp [intOf]; omega
                  · have e0 : decide (v ≥ 0) = true := decide_eq_true h0
                    have e1 : decide (v ≤ 255) = false := decide_eq_false h1
                    have hby : byt v = false := decide_eq_false (fun h => h1 h.2)
                    go_wp2_with fail
                    go_roundw
                    case rel =>
                      refine ⟨t + 1, false, b' ++ [lowByte v], by omega, by go_num, by simp, congrArg Value.string HCT.out, by simp; omega, ?_, ?_⟩
                      · show SInv _ _ _ _
                        rw [HVT.out, ← List.append_assoc]; exact HS.out _ (by rw [hby]; rfl)
                      · show Below _ _ _
                        exact HB4.out.alloc hz4 _
                    case measure => simp [intOf]; omega
                  · have e0 : decide (v ≥ 0) = true := decide_eq_true h0
                    have e1 : decide (v ≤ 255) = true := decide_eq_true h1
                    have hby : byt v = true := decide_eq_true ⟨h0, h1⟩
                    have hcv2 := conv_one wr (lowByte v) v (by rw [low_val]; omega)
                    go_wp2_with fail
                    go_roundw
                    case rel =>
                      refine ⟨t + 1, true, b' ++ [lowByte v], by omega, by go_num, by simp, congrArg Value.string HCT.out, by simp; omega, ?_, ?_⟩
                      · show SInv _ _ _ _
                        rw [HVT.out, ← List.append_assoc]; exact HS.out _ (by rw [hby]; rfl)
                      · show Below _ _ _
                        exact HB4.out.alloc hz4 _
                    case measure => simp [intOf]; omega
                · have ht : t = 4 := by omega
                  subst ht
                  go_wp2_with fail
                  go_meet
                  exact ⟨M', b', rfl, rfl, Lib.hid (by rw [← HTK.out]; exact HI2.out), HB4⟩
          obtain ⟨M', b', rfl, rfl, HIN, HB4⟩ := hcut
          obtain ⟨wz, hwz⟩ : ∃ wz, wz = wc := ⟨_, rfl⟩
          subst hwz
          have HBz := Lib.hid (below_then HBr.out HB4.out)
          obtain ⟨c0, c1, c2, c3⟩ := C4.out _ HBz.out
          have z0 := cell_lt c0
          have hxf := HFX.out
          obtain ⟨xo, xa, xb, xc⟩ := x
          simp only at c0 c1 c2 c3
          have C5 := Lib.hid (show ∀ W, Below wz.heap.size wz W → W.cell? (ad.add (k * 4)) = some (.int .i64 xo) ∧ W.cell? ⟨(ad.add (k * 4)).block, (ad.add (k * 4)).off + 1, none⟩ = some (.int .i64 xa) ∧ W.cell? ⟨(ad.add (k * 4)).block, (ad.add (k * 4)).off + 2, none⟩ = some (.int .i64 xb) ∧ W.cell? ⟨(ad.add (k * 4)).block, (ad.add (k * 4)).off + 3, none⟩ = some (.int .i64 xc) from fun W hb => C4.out W (HBz.out.trans (hb.mono HBz.out.size)))
          have HTZ := Lib.hid (HT.out.below (below_then HB3.out (HBq.out.trans (HB4.out.mono HBq.out.size))))
          have HFX2 := Lib.hid hxf
          have HBY := Lib.hid (HBq.out.trans (HB4.out.mono HBq.out.size))
          obtain ⟨nm, hnm⟩ : ∃ nm, opName xo = nm := ⟨_, rfl⟩
          have HNM := Lib.hid hnm
          have hnl : nm.length ≤ 10 := by rw [← hnm]; exact opName_len xo
          clear hxf hnm HFX C4 HTK HLT HLT2
          go_upto_region 16 with fail
          refine r16 ad l.length c k xo xa xb xc _ _ _ _ _ _ _ _ _ _ _ _ _ _ _ _ _ _ _ _ _ _ _ _ _ _ _ _ _ _ _ _ _ _ _ _ _ _ _ _ _ _ _ _ _ _ _ _ _ _ _ _ _ _ _ _ _ _ _ _ _ _ _ _ _ _ _ _ _ _ _ _ _ _ _ _ _ _ _ _ _ _ _ _ _ _ _ _ _ _ _ _ _ _ _ _ _ _ _ _ _ _ _ _ _ _ _ _ _ _ _ _ _ _ _ _ _ _ _ _ _ _ _ _ _ _ _ _ _ _ _ _ _ _ _ _ _ _ _ _ _ _ _ _ _ _ _ _ _ _ _ _ _ _ _ _ _ _ _ _ _ _ _ _ _ _ _ _ _ _ _ _ _ _ _ _ _ _ _ _ _ _ _ _ _ _ _ _ _ _ _ _ _ _ _ _ _ _ _ _ _ _ _ _ _ _ _ _ _ _ _ _ _ _ _ _ _ _ _ _ _ _ _ _ _ _ _ _ _ _ _ _ _ _ _ _ _ _ _ _ _ _ _ _ _ _ _ _ _ _ _ _ _ _ _ _ _ _ _ _ _ _ _ _ _ _ _ _ _ _ _ _ _ _ _ _ _ _ _ _ _ _ _ _ _ _ _ _ _ _ _ _ _ _ _ _ _ _ _ _ _ _ _ _ _ _ _ _ _ _ _ _ _ _ _ _ _ _ _ _ _ _ _ _ _ _ _ _ _ _ _ _ _ _ wz p1 p2 hlt c0 c1 c2 c3 ?_
          intro t93 t94 t95 t96 t97 t98 t99 t100 t101 t102 t103 t104 wy hpost
          dsimp only
          have HBW := Lib.hid hpost
          clear hpost
          have C6 := Lib.hid (show ∀ W, Below wy.heap.size wy W → W.cell? (ad.add (k * 4)) = some (.int .i64 xo) ∧ W.cell? ⟨(ad.add (k * 4)).block, (ad.add (k * 4)).off + 1, none⟩ = some (.int .i64 xa) ∧ W.cell? ⟨(ad.add (k * 4)).block, (ad.add (k * 4)).off + 2, none⟩ = some (.int .i64 xb) ∧ W.cell? ⟨(ad.add (k * 4)).block, (ad.add (k * 4)).off + 3, none⟩ = some (.int .i64 xc) from fun W hb => C5.out W (below_then HBW.out hb))
          obtain ⟨c0, c1, c2, c3⟩ := C6.out _ (Below.refl _ _)
          have z0 := cell_lt c0
          go_upto_region 18 with fail
          refine r18 ad l.length c k xo xa xb xc _ _ _ _ _ _ _ _ _ _ _ _ _ _ _ _ _ _ _ _ _ _ _ _ _ _ _ _ _ _ _ _ _ _ _ _ _ _ _ _ _ _ _ _ _ _ _ _ _ _ _ _ _ _ _ _ _ _ _ _ _ _ _ _ _ _ _ _ _ _ _ _ _ _ _ _ _ _ _ _ _ _ _ _ _ _ _ _ _ _ _ _ _ _ _ _ _ _ _ _ _ _ _ _ _ _ _ _ _ _ _ _ _ _ _ _ _ _ _ _ _ _ _ _ _ _ _ _ _ _ _ _ _ _ _ _ _ _ _ _ _ _ _ _ _ _ _ _ _ _ _ _ _ _ _ _ _ _ _ _ _ _ _ _ _ _ _ _ _ _ _ _ _ _ _ _ _ _ _ _ _ _ _ _ _ _ _ _ _ _ _ _ _ _ _ _ _ _ _ _ _ _ _ _ _ _ _ _ _ _ _ _ _ _ _ _ _ _ _ _ _ _ _ _ _ _ _ _ _ _ _ _ _ _ _ _ _ _ _ _ _ _ _ _ _ _ _ _ _ _ _ _ _ _ _ _ _ _ _ _ _ _ _ _ _ _ _ _ _ _ _ _ _ _ _ _ _ _ _ _ _ _ _ _ _ _ _ _ _ _ _ _ _ _ _ _ _ _ _ _ _ _ _ _ _ _ _ _ _ _ _ _ _ _ _ _ _ _ _ _ _ _ _ _ _ _ _ _ _ _ _ _ _ _ wy p1 p2 hlt c0 c1 c2 c3 (Lib.hid (HTZ.out.below HBW.out)) HFX2 ?_
          intro t106 t107 t108 t109 t110 t111 t112 t113 t114 t115 t116 t117 t118 t119 t120 t121 t122 t123 t124 t125 t126 t127 t128 t129 t130 t131 t132 t133 t134 t135 t136 t137 t138 t139 t140 t141 t142 t143 t144 t145 t146 t147 t148 t149 t150 t151 t152 t153 t154 t155 t156 t157 t158 t159 t160 t161 t162 t163 t164 wx hpost
          dsimp only
          have HBV := Lib.hid (below_then HBW.out hpost)
          clear hpost
          have C7 := Lib.hid (show ∀ W, Below wx.heap.size wx W → W.cell? (ad.add (k * 4)) = some (.int .i64 xo) ∧ W.cell? ⟨(ad.add (k * 4)).block, (ad.add (k * 4)).off + 1, none⟩ = some (.int .i64 xa) ∧ W.cell? ⟨(ad.add (k * 4)).block, (ad.add (k * 4)).off + 2, none⟩ = some (.int .i64 xb) ∧ W.cell? ⟨(ad.add (k * 4)).block, (ad.add (k * 4)).off + 3, none⟩ = some (.int .i64 xc) from fun W hb => C5.out W (below_then HBV.out hb))
          obtain ⟨c0, c1, c2, c3⟩ := C7.out _ (Below.refl _ _)
          have z0 := cell_lt c0
          go_upto_region 20 with fail
          refine r20 ad l.length c k xo xa xb xc _ _ _ _ _ _ _ _ _ _ _ _ _ _ _ _ _ _ _ _ _ _ _ _ _ _ _ _ _ _ _ _ _ _ _ _ _ _ _ _ _ _ _ _ _ _ _ _ _ _ _ _ _ _ _ _ _ _ _ _ _ _ _ _ _ _ _ _ _ _ _ _ _ _ _ _ _ _ _ _ _ _ _ _ _ _ _ _ _ _ _ _ _ _ _ _ _ _ _ _ _ _ _ _ _ _ _ _ _ _ _ _ _ _ _ _ _ _ _ _ _ _ _ _ _ _ _ _ _ _ _ _ _ _ _ _ _ _ _ _ _ _ _ _ _ _ _ _ _ _ _ _ _ _ _ _ _ _ _ _ _ _ _ _ _ _ _ _ _ _ _ _ _ _ _ _ _ _ _ _ _ _ _ _ _ _ _ _ _ _ _ _ _ _ _ _ _ _ _ _ _ _ _ _ _ _ _ _ _ _ _ _ _ _ _ _ _ _ _ _ _ _ _ _ _ _ _ _ _ _ _ _ _ _ _ _ _ _ _ _ _ _ _ _ _ _ _ _ _ _ _ _ _ _ _ _ _ _ _ _ _ _ _ _ _ _ _ _ _ _ _ _ _ _ _ _ _ _ _ _ _ _ _ _ _ _ _ _ _ _ _ _ _ _ _ _ _ _ _ _ _ _ _ _ _ _ _ _ _ _ _ _ _ _ _ _ _ _ _ _ _ _ _ _ _ _ _ _ _ _ _ _ _ _ wx p1 p2 hlt c0 c1 c2 c3 ?_
          intro t166 t167 t168 t169 t170 t171 t172 t173 t174 t175 t176 t177 t178 t179 t180 t181 t182 t183 t184 t185 t186 t187 t188 t189 t190 t191 t192 t193 t194 t195 t196 t197 t198 t199 t200 t201 t202 t203 t204 t205 t206 t207 t208 t209 t210 t211 t212 t213 t214 t215 t216 t217 t218 t219 t220 t221 t222 t223 t224 t225 t226 t227 t228 t229 t230 t231 t232 t233 t234 t235 t236 t237 t238 t239 t240 t241 t242 t243 t244 t245 t246 t247 t248 tb tv wv hpost
          dsimp only
          have HTV := Lib.hid hpost.1
          have HBU := Lib.hid (below_then HBV.out hpost.2)
          clear hpost
          have C8 := Lib.hid (show ∀ W, Below wv.heap.size wv W → W.cell? (ad.add (k * 4)) = some (.int .i64 xo) ∧ W.cell? ⟨(ad.add (k * 4)).block, (ad.add (k * 4)).off + 1, none⟩ = some (.int .i64 xa) ∧ W.cell? ⟨(ad.add (k * 4)).block, (ad.add (k * 4)).off + 2, none⟩ = some (.int .i64 xb) ∧ W.cell? ⟨(ad.add (k * 4)).block, (ad.add (k * 4)).off + 3, none⟩ = some (.int .i64 xc) from fun W hb => C5.out W (below_then HBU.out hb))
          obtain ⟨c0, c1, c2, c3⟩ := C8.out _ (Below.refl _ _)
          have z0 := cell_lt c0
          go_upto_region 21 with fail
          refine r21 ad l.length c k tv xo xa xb xc tb _ _ _ _ _ _ _ _ _ _ _ _ _ _ _ _ _ _ _ _ _ _ _ _ _ _ _ _ _ _ _ _ _ _ _ _ _ _ _ _ _ _ _ _ _ _ _ _ _ _ _ _ _ _ _ _ _ _ _ _ _ _ _ _ _ _ _ _ _ _ _ _ _ _ _ _ _ _ _ _ _ _ _ _ _ _ _ _ _ _ _ _ _ _ _ _ _ _ _ _ _ _ _ _ _ _ _ _ _ _ _ _ _ _ _ _ _ _ _ _ _ _ _ _ _ _ _ _ _ _ _ _ _ _ _ _ _ _ _ _ _ _ _ _ _ _ _ _ _ _ _ _ _ _ _ _ _ _ _ _ _ _ _ _ _ _ _ _ _ _ _ _ _ _ _ _ _ _ _ _ _ _ _ _ _ _ _ _ _ _ _ _ _ _ _ _ _ _ _ _ _ _ _ _ _ _ _ _ _ _ _ _ _ _ _ _ _ _ _ _ _ _ _ _ _ _ _ _ _ _ _ _ _ _ _ _ _ _ _ _ _ _ _ _ _ _ _ _ _ _ _ _ _ _ _ _ _ _ _ _ _ _ _ _ _ _ _ _ _ _ _ _ _ _ _ _ _ _ _ _ _ _ _ _ _ _ _ _ _ _ _ _ _ _ _ _ _ _ _ _ _ _ _ _ _ _ _ _ _ _ _ _ _ _ _ _ _ _ _ _ _ _ _ _ _ _ _ _ _ _ _ _ wv p1 p2 hlt HTV c0 c1 c2 c3 ?_
          intro t174 t175 t176 t177 t178 t179 t180 t181 t182 t183 t184 t185 t186 t187 t188 t189 t190 t191 t192 t193 t194 t195 t196 t197 t198 t199 t200 t201 t202 t203 t204 t205 t206 t207 t208 t209 t210 t211 t212 t213 t214 t215 t216 t217 t218 t219 t220 t221 t222 t223 t224 t225 t226 t227 t228 t229 t230 t231 t232 t233 t234 t235 t236 t237 t238 t239 t240 t241 t242 t243 t244 t245 t246 t247 wu hpost
          dsimp only
          have HBE := Lib.hid (below_then HBU.out hpost)
          clear hpost
          have HBF := Lib.hid (below_then HBq.out (below_then HB4.out HBE.out))
          go_wp2_with fail
          go_roundw
          case rel => exact ⟨k + 1, M', b', by omega, by go_num, rfl, rfl, HIN, HBF⟩
          case measure => simp [intOf]; omega
        · have hkt : k = l.length := by omega
          subst hkt
          rw [List.take_length] at HI
          go_wp2_with fail
          go_meet
          exact ⟨M, b, rfl, rfl, HI, HB⟩
  case rest =>
    obtain ⟨M, b, rfl, rfl, HI, HBx⟩ := hcut
    obtain ⟨e1, e2⟩ : M = ok ∧ (ok = true → b = bytesOf l) := by
      have h := HI.out
      rw [← hL2] at h
      obtain ⟨e1, e2⟩ := h.ok
      rw [HOK.out] at e1 e2
      exact ⟨e1, e2⟩
    subst e1
    have HBB := Lib.hid e2
    have HBC := Lib.hid (below_then HB3.out HBx.out)
    have KST := Lib.hid (stays_any A B l c q wc (HR.out.below HBC.out) (HM3.out.below HBx.out) (by omega) hq2)
    have HRC := Lib.hid (HR.out.below HBC.out)
    have HTC := Lib.hid (HT.out.below HBC.out)
    clear e2 HI hL1 hL2
    cases M
    · have ho : out = [] := by rw [HOUT.out]; rfl
      subst ho
      by_cases hs : s.size % 4 = 0 ∧ s.size ≤ 800
      · obtain ⟨h1, h2⟩ := hs
        have q1 : ((s.size : Int) % 4 == 0) = true := beq_iff_eq.mpr (by omega)
        have q2 : decide ((s.size : Int) ≤ 800) = true := decide_eq_true (by omega)
        obtain ⟨P, hP⟩ : ∃ P, progOf s.data.toList = P := ⟨_, rfl⟩
        have hPl : s.size / 4 = P.length := by rw [← hP, progOf_len]; exact congrArg (· / 4) (size_list s)
        have KG := Lib.hid (fun W => get_yes s W h1 h2)
        rw [hP, hPl] at KG
        have KP2 := Lib.hid (fun (C : Option Addr) (d : Nat) (W : World) (hr : Arr W Ins.cells 4 C P) => put_any C P d W hr)
        have hpp : putRes P = .tuple #[.string s, .bool true] := by rw [← hP]; exact put_progOf s h1 h2
        rw [hpp] at KP2
        have hP8 : P.length ≤ 200 := by omega
        have HML := Lib.hid (show ∀ i, (BkCodes.more (fun _ => []) 0 P i).length ≤ 90000 from fun i => BkCodes.more_len (m := 0) (N := 90000) (c := fun _ => []) (fun _ => by simp) (by omega) i)
        clear hP hPl hpp
        go_wp2_with (first
          | (go_at_call 9
             refine (KP2.out A6 c6 _ (Reads.of_own (HK7.out.lists 0 _ rfl))).mono ?_
             rintro e w8 ⟨rfl, hb8⟩
             have HK8 := Lib.hid (HK7.out.below hb8)
             clear hb8)
          | (go_at_call 17
             revert HG6
             intro HG6
             refine (BkCodes.book_add HK6.out A6 c6 P (own_lower HG6.out (Nat.zero_le _)) (fun b hb ⟨v, hv, _⟩ => by simp at hv) (fun b hb => by
               have h1 := (own_block HG6.out b hb).1
               have h2 := HK5.out.behind.size
               omega) (by omega) (by simp)).mono ?_
             rintro e w7 ⟨rfl, hk7⟩
             have HK7 := Lib.hid hk7
             clear hk7)
          | (go_at_call 16
             refine (KG.out _).mono ?_
             rintro e w6 ⟨v6, rfl, ho6, hb6⟩
             have HK6 := Lib.hid (HK5.out.below hb6)
             obtain ⟨A6, c6, rfl, hc6⟩ := own_form ho6
             have HG6 := Lib.hid ho6
             clear ho6 hb6)
          | (go_at_call 15
             refine KST.out.mono ?_
             rintro e w4 ⟨rfl, hb4⟩
             have HB4 := Lib.hid (below_then HBC.out hb4)
             obtain ⟨X, hX⟩ : ∃ X, w4.heap.size = X := ⟨_, rfl⟩
             have hk5 := BkCodes.Book1.start w4
             rw [hX] at hk5
             unfold BkCodes.bookNil at hk5
             have HK5 := Lib.hid hk5
             have HRZ := Lib.hid (HRC.out.below hb4)
             have KSM := Lib.hid (fun (C : Option Addr) (d : Nat) (W : World) (ho : W.ownsRow 0 28 4 (.slice C l.length d) l.length (enc Ins.cells l)) (hb : Below w4.heap.size w4 W) => BkCodes.same_yes C A l d c W (Reads.of_own ho) (HRZ.out.below hb) (by omega))
             clear hk5 hb4)
          | (go_at_call 19
             refine (BkCodes.book_apart HK8.out (by simp) HML.out).mono ?_
             rintro e w12 ⟨rfl, hb12⟩
             have HB12 := Lib.hid hb12
             clear hb12))
        go_ret
        exact ⟨rfl, below_then HB4.out HB12.out⟩
      · have KG := Lib.hid (fun W => get_no s W (decide_eq_false hs))
        have HML := Lib.hid (show ∀ i, (BkCodes.more (fun _ => []) 0 [] i).length ≤ 90000 from fun i => BkCodes.more_len (m := 0) (N := 90000) (c := fun _ => []) (fun _ => by simp) (by simp) i)
        rcases (by omega : s.size % 4 ≠ 0 ∨ (s.size % 4 = 0 ∧ 800 < s.size)) with h1 | ⟨h1, h2⟩
        · have q1 : ((s.size : Int) % 4 == 0) = false := beq_eq_false_iff_ne.mpr (by omega)
          clear hs h1
          go_wp2_with (first
            | (go_at_call 17
               refine (BkCodes.book_add HK6.out none 0 [] (own_nil _ _ _ _) (fun b hb => by simp [Value.ownBlock] at hb) (fun b hb => by simp [Value.ownBlock] at hb) (by simp) (by simp)).mono ?_
               rintro e w7 ⟨rfl, hk7⟩
               have HK8 := Lib.hid hk7
               clear hk7)
            | (go_at_call 16
               refine (KG.out _).mono ?_
               rintro e w6 ⟨rfl, hb6⟩
               have HK6 := Lib.hid (HK5.out.below hb6)
               clear hb6)
            | (go_at_call 15
               refine KST.out.mono ?_
               rintro e w4 ⟨rfl, hb4⟩
               have HB4 := Lib.hid (below_then HBC.out hb4)
               obtain ⟨X, hX⟩ : ∃ X, w4.heap.size = X := ⟨_, rfl⟩
               have hk5 := BkCodes.Book1.start w4
               rw [hX] at hk5
               unfold BkCodes.bookNil at hk5
               have HK5 := Lib.hid hk5
               have HRZ := Lib.hid (HRC.out.below hb4)
               have KSM := Lib.hid (fun (C : Option Addr) (d : Nat) (W : World) (ho : W.ownsRow 0 28 4 (.slice C l.length d) l.length (enc Ins.cells l)) (hb : Below w4.heap.size w4 W) => BkCodes.same_yes C A l d c W (Reads.of_own ho) (HRZ.out.below hb) (by omega))
               clear hk5 hb4)
            | (go_at_call 19
               refine (BkCodes.book_apart HK8.out (by simp) HML.out).mono ?_
               rintro e w12 ⟨rfl, hb12⟩
               have HB12 := Lib.hid hb12
               clear hb12))
          go_ret
          exact ⟨rfl, below_then HB4.out HB12.out⟩
        · have q1 : ((s.size : Int) % 4 == 0) = true := beq_iff_eq.mpr (by omega)
          have q2 : decide ((s.size : Int) ≤ 800) = false := decide_eq_false (by omega)
          clear hs h1 h2
          go_wp2_with (first
            | (go_at_call 17
               refine (BkCodes.book_add HK6.out none 0 [] (own_nil _ _ _ _) (fun b hb => by simp [Value.ownBlock] at hb) (fun b hb => by simp [Value.ownBlock] at hb) (by simp) (by simp)).mono ?_
               rintro e w7 ⟨rfl, hk7⟩
               have HK8 := Lib.hid hk7
               clear hk7)
            | (go_at_call 16
               refine (KG.out _).mono ?_
               rintro e w6 ⟨rfl, hb6⟩
               have HK6 := Lib.hid (HK5.out.below hb6)
               clear hb6)
            | (go_at_call 15
               refine KST.out.mono ?_
               rintro e w4 ⟨rfl, hb4⟩
               have HB4 := Lib.hid (below_then HBC.out hb4)
               obtain ⟨X, hX⟩ : ∃ X, w4.heap.size = X := ⟨_, rfl⟩
               have hk5 := BkCodes.Book1.start w4
               rw [hX] at hk5
               unfold BkCodes.bookNil at hk5
               have HK5 := Lib.hid hk5
               have HRZ := Lib.hid (HRC.out.below hb4)
               have KSM := Lib.hid (fun (C : Option Addr) (d : Nat) (W : World) (ho : W.ownsRow 0 28 4 (.slice C l.length d) l.length (enc Ins.cells l)) (hb : Below w4.heap.size w4 W) => BkCodes.same_yes C A l d c W (Reads.of_own ho) (HRZ.out.below hb) (by omega))
               clear hk5 hb4)
            | (go_at_call 19
               refine (BkCodes.book_apart HK8.out (by simp) HML.out).mono ?_
               rintro e w12 ⟨rfl, hb12⟩
               have HB12 := Lib.hid hb12
               clear hb12))
          go_ret
          exact ⟨rfl, below_then HB4.out HB12.out⟩
    · have hbo : b = out := by rw [HBB.out rfl, HOUT.out]; rfl
      subst hbo
      have hol : b = bytesOf l := HBB.out rfl
      obtain ⟨p1, p2⟩ := progOk_of HOK.out
      have KG2 := Lib.hid (fun W => get_bytes l W p1 p2)
      rw [← hol] at KG2
      clear hol p2
      by_cases hs : s.size % 4 = 0 ∧ s.size ≤ 800
      · obtain ⟨h1, h2⟩ := hs
        have q1 : ((s.size : Int) % 4 == 0) = true := beq_iff_eq.mpr (by omega)
        have q2 : decide ((s.size : Int) ≤ 800) = true := decide_eq_true (by omega)
        obtain ⟨P, hP⟩ : ∃ P, progOf s.data.toList = P := ⟨_, rfl⟩
        have hPl : s.size / 4 = P.length := by rw [← hP, progOf_len]; exact congrArg (· / 4) (size_list s)
        have KG := Lib.hid (fun W => get_yes s W h1 h2)
        rw [hP, hPl] at KG
        have KP2 := Lib.hid (fun (C : Option Addr) (d : Nat) (W : World) (hr : Arr W Ins.cells 4 C P) => put_any C P d W hr)
        have hpp : putRes P = .tuple #[.string s, .bool true] := by rw [← hP]; exact put_progOf s h1 h2
        rw [hpp] at KP2
        have hP8 : P.length ≤ 200 := by omega
        have HML := Lib.hid (show ∀ i, (BkCodes.more (BkCodes.more (fun _ => []) 0 P) 1 l i).length ≤ 90000 from fun i => BkCodes.more_len (m := 1) (N := 90000) (BkCodes.more_len (m := 0) (c := fun _ => []) (fun _ => by simp) (by omega)) (by omega) i)
        clear hP hPl hpp
        go_wp2_with (first
          | (go_at_call 18
             revert HK10
             intro HK10
             refine (KSM.out _ _ _ (HK10.out.lists 1 _ rfl) HK10.out.behind).mono ?_
             rintro e w11 ⟨rfl, hb11⟩
             have HK11 := Lib.hid (HK10.out.below hb11)
             clear hb11)
          | (go_at_call 17
             revert HG9
             intro HG9
             refine (BkCodes.book_add HK9.out A9 c9 l (own_lower HG9.out (Nat.zero_le _)) (fun b hb hv => by
               have h1 := (own_block HG9.out b hb).1
               have h2 := HK8.out.lt b hv
               omega) (fun b hb => by
               have h1 := (own_block HG9.out b hb).1
               have h2 := HK8.out.behind.size
               omega) (by omega) (by simp)).mono ?_
             rintro e w10 ⟨rfl, hk10⟩
             have HK10 := Lib.hid hk10
             clear hk10)
          | (go_at_call 16
             revert HK8
             intro HK8
             refine (KG2.out _).mono ?_
             rintro e w9 ⟨v9, rfl, ho9, hb9⟩
             have HK9 := Lib.hid (HK8.out.below hb9)
             obtain ⟨A9, c9, rfl, hc9⟩ := own_form ho9
             have HG9 := Lib.hid ho9
             clear ho9 hb9)
          | (go_at_call 9
             refine (KP2.out A6 c6 _ (Reads.of_own (HK7.out.lists 0 _ rfl))).mono ?_
             rintro e w8 ⟨rfl, hb8⟩
             have HK8 := Lib.hid (HK7.out.below hb8)
             clear hb8)
          | (go_at_call 17
             revert HG6
             intro HG6
             refine (BkCodes.book_add HK6.out A6 c6 P (own_lower HG6.out (Nat.zero_le _)) (fun b hb ⟨v, hv, _⟩ => by simp at hv) (fun b hb => by
               have h1 := (own_block HG6.out b hb).1
               have h2 := HK5.out.behind.size
               omega) (by omega) (by simp)).mono ?_
             rintro e w7 ⟨rfl, hk7⟩
             have HK7 := Lib.hid hk7
             clear hk7)
          | (go_at_call 16
             refine (KG.out _).mono ?_
             rintro e w6 ⟨v6, rfl, ho6, hb6⟩
             have HK6 := Lib.hid (HK5.out.below hb6)
             obtain ⟨A6, c6, rfl, hc6⟩ := own_form ho6
             have HG6 := Lib.hid ho6
             clear ho6 hb6)
          | (go_at_call 15
             refine KST.out.mono ?_
             rintro e w4 ⟨rfl, hb4⟩
             have HB4 := Lib.hid (below_then HBC.out hb4)
             obtain ⟨X, hX⟩ : ∃ X, w4.heap.size = X := ⟨_, rfl⟩
             have hk5 := BkCodes.Book1.start w4
             rw [hX] at hk5
             unfold BkCodes.bookNil at hk5
             have HK5 := Lib.hid hk5
             have HRZ := Lib.hid (HRC.out.below hb4)
             have KSM := Lib.hid (fun (C : Option Addr) (d : Nat) (W : World) (ho : W.ownsRow 0 28 4 (.slice C l.length d) l.length (enc Ins.cells l)) (hb : Below w4.heap.size w4 W) => BkCodes.same_yes C A l d c W (Reads.of_own ho) (HRZ.out.below hb) (by omega))
             clear hk5 hb4)
          | (go_at_call 19
             refine (BkCodes.book_apart HK11.out (by simp) HML.out).mono ?_
             rintro e w12 ⟨rfl, hb12⟩
             have HB12 := Lib.hid hb12
             clear hb12))
        go_ret
        exact ⟨rfl, below_then HB4.out HB12.out⟩
      · have KG := Lib.hid (fun W => get_no s W (decide_eq_false hs))
        have HML := Lib.hid (show ∀ i, (BkCodes.more (BkCodes.more (fun _ => []) 0 []) 1 l i).length ≤ 90000 from fun i => BkCodes.more_len (m := 1) (N := 90000) (BkCodes.more_len (m := 0) (c := fun _ => []) (fun _ => by simp) (by simp)) (by omega) i)
        rcases (by omega : s.size % 4 ≠ 0 ∨ (s.size % 4 = 0 ∧ 800 < s.size)) with h1 | ⟨h1, h2⟩
        · have q1 : ((s.size : Int) % 4 == 0) = false := beq_eq_false_iff_ne.mpr (by omega)
          clear hs h1
          go_wp2_with (first
            | (go_at_call 18
               revert HK10
               intro HK10
               refine (KSM.out _ _ _ (HK10.out.lists 1 _ rfl) HK10.out.behind).mono ?_
               rintro e w11 ⟨rfl, hb11⟩
               have HK11 := Lib.hid (HK10.out.below hb11)
               clear hb11)
            | (go_at_call 17
               revert HG9
               intro HG9
               refine (BkCodes.book_add HK9.out A9 c9 l (own_lower HG9.out (Nat.zero_le _)) (fun b hb hv => by
                 have h1 := (own_block HG9.out b hb).1
                 have h2 := HK8.out.lt b hv
                 omega) (fun b hb => by
                 have h1 := (own_block HG9.out b hb).1
                 have h2 := HK8.out.behind.size
                 omega) (by omega) (by simp)).mono ?_
               rintro e w10 ⟨rfl, hk10⟩
               have HK10 := Lib.hid hk10
               clear hk10)
            | (go_at_call 16
               revert HK8
               intro HK8
               refine (KG2.out _).mono ?_
               rintro e w9 ⟨v9, rfl, ho9, hb9⟩
               have HK9 := Lib.hid (HK8.out.below hb9)
               obtain ⟨A9, c9, rfl, hc9⟩ := own_form ho9
               have HG9 := Lib.hid ho9
               clear ho9 hb9)
            | (go_at_call 17
               refine (BkCodes.book_add HK6.out none 0 [] (own_nil _ _ _ _) (fun b hb => by simp [Value.ownBlock] at hb) (fun b hb => by simp [Value.ownBlock] at hb) (by simp) (by simp)).mono ?_
               rintro e w7 ⟨rfl, hk7⟩
               have HK8 := Lib.hid hk7
               clear hk7)
            | (go_at_call 16
               refine (KG.out _).mono ?_
               rintro e w6 ⟨rfl, hb6⟩
               have HK6 := Lib.hid (HK5.out.below hb6)
               clear hb6)
            | (go_at_call 15
               refine KST.out.mono ?_
               rintro e w4 ⟨rfl, hb4⟩
               have HB4 := Lib.hid (below_then HBC.out hb4)
               obtain ⟨X, hX⟩ : ∃ X, w4.heap.size = X := ⟨_, rfl⟩
               have hk5 := BkCodes.Book1.start w4
               rw [hX] at hk5
               unfold BkCodes.bookNil at hk5
               have HK5 := Lib.hid hk5
               have HRZ := Lib.hid (HRC.out.below hb4)
               have KSM := Lib.hid (fun (C : Option Addr) (d : Nat) (W : World) (ho : W.ownsRow 0 28 4 (.slice C l.length d) l.length (enc Ins.cells l)) (hb : Below w4.heap.size w4 W) => BkCodes.same_yes C A l d c W (Reads.of_own ho) (HRZ.out.below hb) (by omega))
               clear hk5 hb4)
            | (go_at_call 19
               refine (BkCodes.book_apart HK11.out (by simp) HML.out).mono ?_
               rintro e w12 ⟨rfl, hb12⟩
               have HB12 := Lib.hid hb12
               clear hb12))
          go_ret
          exact ⟨rfl, below_then HB4.out HB12.out⟩
        · have q1 : ((s.size : Int) % 4 == 0) = true := beq_iff_eq.mpr (by omega)
          have q2 : decide ((s.size : Int) ≤ 800) = false := decide_eq_false (by omega)
          clear hs h1 h2
          go_wp2_with (first
            | (go_at_call 18
               revert HK10
               intro HK10
               refine (KSM.out _ _ _ (HK10.out.lists 1 _ rfl) HK10.out.behind).mono ?_
               rintro e w11 ⟨rfl, hb11⟩
               have HK11 := Lib.hid (HK10.out.below hb11)
               clear hb11)
            | (go_at_call 17
               revert HG9
               intro HG9
               refine (BkCodes.book_add HK9.out A9 c9 l (own_lower HG9.out (Nat.zero_le _)) (fun b hb hv => by
                 have h1 := (own_block HG9.out b hb).1
                 have h2 := HK8.out.lt b hv
                 omega) (fun b hb => by
                 have h1 := (own_block HG9.out b hb).1
                 have h2 := HK8.out.behind.size
                 omega) (by omega) (by simp)).mono ?_
               rintro e w10 ⟨rfl, hk10⟩
               have HK10 := Lib.hid hk10
               clear hk10)
            | (go_at_call 16
               revert HK8
               intro HK8
               refine (KG2.out _).mono ?_
               rintro e w9 ⟨v9, rfl, ho9, hb9⟩
               have HK9 := Lib.hid (HK8.out.below hb9)
               obtain ⟨A9, c9, rfl, hc9⟩ := own_form ho9
               have HG9 := Lib.hid ho9
               clear ho9 hb9)
            | (go_at_call 17
               refine (BkCodes.book_add HK6.out none 0 [] (own_nil _ _ _ _) (fun b hb => by simp [Value.ownBlock] at hb) (fun b hb => by simp [Value.ownBlock] at hb) (by simp) (by simp)).mono ?_
               rintro e w7 ⟨rfl, hk7⟩
               have HK8 := Lib.hid hk7
               clear hk7)
            | (go_at_call 16
               refine (KG.out _).mono ?_
               rintro e w6 ⟨rfl, hb6⟩
               have HK6 := Lib.hid (HK5.out.below hb6)
               clear hb6)
            | (go_at_call 15
               refine KST.out.mono ?_
               rintro e w4 ⟨rfl, hb4⟩
               have HB4 := Lib.hid (below_then HBC.out hb4)
               obtain ⟨X, hX⟩ : ∃ X, w4.heap.size = X := ⟨_, rfl⟩
               have hk5 := BkCodes.Book1.start w4
               rw [hX] at hk5
               unfold BkCodes.bookNil at hk5
               have HK5 := Lib.hid hk5
               have HRZ := Lib.hid (HRC.out.below hb4)
               have KSM := Lib.hid (fun (C : Option Addr) (d : Nat) (W : World) (ho : W.ownsRow 0 28 4 (.slice C l.length d) l.length (enc Ins.cells l)) (hb : Below w4.heap.size w4 W) => BkCodes.same_yes C A l d c W (Reads.of_own ho) (HRZ.out.below hb) (by omega))
               clear hk5 hb4)
            | (go_at_call 19
               refine (BkCodes.book_apart HK11.out (by simp) HML.out).mono ?_
               rintro e w12 ⟨rfl, hb12⟩
               have HB12 := Lib.hid hb12
               clear hb12))
          go_ret
          exact ⟨rfl, below_then HB4.out HB12.out⟩

theorem tells_row (A : Option Addr) (l : List Ins) (c : Nat) (s : ByteArray) (w : World) (ht : Tab w) (hr : Arr w Ins.cells 4 A l) (hc : l.length ≤ c) (hf : ∀ x ∈ l, x.fits) (hs : s.size ≤ 140737488351232) :
    Calls Tryd.prog 3 #[.slice A l.length c, .string s] w fun e w' => e = .returned (.bool true) ∧ Below w.heap.size w w' := tells_walk A l c s w ht hr hf
end Go.Proofs.YtdlapjfcmhkieaaDoor.Ver
