/- Peak's closure: the most cells so far. -/
import Derived.Test.YteminkohgagedaaMoReach
namespace Go.Proofs.Yteminkohgagedaa.Mo
open Go.RowKit Go.Proofs.Yteminkohgagedaa.Base Go.Proofs.Yteminkohgagedaa.Gr Go.Proofs.Yteminkohgagedaa.Ver
set_option linter.unusedVariables false
set_option linter.unusedSimpArgs false

set_option maxRecDepth 100000 in
set_option maxHeartbeats 4000000 in
theorem peak1_any {w : World} {o : Nat → Tag} {B hp pm pq N : Nat} {now last : Gr} (most : Nat) (h : HM w o B hp now last) (hs : Sound N now) (hN : N ≤ 90000) (Ar : Option Addr) (refs : List Int) (cr : Nat) (hr : Ints w Ar refs) (hrn : named refs now.nodes.length = true) (hrl : refs.length ≤ 4)
    (hm : Blk w pm 3 #[.int .i64 (most : Int)]) (hq : Blk w pq 60 #[.pointer (some ⟨hp, 0, none⟩)]) :
    Calls Try.prog 35 #[.slice Ar refs.length cr, .pointer (some ⟨pm, 0, none⟩), .pointer (some ⟨pq, 0, none⟩)] w fun e w' => e = .returned (.tuple #[]) ∧ Blk w' pm 3 #[.int .i64 ((max most (reach now refs) : Nat) : Int)] ∧ Mod (fun k => k = pm) w w' := by
  have c0 := hm.cell 0
  have c1 := hq.cell 0
  have zm := hm.lt
  have zq := hq.lt
  simp only [List.getElem?_toArray, List.getElem?_cons_zero] at c0 c1
  have K := reached_any (h.below (below_drewN (Below.refl _ _) 1)) hs hN Ar refs cr (hr.below (below_drewN (Below.refl _ _) 1)) hrn hrl
  generalize reach now refs = X at K ⊢
  have HK := Lib.hid K
  have HM := Lib.hid hm
  clear h hs hr hrn hm hq K
  by_cases hx : most < X
  · have hx1 : (most : Int) < (X : Int) := by omega
    have HE := Lib.hid (show max most X = X by omega)
    go_enter Try.func35, Try.ntmps35
    go_wp2_with fail
    go_region_law ((try go_simp); go_at_call 34; refine HK.out.mono ?_; rintro e w2 ⟨rfl, hb2⟩; have HB2 := Lib.hid (below_then (below_drewN (Below.refl _ w) 1) hb2); have hm2 := HM.out.below HB2.out HM.out.lt; have HM2 := Lib.hid hm2; have d0 := hm2.cell 0; have d1 := hm2.frozen 0; have d2 := hm2.lt; simp only [List.getElem?_toArray, List.getElem?_cons_zero] at d0; clear hb2 hm2)
    all_goals
      go_wp2
      refine bodyPost_end (results_none rfl _ _ _) rfl ⟨rfl, ?_, mod_set' (S := fun k => k = pm) (Mod.of_below HB2.out) rfl _⟩
      rw [HE.out]
      exact HM2.out.set_ 0 _
  · have hx1 : ¬ ((most : Int) < (X : Int)) := by omega
    have HE := Lib.hid (show max most X = most by omega)
    go_enter Try.func35, Try.ntmps35
    go_wp2_with fail
    go_region_law ((try go_simp); go_at_call 34; refine HK.out.mono ?_; rintro e w2 ⟨rfl, hb2⟩; have HB2 := Lib.hid (below_then (below_drewN (Below.refl _ w) 1) hb2); have hm2 := HM.out.below HB2.out HM.out.lt; have HM2 := Lib.hid hm2; have d0 := hm2.cell 0; have d1 := hm2.frozen 0; have d2 := hm2.lt; simp only [List.getElem?_toArray, List.getElem?_cons_zero] at d0; clear hb2 hm2)
    all_goals
      go_wp2
      refine bodyPost_end (results_none rfl _ _ _) rfl ⟨rfl, ?_, mod_set' (S := fun k => k = pm) (Mod.of_below HB2.out) rfl _⟩
      rw [HE.out]
      exact HM2.out.set_ 0 _

end Go.Proofs.Yteminkohgagedaa.Mo
