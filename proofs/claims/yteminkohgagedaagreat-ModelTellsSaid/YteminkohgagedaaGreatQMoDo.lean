/- A program that runs does an instruction. -/
import Derived.Test.YteminkohgagedaaGreatQMoRead
import Derived.Lib.SliceRun
import Derived.BigFrame
namespace Go.Proofs.YteminkohgagedaaGreat.Mo
open Go.RowKit Go.Proofs.YteminkohgagedaaGreat.Base Go.Proofs.YteminkohgagedaaGreat.Gr Go.Proofs.YteminkohgagedaaGreat.Ver
set_option linter.unusedVariables false
set_option linter.unusedSimpArgs false

section
variable {w w' w1 w2 : World} {o o' : Nat → Tag} {B hp rp rb nb : Nat} {AO : Option Addr} {cO : Nat} {σ σ' : St}
theorem After.from_ (hb : Below w.heap.size w w1) (h : After w1 o B hp rp rb nb AO σ' w') : After w o B hp rp rb nb AO σ' w' := by
  obtain ⟨o', AO', cO', h1, h2⟩ := h
  exact ⟨o', AO', cO', h1, (RTurn.of_below hb).trans h2⟩
theorem After.then_ (h : After w o B hp rp rb nb AO σ' w1) (hb : Below w1.heap.size w1 w2) : After w o B hp rp rb nb AO σ' w2 := by
  obtain ⟨o', AO', cO', h1, h2⟩ := h
  exact ⟨o', AO', cO', h1.below hb, h2.trans (RTurn.of_below hb)⟩
theorem after_pc (h : RM w o B hp rp rb nb AO cO σ) (ob : Obj) (n k : Nat) : After w o B hp rp rb nb AO { σ with pc := k } (((w.setCell ⟨rp, 3, none⟩ (.int .i64 (k : Int))).alloc ob).drewN n) :=
  ⟨o, AO, cO, (h.pc k).below (below_drewN (below_1 _ _) n), (rturn_cell (Below.refl _ _) hot_rp _ _).trans (RTurn.of_below (below_drewN (below_1 _ _) n))⟩
theorem after_same (h : RM w o B hp rp rb nb AO cO σ) (ob : Obj) (n : Nat) : After w o B hp rp rb nb AO σ ((w.alloc ob).drewN n) :=
  ⟨o, AO, cO, h.below (below_drewN (below_1 _ _) n), RTurn.of_below (below_drewN (below_1 _ _) n)⟩
theorem after_pc2 (h : RM w o B hp rp rb nb AO cO σ) (ob : Obj) (n k : Nat) : After w o B hp rp rb nb AO { σ with pc := k } (((w.alloc ob).drewN n).setCell ⟨rp, 3, none⟩ (.int .i64 (k : Int))) :=
  ⟨o, AO, cO, (h.below (below_drewN (below_1 _ _) n)).pc k, rturn_cell (below_drewN (below_1 _ _) n) hot_rp _ _⟩
/-- Behind a method of the heap. -/
theorem RM.callN (n : Nat) (h : RM w o B hp rp rb nb AO cO σ) (ho : ∀ k, w.heap.size ≤ k → o k = .other) (cs : Array Value) (t : TypeId) {now last : Gr} (ht : Turn ((w.alloc (.cells cs t)).drewN n) w' o o') (h2 : HM w' o' B hp now last) :
    RM w' o' B hp rp rb nb AO cO { σ with now := now, last := last } ∧ RTurn w w' o o' rp rb nb AO AO ∧ Blk w' w.heap.size t cs := by
  have hb := below_drewN (below_1 w (.cells cs t)) n
  refine ⟨(h.below hb).turn ht h2, ⟨Mod.trans (Mod.of_below hb) (ht.mod.mono (fun _ _ e => .inl e)) (fun _ _ e => e), fun k hk => ht.ext k (by simp; omega), fun _ _ e => e⟩, ?_⟩
  exact Base.Blk.mod ((Blk.new w t cs).drewN n) ht.mod (fun e => e (ho _ (Nat.le_refl _)))
theorem pu_zeros (l : List Int) (h : l.length = 4) : pu (pu (pu (pu l (0 : Nat) 0) (1 : Nat) 0) (2 : Nat) 0) (3 : Nat) 0 = [0, 0, 0, 0] := by
  match l, h with
  | [a, b, c, d], _ => rfl
theorem RM.clear (h : RM w o B hp rp rb nb AO cO σ) (hl : σ.refs.length = 4) : RM (w.setCells rb 0 (List.replicate 4 (.int .i64 0))) o B hp rp rb nb AO cO { σ with refs := [0, 0, 0, 0] } := by
  have := (((h.ref 0 0).ref 1 0).ref 2 0).ref 3 0
  dsimp only at this
  rw [pu_zeros _ hl] at this
  exact this
theorem rturn_clear (hb : Below w.heap.size w w1) : RTurn w (w1.setCells rb 0 (List.replicate 4 (.int .i64 0))) o o rp rb nb AO AO := by
  have h1 : Mod (fun k => k = rb) w1 (w1.setCells rb 0 (List.replicate 4 (.int .i64 0))) :=
    mod_set' (S := fun k => k = rb) (mod_set' (S := fun k => k = rb) (mod_set' (S := fun k => k = rb) (mod_set' (S := fun k => k = rb) (Mod.refl _ _) rfl _) rfl _) rfl _) rfl _
  exact ⟨Mod.trans (Mod.of_below hb) h1 (fun b _ e => by rw [e]; exact hot_rb), fun _ _ => rfl, fun _ _ e => e⟩
/-- One more number is told. -/
theorem RM.told (h : RM w o B hp rp rb nb AO cO σ) (ho : ∀ k, w.heap.size ≤ k → o k = .other) {W3 w4 : World} {v4 : Value} {L : Nat} (hL : σ.outs.length = L) (v : Int) (hb : Below w.heap.size w W3) (hg : W3.grownBy w4 (Value.slice AO L cO).ownBlock) (hown : w4.ownsRow B 3 1 v4 (L + 1) (enc ic σ.outs ++ [.int .i64 v]))
    (hat : v4.ownBlock = (Value.slice AO L cO).ownBlock ∨ v4.ownBlock = some W3.heap.size) :
    After w o B hp rp rb nb AO { σ with outs := σ.outs ++ [v] } (w4.setCell ⟨rp, 4, none⟩ v4) ∧ w4.cell? ⟨rp, 4, none⟩ = some (.slice AO L cO) ∧ w4.frozen? ⟨rp, 4, none⟩ = false ∧ rp < w4.heap.size := by
  subst hL
  obtain ⟨A4, c4, rfl, hc4⟩ := own_form hown
  have hm : Mod (fun k => blkOf AO = some k) w w4 := Mod.trans (Mod.of_below (S := fun k => blkOf AO = some k) hb) ((Mod.of_grown hg).mono (fun k _ e => own_of_blk e.symm)) (fun _ _ e => e)
  have hblk := h.blk.mod hm (fun e => h.ne_out e rfl)
  have hA4 : ∀ k, blkOf A4 = some k → blkOf AO = some k ∨ w.heap.size ≤ k := fun k e => by
    rcases hat with h1 | h1
    · rw [own_of_blk' e] at h1; exact .inl (own_of_blk h1.symm)
    · rw [own_of_blk' e] at h1; injection h1 with h1; have := hb.size; exact .inr (by omega)
  have c4' := hblk.cell 4
  simp only [List.getElem?_toArray, List.getElem?_cons_zero, List.getElem?_cons_succ] at c4'
  have z1 := h.blk.lt
  have z2 := h.refs.lt
  have z3 := h.nums.lt
  have hr := h.refs.mod hm (fun e => (h.oO rb e).2.1 rfl)
  have hn := h.nums.mod hm (fun e => (h.oO nb e).2.2 rfl)
  have hh : HM w4 o B hp σ.now σ.last := h.heap.keep hm (fun k _ e => (h.oO k e).1) (fun _ _ => rfl) (fun k hk _ e => absurd (ho k hk) e)
  have hlen : (σ.outs ++ [v]).length = σ.outs.length + 1 := by simp
  have hne4 : ∀ k, blkOf A4 = some k → k ≠ rp ∧ k ≠ rb ∧ k ≠ nb ∧ o k = .other := fun k e => by
    rcases hA4 k e with h1 | h1
    · exact ⟨h.ne_out h1, (h.oO k h1).2.1, (h.oO k h1).2.2, (h.oO k h1).1⟩
    · exact ⟨by omega, by omega, by omega, ho k h1⟩
  refine ⟨⟨o, A4, c4, ⟨hh.cellO h.orp _ _, ?_, hr.far (p := ⟨rp, 4, none⟩) (Ne.symm h.ne_rb) _, hn.far (p := ⟨rp, 4, none⟩) (Ne.symm h.ne_nb) _, ?_, h.orp, h.orb, h.onb, fun k e => ⟨(hne4 k e).2.2.2, (hne4 k e).2.1, (hne4 k e).2.2.1⟩, h.ne, h.lrp, h.lrb, h.lnb⟩,
    ⟨Mod.trans (hm.mono (fun k _ e => .inr (.inr (.inr (.inr e))))) (mod_set' (S := fun k => k = rp) (Mod.refl _ _) rfl _) (fun k _ e => by rw [e]; exact hot_rp), fun _ _ => rfl, fun k hk e => ?_⟩⟩, c4', hblk.frozen 4, hblk.lt⟩
  · have := hblk.set_ 4 (.slice A4 (σ.outs.length + 1) c4)
    show Blk _ _ _ #[_, _, _, _, .slice A4 (σ.outs ++ [v]).length c4]
    rw [hlen]
    exact this
  · show World.ownsRow _ B _ 1 (.slice A4 (σ.outs ++ [v]).length c4) (σ.outs ++ [v]).length (enc ic (σ.outs ++ [v]))
    rw [hlen, enc_append]
    exact own_far hown (p := ⟨rp, 4, none⟩) (fun e => (hne4 _ (own_of_blk e)).1 rfl) _
  · rcases hA4 k e with h1 | h1
    · exact h1
    · omega
end

theorem own_like2 {w W' : World} {base e size n : Nat} {v : Value} {xs : List Value} (h : w.ownsRow base e size v n xs) (o1 o2 : Obj) (hl : Like ((w.alloc o1).alloc o2) W') : W'.ownsRow base e size v n xs := own_like (own_below (own_below h (below_1 _ _)) (below_1 _ _)) hl
theorem below_like2 {w W3 : World} (o1 o2 : Obj) (hl : Like ((w.alloc o1).alloc o2) W3) : Below w.heap.size w W3 := by
  have hb := below_then (below_1 w o1) (below_1 _ o2)
  exact ⟨hl.os.trans hb.os, hl.tape.trans hb.tape, hl.output.trans hb.output, by rw [hl.heap]; exact hb.size, fun i hi => by rw [hl.heap]; exact hb.block i hi⟩
theorem zero_int (w : World) : (zeroValue 3).run Tryz.prog w = .ok (.int .i64 0) w := by kernel_rfl

set_option maxRecDepth 100000 in
set_option maxHeartbeats 8000000 in
theorem do_any {w : World} {o : Nat → Tag} {B hp rp rb nb : Nat} {AO : Option Addr} {cO : Nat} {σ : St} (h : RM w o B hp rp rb nb AO cO σ) (N : Nat) (hN : N ≤ 100000) (hw : Well N σ) (x : Ins) (n : Nat) (hx : x.ok n = true) (hop0 : x.op ≠ 0) :
    Calls Tryz.prog 77 #[.pointer (some ⟨rp, 0, none⟩), .agg #[.int .i64 x.op, .int .i64 x.a, .int .i64 x.b, .int .i64 x.c]] w fun e w' => e = .returned (.int .i64 (step x σ).1) ∧ After w o B hp rp rb nb AO (step x σ).2 w' := by
  suffices hh : Calls Tryz.prog 77 #[.pointer (some ⟨rp, 0, none⟩), .agg #[.int .i64 x.op, .int .i64 x.a, .int .i64 x.b, .int .i64 x.c]] w fun e w' => e = .returned (.int .i64 (step x σ).1) ∧ After w (norm w.heap.size o) B hp rp rb nb AO (step x σ).2 w' from
    hh.mono fun e w' hp => ⟨hp.1, hp.2.of_norm⟩
  replace h := h.norm
  have ho : ∀ k, w.heap.size ≤ k → norm w.heap.size o k = .other := fun k hk => norm_ge hk
  generalize norm w.heap.size o = o at h ho ⊢
  have hop : 0 ≤ x.op ∧ x.op < 23 := by
    have hx' := hx
    simp only [Ins.ok, one, Bool.and_eq_true, decide_eq_true_eq] at hx'
    exact hx'.1.1.1
  obtain ⟨p1, p2, p3⟩ := ok_parts hx
  obtain ⟨c0, c1, c2, c3, c4⟩ := h.cells
  have hn4 := hw.nums
  have hr4 := hw.refs
  have zr := h.blk.lt
  have zn := h.nums.lt
  have zf := h.refs.lt
  have zr1 : rp < w.heap.size + 1 := by omega
  have zn1 : nb < w.heap.size + 1 := by omega
  have zf1 : rb < w.heap.size + 1 := by omega
  have hfit := hw.now.fits hN
  have hfitL := hw.last.fits hN
  have hrng := fun i => named_gt i hw.refsN (by omega)
  have hb1 := fun ob : Obj => below_1 w ob
  have hcs : x.op = 1 ∨ x.op = 2 ∨ x.op = 3 ∨ x.op = 4 ∨ x.op = 5 ∨ x.op = 6 ∨ x.op = 9 ∨ x.op = 11 ∨ x.op = 13 ∨ x.op = 14 ∨ x.op = 15 ∨ x.op = 16 ∨ x.op = 17 ∨ x.op = 18 ∨ x.op = 19 ∨ x.op = 20 ∨ x.op = 7 ∨ x.op = 8 ∨ x.op = 10 ∨ x.op = 12 ∨ x.op = 21 ∨ x.op = 22 := by omega
  have hh1 := h.below (hb1 (.cells #[.int .i64 x.op, .int .i64 x.a, .int .i64 x.b, .int .i64 x.c] 58))
  by_cases hk : x.op = 1 ∨ x.op = 2 ∨ x.op = 3 ∨ x.op = 4
  · have HK := Lib.hid ((reckon_any hh1 N hw x n hx hk).mono (fun e w2 pst => (show e = _ ∧ After w o B hp rp rb nb AO (step x σ).2 w2 from ⟨pst.1, pst.2.from_ (hb1 _)⟩)))
    rcases hk with e | e | e | e
    · rw [step_1 σ e] at HK ⊢
      rw [e] at HK ⊢
      clear h hw hx p1 p2 p3 hop hcs hfit hfitL hrng ho hb1 hh1 hop0 e
      go_enter Tryz.func77, Tryz.ntmps77
      go_wp2_with (first | (go_at_call 101; refine HK.out.mono ?_; rintro e w2 ⟨rfl, hA⟩))
      go_ret
      exact ⟨rfl, hA⟩
    · rw [step_2 σ e] at HK ⊢
      rw [e] at HK ⊢
      clear h hw hx p1 p2 p3 hop hcs hfit hfitL hrng ho hb1 hh1 hop0 e
      go_enter Tryz.func77, Tryz.ntmps77
      go_wp2_with (first | (go_at_call 101; refine HK.out.mono ?_; rintro e w2 ⟨rfl, hA⟩))
      go_ret
      exact ⟨rfl, hA⟩
    · rw [step_3 σ e] at HK ⊢
      rw [e] at HK ⊢
      clear h hw hx p1 p2 p3 hop hcs hfit hfitL hrng ho hb1 hh1 hop0 e
      go_enter Tryz.func77, Tryz.ntmps77
      go_wp2_with (first | (go_at_call 101; refine HK.out.mono ?_; rintro e w2 ⟨rfl, hA⟩))
      go_ret
      exact ⟨rfl, hA⟩
    · rw [step_4 σ e] at HK ⊢
      rw [e] at HK ⊢
      clear h hw hx p1 p2 p3 hop hcs hfit hfitL hrng ho hb1 hh1 hop0 e
      go_enter Tryz.func77, Tryz.ntmps77
      go_wp2_with (first | (go_at_call 101; refine HK.out.mono ?_; rintro e w2 ⟨rfl, hA⟩))
      go_ret
      exact ⟨rfl, hA⟩
  by_cases hk2 : x.op = 17 ∨ x.op = 18 ∨ x.op = 19 ∨ x.op = 20
  · have HK := Lib.hid ((name_any hh1 N hw x n hx hk2).mono (fun e w2 pst => (show e = _ ∧ After w o B hp rp rb nb AO (step x σ).2 w2 from ⟨pst.1, pst.2.from_ (hb1 _)⟩)))
    rcases hk2 with e | e | e | e
    · rw [step_17 σ e] at HK ⊢
      rw [e] at HK ⊢
      clear h hw hx p1 p2 p3 hop hcs hfit hfitL hrng ho hb1 hh1 hop0 e hk
      go_enter Tryz.func77, Tryz.ntmps77
      go_wp2_with (first | (go_at_call 102; refine HK.out.mono ?_; rintro e w2 ⟨rfl, hA⟩))
      go_ret
      exact ⟨rfl, hA⟩
    · rw [step_18 σ e] at HK ⊢
      rw [e] at HK ⊢
      clear h hw hx p1 p2 p3 hop hcs hfit hfitL hrng ho hb1 hh1 hop0 e hk
      go_enter Tryz.func77, Tryz.ntmps77
      go_wp2_with (first | (go_at_call 102; refine HK.out.mono ?_; rintro e w2 ⟨rfl, hA⟩))
      go_ret
      exact ⟨rfl, hA⟩
    · rw [step_19 σ e] at HK ⊢
      rw [e] at HK ⊢
      clear h hw hx p1 p2 p3 hop hcs hfit hfitL hrng ho hb1 hh1 hop0 e hk
      go_enter Tryz.func77, Tryz.ntmps77
      go_wp2_with (first | (go_at_call 102; refine HK.out.mono ?_; rintro e w2 ⟨rfl, hA⟩))
      go_ret
      exact ⟨rfl, hA⟩
    · rw [step_20 σ e] at HK ⊢
      rw [e] at HK ⊢
      clear h hw hx p1 p2 p3 hop hcs hfit hfitL hrng ho hb1 hh1 hop0 e hk
      go_enter Tryz.func77, Tryz.ntmps77
      go_wp2_with (first | (go_at_call 102; refine HK.out.mono ?_; rintro e w2 ⟨rfl, hA⟩))
      go_ret
      exact ⟨rfl, hA⟩
  by_cases hk3 : x.op = 7 ∨ x.op = 8 ∨ x.op = 10 ∨ x.op = 12 ∨ x.op = 21 ∨ x.op = 22
  · have HK := Lib.hid ((read_any hh1 N hN hw x n hx hk3).mono (fun e w2 pst => (show e = _ ∧ After w o B hp rp rb nb AO (step x σ).2 w2 from ⟨pst.1, pst.2.from_ (hb1 _)⟩)))
    generalize (step x σ).2 = σ2 at HK ⊢
    generalize (step x σ).1 = e2 at HK ⊢
    rcases hk3 with e | e | e | e | e | e
    · rw [e] at HK ⊢
      clear h hw hx p1 p2 p3 hop hcs hfit hfitL hrng ho hb1 hh1 hop0 e hk hk2
      go_enter Tryz.func77, Tryz.ntmps77
      go_wp2_with (first | (go_at_call 103; refine HK.out.mono ?_; rintro e w2 ⟨rfl, hA⟩))
      go_ret
      exact ⟨rfl, hA⟩
    · rw [e] at HK ⊢
      clear h hw hx p1 p2 p3 hop hcs hfit hfitL hrng ho hb1 hh1 hop0 e hk hk2
      go_enter Tryz.func77, Tryz.ntmps77
      go_wp2_with (first | (go_at_call 103; refine HK.out.mono ?_; rintro e w2 ⟨rfl, hA⟩))
      go_ret
      exact ⟨rfl, hA⟩
    · rw [e] at HK ⊢
      clear h hw hx p1 p2 p3 hop hcs hfit hfitL hrng ho hb1 hh1 hop0 e hk hk2
      go_enter Tryz.func77, Tryz.ntmps77
      go_wp2_with (first | (go_at_call 103; refine HK.out.mono ?_; rintro e w2 ⟨rfl, hA⟩))
      go_ret
      exact ⟨rfl, hA⟩
    · rw [e] at HK ⊢
      clear h hw hx p1 p2 p3 hop hcs hfit hfitL hrng ho hb1 hh1 hop0 e hk hk2
      go_enter Tryz.func77, Tryz.ntmps77
      go_wp2_with (first | (go_at_call 103; refine HK.out.mono ?_; rintro e w2 ⟨rfl, hA⟩))
      go_ret
      exact ⟨rfl, hA⟩
    · rw [e] at HK ⊢
      clear h hw hx p1 p2 p3 hop hcs hfit hfitL hrng ho hb1 hh1 hop0 e hk hk2
      go_enter Tryz.func77, Tryz.ntmps77
      go_wp2_with (first | (go_at_call 103; refine HK.out.mono ?_; rintro e w2 ⟨rfl, hA⟩))
      go_ret
      exact ⟨rfl, hA⟩
    · rw [e] at HK ⊢
      clear h hw hx p1 p2 p3 hop hcs hfit hfitL hrng ho hb1 hh1 hop0 e hk hk2
      go_enter Tryz.func77, Tryz.ntmps77
      go_wp2_with (first | (go_at_call 103; refine HK.out.mono ?_; rintro e w2 ⟨rfl, hA⟩))
      go_ret
      exact ⟨rfl, hA⟩
  have hcs2 : x.op = 5 ∨ x.op = 6 ∨ x.op = 9 ∨ x.op = 11 ∨ x.op = 13 ∨ x.op = 14 ∨ x.op = 15 ∨ x.op = 16 := by omega
  clear hcs hk hk2 hk3 hop hop0
  rcases hcs2 with e | e | e | e | e | e | e | e
  · have hst := step_5 σ e
    rw [e] at p1 p2 p3
    obtain ⟨ia, ea, ha⟩ := num_free p1
    obtain ⟨ib, eb, hb⟩ := num_free p2
    obtain ⟨ic', ec, hc⟩ := num_free p3
    rw [hst]
    dsimp only
    obtain ⟨op, a, b, c⟩ := x
    simp only at e ea eb ec
    subst e ea eb ec
    have hpc : ((ib : Int) + 256 * (ic' : Int)).toNat = ib + 256 * ic' := by omega
    have hpc2 : (((ib + 256 * ic' : Nat)) : Int) = (ib : Int) + 256 * (ic' : Int) := by omega
    have HE := Lib.hid (fun ob n => after_pc2 h ob n (ib + 256 * ic'))
    rw [hpc2] at HE
    have f3 := h.blk.frozen 3
    rw [hpc]
    clear h hw hx p1 p2 p3 hst hfit hfitL hrng ho hb1 hh1 hpc hpc2
    go_enter Tryz.func77, Tryz.ntmps77
    go_wp2_with fail
    go_quiet (fail)
    go_wp2
    go_ret
    exact ⟨rfl, HE.out _ _⟩
  · have hst := step_6 σ e
    rw [e] at p1 p2 p3
    obtain ⟨ia, ea, ha⟩ := num_reg (by decide) p1
    obtain ⟨ib, eb, hb⟩ := num_free p2
    obtain ⟨ic', ec, hc⟩ := num_free p3
    rw [hst]
    dsimp only
    obtain ⟨op, a, b, c⟩ := x
    simp only at e ea eb ec
    subst e ea eb ec
    have hpc : ((ib : Int) + 256 * (ic' : Int)).toNat = ib + 256 * ic' := by omega
    have hpc2 : (((ib + 256 * ic' : Nat)) : Int) = (ib : Int) + 256 * (ic' : Int) := by omega
    have HE := Lib.hid (fun ob n => after_pc2 h ob n (ib + 256 * ic'))
    have HS := Lib.hid (fun ob n => after_same h ob n)
    rw [hpc2] at HE
    have f3 := h.blk.frozen 3
    have d0 := h.numAt hn4 ia ha
    have ha' : (ia : Int) < 4 := by omega
    generalize gt σ.nums (ia : Int) = v1 at d0 ⊢
    rw [hpc]
    clear h hw hx p1 p2 p3 hst hfit hfitL hrng ho hb1 hh1 hpc hpc2
    by_cases hv : v1 = 0
    · rw [if_pos hv]
      subst hv
      go_enter Tryz.func77, Tryz.ntmps77
      go_wp2_with fail
      go_quiet (fail)
      go_wp2
      go_ret
      exact ⟨rfl, HE.out _ _⟩
    · rw [if_neg hv]
      have hvb : (v1 == 0) = false := beq_eq_false_iff_ne.mpr hv
      clear hv
      go_enter Tryz.func77, Tryz.ntmps77
      go_wp2_with fail
      go_quiet (fail)
      go_wp2
      go_ret
      exact ⟨rfl, HS.out _ _⟩
  · have hst : step x σ = (atE (gt σ.refs x.a) x.c (nd σ.now (gt σ.refs x.a)).slots, { σ with now := if atE (gt σ.refs x.a) x.c (nd σ.now (gt σ.refs x.a)).slots = 0 then setSlot σ.now (gt σ.refs x.a) x.c (gt σ.refs x.b) else σ.now }) := by
      rw [step_9 σ e]
      split
      next h0 => rw [h0]
      next h0 => rfl
    rw [e] at p1 p2 p3
    obtain ⟨ia, ea, ha⟩ := num_reg (by decide) p1
    obtain ⟨ib, eb, hb⟩ := num_reg (by decide) p2
    obtain ⟨ic', ec, hc⟩ := num_free p3
    rw [hst]
    dsimp only
    obtain ⟨op, a, b, c⟩ := x
    simp only at e ea eb ec
    subst e ea eb ec
    have d1 := h.refAt hr4 ia ha
    have d2 := h.refAt hr4 ib hb
    have ha' : (ia : Int) < 4 := by omega
    have hb' : (ib : Int) < 4 := by omega
    have hrv := hrng (ia : Int)
    generalize gt σ.refs (ia : Int) = v1 at hrv d1 ⊢
    generalize gt σ.refs (ib : Int) = v2 at d2 ⊢
    have K := (put_any (h.heap.below (below_drewN (hb1 (.cells #[.int .i64 9, .int .i64 (ia : Int), .int .i64 (ib : Int), .int .i64 (ic' : Int)] 58)) 1)) hfit.nodes hfit.small v1 (ic' : Int) v2 hrv.1 hrv.2 (by omega)).mono (fun e w2 pst => (show e = _ ∧ After w o B hp rp rb nb AO _ w2 from ⟨pst.1, ⟨o, AO, cO, (h.callN 1 ho _ _ pst.2.2 pst.2.1).1, (h.callN 1 ho _ _ pst.2.2 pst.2.1).2.1⟩⟩))
    generalize (if atE v1 (ic' : Int) (nd σ.now v1).slots = 0 then setSlot σ.now v1 (ic' : Int) v2 else σ.now) = now2 at K ⊢
    generalize atE v1 (ic' : Int) (nd σ.now v1).slots = e2 at K ⊢
    have HK := Lib.hid K
    clear h hw hx p1 p2 p3 hst hfit hfitL hrng ho hb1 hh1 hrv K
    go_enter Tryz.func77, Tryz.ntmps77
    go_wp2_with fail
    refine wp_region_still_tail 24 (by kernel_rfl) (by kernel_rfl) ?_
    change wpStill _ _ (World.drew _) _ _ _
    simp only [List.take_succ_cons, List.take_zero, List.drop_succ_cons, List.drop_zero]
    repeat still_step
    refine wpStill_nil ?_
    change wpList _ _ _ _ _ (World.drew _)
    go_wp2_with (first | (go_at_call 132; refine HK.out.mono ?_; rintro e w2 ⟨rfl, hA⟩))
    go_ret
    exact ⟨rfl, hA⟩
  · have hst : step x σ = (atE (gt σ.refs x.a) x.c (nd σ.now (gt σ.refs x.a)).words, { σ with now := if atE (gt σ.refs x.a) x.c (nd σ.now (gt σ.refs x.a)).words = 0 then setWord σ.now (gt σ.refs x.a) x.c (gt σ.nums x.b) else σ.now }) := by
      rw [step_11 σ e]
      split
      next h0 => rw [h0]
      next h0 => rfl
    rw [e] at p1 p2 p3
    obtain ⟨ia, ea, ha⟩ := num_reg (by decide) p1
    obtain ⟨ib, eb, hb⟩ := num_reg (by decide) p2
    obtain ⟨ic', ec, hc⟩ := num_free p3
    rw [hst]
    dsimp only
    obtain ⟨op, a, b, c⟩ := x
    simp only at e ea eb ec
    subst e ea eb ec
    have d1 := h.refAt hr4 ia ha
    have d2 := h.numAt hn4 ib hb
    have ha' : (ia : Int) < 4 := by omega
    have hb' : (ib : Int) < 4 := by omega
    have hrv := hrng (ia : Int)
    generalize gt σ.refs (ia : Int) = v1 at hrv d1 ⊢
    generalize gt σ.nums (ib : Int) = v2 at d2 ⊢
    have K := (setword_any (h.heap.below (below_drewN (hb1 (.cells #[.int .i64 11, .int .i64 (ia : Int), .int .i64 (ib : Int), .int .i64 (ic' : Int)] 58)) 1)) hfit.nodes hfit.small v1 (ic' : Int) v2 hrv.1 hrv.2 (by omega)).mono (fun e w2 pst => (show e = _ ∧ After w o B hp rp rb nb AO _ w2 from ⟨pst.1, ⟨o, AO, cO, (h.callN 1 ho _ _ pst.2.2 pst.2.1).1, (h.callN 1 ho _ _ pst.2.2 pst.2.1).2.1⟩⟩))
    generalize (if atE v1 (ic' : Int) (nd σ.now v1).words = 0 then setWord σ.now v1 (ic' : Int) v2 else σ.now) = now2 at K ⊢
    generalize atE v1 (ic' : Int) (nd σ.now v1).words = e2 at K ⊢
    have HK := Lib.hid K
    clear h hw hx p1 p2 p3 hst hfit hfitL hrng ho hb1 hh1 hrv K
    go_enter Tryz.func77, Tryz.ntmps77
    go_wp2_with fail
    refine wp_region_still_tail 24 (by kernel_rfl) (by kernel_rfl) ?_
    change wpStill _ _ (World.drew _) _ _ _
    simp only [List.take_succ_cons, List.take_zero, List.drop_succ_cons, List.drop_zero]
    repeat still_step
    refine wpStill_nil ?_
    change wpList _ _ _ _ _ (World.drew _)
    go_wp2_with (first | (go_at_call 135; refine HK.out.mono ?_; rintro e w2 ⟨rfl, hA⟩))
    go_ret
    exact ⟨rfl, hA⟩
  · have hst := step_13 σ e
    rw [e] at p1 p2 p3
    obtain ⟨ia, ea, ha⟩ := num_reg (by decide) p1
    obtain ⟨ib, eb, hb⟩ := num_root (by decide) p2
    obtain ⟨ic', ec, hc⟩ := num_free p3
    rw [hst]
    dsimp only
    obtain ⟨op, a, b, c⟩ := x
    simp only at e ea eb ec
    subst e ea eb ec
    have d1 := h.refAt hr4 ia ha
    have ha' : (ia : Int) < 4 := by omega
    generalize gt σ.refs (ia : Int) = v1 at d1 ⊢
    have K := (setroot_any (h.heap.below (below_drewN (hb1 (.cells #[.int .i64 13, .int .i64 (ia : Int), .int .i64 (ib : Int), .int .i64 (ic' : Int)] 58)) 1)) hfit (ib : Int) v1 (by omega) (by omega)).mono (fun e w2 pst => (show e = _ ∧ After w o B hp rp rb nb AO _ w2 from ⟨pst.1, ⟨o, AO, cO, (h.callN 1 ho _ _ pst.2.2 pst.2.1).1, (h.callN 1 ho _ _ pst.2.2 pst.2.1).2.1⟩⟩))
    have HK := Lib.hid K
    clear h hw hx p1 p2 p3 hst hfit hfitL hrng ho hb1 hh1 K
    go_enter Tryz.func77, Tryz.ntmps77
    go_wp2_with fail
    refine wp_region_still_tail 16 (by kernel_rfl) (by kernel_rfl) ?_
    change wpStill _ _ (World.drew _) _ _ _
    simp only [List.take_succ_cons, List.take_zero, List.drop_succ_cons, List.drop_zero]
    repeat still_step
    refine wpStill_nil ?_
    change wpList _ _ _ _ _ (World.drew _)
    go_wp2_with (first | (go_at_call 134; refine HK.out.mono ?_; rintro e w2 ⟨rfl, hA⟩))
    go_ret
    exact ⟨rfl, hA⟩
  · have hst := step_14 σ e
    rw [hst]
    dsimp only
    obtain ⟨op, a, b, c⟩ := x
    simp only at e
    subst e
    have K := (commit_any (h.heap.below (hb1 (.cells #[.int .i64 14, .int .i64 a, .int .i64 b, .int .i64 c] 58))) hfit).mono (fun e w2 pst => (show e = _ ∧ After w o B hp rp rb nb AO { σ with last := σ.now } w2 from by
      obtain ⟨o', q1, q2, q3⟩ := pst
      exact ⟨q1, ⟨o', AO, cO, (h.callN 0 ho _ _ q3 q2).1, (h.callN 0 ho _ _ q3 q2).2.1⟩⟩))
    have HK := Lib.hid K
    clear h hw hx p1 p2 p3 hst hfit hfitL hrng ho hb1 hh1 K
    go_enter Tryz.func77, Tryz.ntmps77
    go_wp2_with (first | (go_at_call 130; refine HK.out.mono ?_; rintro e w2 ⟨rfl, hA⟩))
    go_ret
    exact ⟨rfl, hA⟩
  · have hst := step_15 σ e
    rw [hst]
    dsimp only
    obtain ⟨op, a, b, c⟩ := x
    simp only at e
    subst e
    have K := (abort_any (h.heap.below (hb1 (.cells #[.int .i64 15, .int .i64 a, .int .i64 b, .int .i64 c] 58))) hfitL).mono (fun e w2 pst => (show e = _ ∧ (w2.cell? ⟨rp, 1, none⟩ = some (.slice (some ⟨rb, 0, none⟩) 4 4) ∧ (∀ j, j < 4 → (w2.cell? ⟨rb, 0 + j, none⟩).isSome = true) ∧ (∀ j, j < 4 → w2.frozen? ⟨rb, 0 + j, none⟩ = false)) ∧ Hid (After w o B hp rp rb nb AO { σ with now := σ.last, refs := [0, 0, 0, 0] } (w2.setCells rb 0 (List.replicate 4 (.int .i64 0)))) from by
      obtain ⟨o', q1, q2, q3⟩ := pst
      obtain ⟨r1, r2, r3⟩ := h.callN 0 ho _ _ q3 q2
      refine ⟨q1, ⟨r1.cells.2.1, fun j hj => ?_, fun j _ => r1.refs.frozen _⟩, ⟨o', AO, cO, r1.clear hr4, r2.trans (rturn_clear (Below.refl _ _))⟩⟩
      rw [r1.refAt hr4 (0 + j) (by omega)]
      rfl))
    have HK := Lib.hid K
    clear h hw hx p1 p2 p3 hst hfit hfitL hrng ho hb1 hh1 K
    go_enter Tryz.func77, Tryz.ntmps77
    go_wp2_with (first | (go_at_call 128; refine HK.out.mono ?_; rintro e w2 ⟨rfl, ⟨m1, m2, m3⟩, hA⟩; have hcl : ∀ ty, (Builtin.clear_ #[22] ty #[.slice (some ⟨rb, 0, none⟩) 4 4]).run Tryz.prog w2 = .ok (.tuple #[]) (w2.setCells rb 0 (List.replicate 4 (.int .i64 0))) := fun ty => Lib.run_clear_slice w2 _ 3 ty (.int .i64 0) Tryz.underlying22 zero_int rfl rfl rb 0 4 4 (by omega) m2 m3; clear m2 m3) | (simp only [hcl]))
    go_ret
    exact ⟨rfl, hA.out⟩
  · have hst := step_16 σ e
    rw [e] at p1
    obtain ⟨ia, ea, ha⟩ := num_reg (by decide) p1
    rw [hst]
    dsimp only
    obtain ⟨op, a, b, c⟩ := x
    simp only at e ea
    subst e ea
    have d0 := h.numAt hn4 ia ha
    have ha' : (ia : Int) < 4 := by omega
    have HS := Lib.hid (fun ob n => after_same h ob n)
    have HR := Lib.hid h
    have HO := Lib.hid ho
    obtain ⟨L, hL⟩ : ∃ L, σ.outs.length = L := ⟨_, rfl⟩
    have HL := Lib.hid hL
    rw [hL] at c4 ⊢
    generalize gt σ.nums (ia : Int) = v1 at d0 ⊢
    by_cases hlt : L < 1000
    · rw [if_pos hlt]
      have hrow := h.outs
      rw [hL] at hrow
      have HW := Lib.hid hrow
      obtain ⟨i0, hi0, hz0, hz1, hz2⟩ := info_parts1 intInfo
      have hbase : B ≤ w.heap.size := Nat.le_trans h.lrp (Nat.le_of_lt h.blk.lt)
      have hlt' : (L : Int) < 1000 := by omega
      have zr2 : rp < w.heap.size + 1 + 1 := by omega
      have zn2 : nb < w.heap.size + 1 + 1 := by omega
      have zz1 : w.heap.size < w.heap.size + 1 := by omega
      have zz2 : w.heap.size < w.heap.size + 1 + 1 := by omega
      clear h hw hx p1 p2 p3 hst hfit hfitL hrng ho hb1 hh1 hL hrow
      go_enter Tryz.func77, Tryz.ntmps77
      go_wp2_with fail
      go_region_law (first
        | (refine step_append_any _ rfl _ _ _ (by rfl) B 3 i0 _ 1 8 Tryz.underlying22 hi0 hz0 hz1 hz2 rfl (by omega) (.slice AO L cO) L (enc ic σ.outs) (by rfl) (own_like2 HW.out _ _ (by (first | exact like_self _ | exact like_drew (like_self _) | exact like_drew (like_drew (like_self _)) | exact like_drew (like_drew (like_drew (like_self _)))))) _ 1 1 _ (by rfl) (reads_new_at (by simp) rfl) (by simp [Value.oneCell']) (fun e => by cases e) (by simp only [maxLen]; omega) (by omega) (by simp; omega) ?_; intro v4 w4 hown4 hg4 hat4; obtain ⟨A4, d4, rfl, hd4⟩ := own_form hown4; obtain ⟨r1, r3, r4, r5⟩ := HR.out.told HO.out HL.out v1 (below_like2 _ _ (by (first | exact like_self _ | exact like_drew (like_self _) | exact like_drew (like_drew (like_self _)) | exact like_drew (like_drew (like_drew (like_self _)))))) hg4 hown4 hat4; have HT := Lib.hid r1; clear r1 hown4 hg4 hat4)
        | (refine step_append_any _ rfl _ _ _ (by rfl) B 3 i0 _ 1 8 Tryz.underlying22 hi0 hz0 hz1 hz2 rfl (by omega) (.slice AO L cO) L (enc ic σ.outs) (by rfl) (own_like2 HW.out _ _ (by (first | exact like_self _ | exact like_drew (like_self _) | exact like_drew (like_drew (like_self _)) | exact like_drew (like_drew (like_drew (like_self _)))))) _ 1 1 _ (by rfl) (reads_drew (reads_new_at (by simp) rfl)) (by simp [Value.oneCell']) (fun e => by cases e) (by simp only [maxLen]; omega) (by omega) (by simp; omega) ?_; intro v4 w4 hown4 hg4 hat4; obtain ⟨A4, d4, rfl, hd4⟩ := own_form hown4; obtain ⟨r1, r3, r4, r5⟩ := HR.out.told HO.out HL.out v1 (below_like2 _ _ (by (first | exact like_self _ | exact like_drew (like_self _) | exact like_drew (like_drew (like_self _)) | exact like_drew (like_drew (like_drew (like_self _)))))) hg4 hown4 hat4; have HT := Lib.hid r1; clear r1 hown4 hg4 hat4))
      all_goals
        go_wp2
        go_ret
        exact ⟨rfl, HT.out⟩
    · rw [if_neg hlt]
      have hdd : decide ((L : Int) < 1000) = false := decide_eq_false (by omega)
      clear h hw hx p1 p2 p3 hst hfit hfitL hrng ho hb1 hh1 hL
      go_enter Tryz.func77, Tryz.ntmps77
      go_wp2
      go_ret
      exact ⟨rfl, HS.out _ 0⟩

end Go.Proofs.YteminkohgagedaaGreat.Mo
