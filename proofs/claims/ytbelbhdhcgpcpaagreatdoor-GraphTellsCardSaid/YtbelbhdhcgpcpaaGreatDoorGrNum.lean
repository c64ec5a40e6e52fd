/- What graph.Number holds while it goes over the order. -/
import Derived.Test.YtbelbhdhcgpcpaaGreatDoorGrMeet
import Derived.IntWalk
import Derived.Deep.RegionLaw
namespace Go.Proofs.YtbelbhdhcgpcpaaGreatDoor.Gr
open Go.RowKit Go.Proofs.YtbelbhdhcgpcpaaGreatDoor.Base
set_option linter.unusedVariables false
set_option linter.unusedSimpArgs false

theorem nodeInfo : (Tryz.prog.info? 45).map (fun i => (i.zero, i.size, i.bytes)) = some (some (.agg #[.slice none 0 0, .slice none 0 0]), 2, 48) := by kernel_rfl

/-- A block that nobody turns any more. -/
structure Safe (w : World) (p q bo lo : Nat) (vO vN : Value) (k : Nat) : Prop where
  lo : lo ≤ k
  lt : k < w.heap.size
  p : k ≠ p
  q : k ≠ q
  bo : k ≠ bo
  o : vO.ownBlock ≠ some k
  n : vN.ownBlock ≠ some k
/-- A node that is built: its cells, what they read. -/
structure Built (w : World) (S : Nat → Prop) (xs : List Value) (j : Nat) (x : Nd) : Prop where
  out : ∃ A c B d, xs[j * 2]? = some (.slice A x.slots.length c) ∧ xs[j * 2 + 1]? = some (.slice B x.words.length d) ∧ Ints w A x.slots ∧ Ints w B x.words ∧ (∀ ad, A = some ad → S ad.block) ∧ (∀ ad, B = some ad → S ad.block) ∧
    w.ownsRow 0 3 1 (.slice A x.slots.length c) x.slots.length (enc ic x.slots) ∧ w.ownsRow 0 3 1 (.slice B x.words.length d) x.words.length (enc ic x.words)
theorem own_some {A : Option Addr} {n c k : Nat} (h : (Value.slice A n c).ownBlock = some k) : ∃ ad, A = some ad ∧ ad.block = k := by
  cases A with
  | none => simp [Value.ownBlock] at h
  | some ad => exact ⟨ad, rfl, by simpa [Value.ownBlock] using h⟩
theorem own_full {w : World} {b n : Nat} {l : List Int} (h : Blk w b 3 (enc ic l).toArray) (hl : l.length = n) (hm : n ≤ maxLen) : w.ownsRow 0 3 1 (.slice (some ⟨b, 0, none⟩) n n) n (enc ic l) := by
  subst hl
  have e : (enc ic l).length = l.length * 1 := enc_len ic_len l
  exact ⟨e, .inr ⟨b, l.length, _, rfl, Nat.zero_le _, h, Nat.le_refl _, hm, by simpa using e, List.take_of_length_le (by show (enc ic l).length ≤ _; rw [e]; exact Nat.le_refl _)⟩⟩

theorem Ints.mod {S : Nat → Prop} {w w' : World} {A : Option Addr} {l : List Int} (h : Ints w A l) (hm : Mod S w w') (hs : ∀ ad, A = some ad → ¬ S ad.block) : Ints w' A l := by
  refine ⟨?_, h.2⟩
  refine Reads.keep h.1 fun p v hp hA => ?_
  obtain ⟨ad, e, hb⟩ := hA
  have h1 := hs ad e
  have h2 := cell_lt hp
  rw [← hb] at h1
  have h3 := hm.block p.block h2 h1
  rw [World.cell?_of_block h3]
  exact hp

theorem Met.keep {w w' : World} {base p q n : Nat} {vO : Value} {o : List Int} (h : Met w base p q n vO o) (hb : Below w.heap.size w w') : Met w' base p q n vO o :=
  ⟨h.blk.below hb h.blk.lt, h.plc.below hb h.plc.lt, own_below h.own hb, h.apart⟩
theorem reads_drew {w : World} {size n : Nat} {A : Option Addr} {xs : List Value} (h : Reads w size A n xs) : Reads w.drew size A n xs := h
theorem right_parts {g : Gr} (h : right g = true) : g.roots.length = 8 ∧ g.nodes.length ≤ 1000 ∧ named g.roots g.nodes.length = true ∧ ∀ x ∈ g.nodes, ndOk x g.nodes.length = true := by
  simp only [right, Bool.and_eq_true, decide_eq_true_eq, List.all_eq_true] at h
  exact ⟨h.1.1.1, h.1.1.2, h.1.2, h.2⟩
theorem ndOk_parts {x : Nd} {n : Int} (h : ndOk x n = true) : x.slots.length ≤ 15 ∧ x.words.length ≤ 30 ∧ wordsOk x.words = true ∧ named x.slots n = true := by
  simp only [ndOk, Bool.and_eq_true, decide_eq_true_eq] at h
  exact ⟨h.1.1.1, h.1.1.2, h.1.2, h.2⟩
theorem nodeAt_eq (g : Gr) (a : Int) (h1 : 1 ≤ a) (h2 : a ≤ g.nodes.length) : nodeAt g a = g.nodes[(a - 1).toNat]'(by omega) := by
  have e : a.toNat - 1 = (a - 1).toNat := by omega
  have hl : (a - 1).toNat < g.nodes.length := by omega
  unfold nodeAt
  rw [e, List.getD_eq_getElem?_getD, List.getElem?_eq_getElem hl]
  rfl
theorem canonGo_step (g : Gr) (f i : Nat) (o : List Int) (out : List Nd) (h : i < o.length) :
    canonGo g (f + 1) i o out = canonGo g f (i + 1) (meet o (nodeAt g o[i]).slots).1 (out ++ [⟨(meet o (nodeAt g o[i]).slots).2, (nodeAt g o[i]).words⟩]) := by
  rw [canonGo, dif_pos h]
theorem canonGo_stop (g : Gr) (f i : Nat) (o : List Int) (out : List Nd) (h : ¬ i < o.length) : canonGo g f i o out = out := by
  cases f with
  | zero => rfl
  | succ f => rw [canonGo, dif_neg h]

/-- What Number holds while it goes over the order. -/
structure Num (w : World) (wr : World) (base p q bo gr lo n : Nat) (vO vN : Value) (o : List Int) (rs : List Int) (ns : List Nd) (xs : List Value) : Prop where
  met : Met wr base p q n vO o
  out : Blk wr bo 25 #[.slice (some ⟨gr, 0, none⟩) rs.length rs.length, vN]
  roots : Blk wr gr 3 (enc ic rs).toArray
  safe : Safe wr p q bo lo vO vN gr
  own : wr.ownsRow base 45 2 vN ns.length xs
  built : ∀ j, (h : j < ns.length) → Built wr (Safe wr p q bo lo vO vN) xs j ns[j]
  below : Below w.heap.size w wr
  hb : w.heap.size ≤ base
  hp : base ≤ p
  hq : base ≤ q
  hbo : base ≤ bo
  ord : Ord o n

theorem graphSize : (Tryz.prog.info? 25).map (·.size) = some 2 := by kernel_rfl
theorem ints_blk {w : World} {b : Nat} {t : TypeId} {l : List Int} (h : Blk w b t (enc ic l).toArray) (hl : l.length ≤ 17592186044416) : Ints w (some ⟨b, 0, none⟩) l := by
  refine ⟨⟨by rw [enc_len ic_len], fun _ => ⟨_, rfl, fun j u hu => ?_⟩⟩, hl⟩
  rw [add_of_zero, h.cell]
  simpa using hu
/-- A graph by value that stays whatever the blocks ahead of B become. -/
def Firm (B : Nat) (w : World) (v : Value) (g : Gr) : Prop := ∀ (S : Nat → Prop) (w' : World), Mod S w w' → (∀ b, S b → b < B) → GrV w' v g
theorem Firm.now {B : Nat} {w : World} {v : Value} {g : Gr} (h : Firm B w v g) : GrV w v g := h (fun _ => False) w (Mod.refl _ _) (fun _ h => h.elim)
theorem Firm.mod {B : Nat} {w w' : World} {v : Value} {g : Gr} (h : Firm B w v g) {S : Nat → Prop} (hm : Mod S w w') (hs : ∀ b, S b → b < B) : Firm B w' v g :=
  fun S' w'' hm' hs' => h (fun b => S b ∨ S' b) w'' (Mod.trans (hm.mono fun b _ h => .inl h) hm' (fun b _ h => .inr h)) (fun b hb => hb.elim (hs b) (hs' b))
theorem Firm.below {B : Nat} {w w' : World} {v : Value} {g : Gr} (h : Firm B w v g) (hb : Below w.heap.size w w') : Firm B w' v g := h.mod (S := fun _ => False) (Mod.of_below hb) (fun _ h => h.elim)
theorem Firm.low {B B' : Nat} {w : World} {v : Value} {g : Gr} (h : Firm B w v g) (hb : B' ≤ B) : Firm B' w v g := fun S w' hm hs => h S w' hm (fun b hb' => by have := hs b hb'; omega)
theorem num_end {w wr w' : World} {base p q bo gr lo n : Nat} {vO : Value} {AN : Option Addr} {cN : Nat} {o rs : List Int} {ns : List Nd} {xs : List Value} {b1 : Nat}
    (h : Num w wr base p q bo gr lo n vO (.slice AN ns.length cN) o rs ns xs) (hm : Mod (fun k => k = b1 ∨ k < base) wr w') (hb : b1 < lo ∧ base ≤ lo) (hl : ns.length ≤ 17592186044416) (hrl : rs.length ≤ 17592186044416)
    (hN : (Value.slice AN ns.length cN).ownBlock ≠ some b1) :
    GrV w' (.agg #[.slice (some ⟨gr, 0, none⟩) rs.length rs.length, .slice AN ns.length cN]) ⟨rs, ns⟩ := by
  refine ⟨_, _, _, _, rfl, ?_, hl, fun i hi => ?_⟩
  · exact (ints_blk h.roots hrl).mod hm (by rintro ad e; injection e with e; subst e; have := h.safe.lo; simp; omega)
  · obtain ⟨A, c, B, d, x1, x2, i1, i2, s1, s2, _, _⟩ := (h.built i hi).out
    have hr := Reads.of_own h.own
    have hi' : i < ns.length := hi
    obtain ⟨ad, rfl, hc⟩ := hr.2 (by rw [hr.1]; omega)
    have hne : ad.block ≠ b1 := by intro e; apply hN; subst e; simp [Value.ownBlock]
    have hge : base ≤ ad.block := (own_block h.own _ rfl).1
    have hcell : ∀ j u, xs[j]? = some u → w'.cell? (ad.add j) = some u := fun j u hu => by
      have h1 := hc j u hu
      rw [World.cell?_of_block (hm.block _ (cell_lt h1) (by rw [block_of_add]; rintro (e | e); exact hne e; omega))]
      exact h1
    refine ⟨ad, rfl, A, c, B, d, hcell _ _ x1, ?_, i1.mod hm (fun ad e => by have := (s1 ad e).lo; omega), i2.mod hm (fun ad e => by have := (s2 ad e).lo; omega)⟩
    · have h2 := hcell _ _ x2
      rw [← add_of_add] at h2
      exact h2
theorem num_firm {w wr w' : World} {base p q bo gr lo n : Nat} {vO : Value} {AN : Option Addr} {cN : Nat} {o rs : List Int} {ns : List Nd} {xs : List Value} {b1 : Nat}
    (h : Num w wr base p q bo gr lo n vO (.slice AN ns.length cN) o rs ns xs) (hm : Mod (fun k => k = b1) wr w') (hb : b1 < lo ∧ base ≤ lo) (hl : ns.length ≤ 17592186044416) (hrl : rs.length ≤ 17592186044416)
    (hN : (Value.slice AN ns.length cN).ownBlock ≠ some b1) :
    Firm base w' (.agg #[.slice (some ⟨gr, 0, none⟩) rs.length rs.length, .slice AN ns.length cN]) ⟨rs, ns⟩ := fun S w'' hm' hs =>
  num_end h (Mod.trans (hm.mono fun b _ h => .inl h) hm' (fun b _ h => .inr (hs b h))) hb hl hrl hN

theorem num_clone {w : World} {b base : Nat} {v vN : Value} {xs : List Value} {n : Nat} (Bs : Option Addr) (l : List Int) (ds : Nat) (hI : Ints w Bs l) (w2 W' : World) (hl : Like w2 W') (hB : Below w.heap.size w w2) (h1 : Blk w2 b 25 #[vN, v]) (h3 : w2.ownsRow base 45 2 v n xs) :
    Calls Tryz.prog 71 #[.slice Bs l.length ds] W' fun e w3 => ∃ AC cC, e = .returned (.slice AC l.length cC) ∧ w3.cell? ⟨b, 1, none⟩ = some v ∧ w3.frozen? ⟨b, 1, none⟩ = false ∧ b < w3.heap.size ∧ w.heap.size ≤ w3.heap.size ∧
      Hid (w3.ownsRow w2.heap.size 3 1 (.slice AC l.length cC) l.length (enc ic l)) ∧ Hid (Below w2.heap.size w2 w3) ∧ Hid (Blk w3 b 25 #[vN, v]) ∧ Hid (w3.ownsRow base 45 2 v n xs) := by
  have hB' : Below w.heap.size w W' := ⟨hl.os.trans hB.os, hl.tape.trans hB.tape, hl.output.trans hB.output, by rw [hl.heap]; exact hB.size, fun i hi => by rw [hl.heap]; exact hB.block i hi⟩
  refine (clone_any Bs l ds W' (hI.below hB')).mono ?_
  rintro e w3 ⟨vC, rfl, hown, hb⟩
  obtain ⟨AC, cC, rfl, hcC⟩ := own_form hown
  have hb' : Below w2.heap.size w2 w3 := ⟨hb.os.trans hl.os, hb.tape.trans hl.tape, hb.output.trans hl.output, by have := hb.size; rw [hl.heap] at this; exact this, fun i hi => by have := hb.block i (by rw [hl.heap]; exact hi); rw [this, hl.heap]⟩
  rw [hl.heap] at hown
  have h1' := h1.below hb' h1.lt
  have c := h1'.cell 1
  simp only [List.getElem?_toArray, List.getElem?_cons_zero, List.getElem?_cons_succ] at c
  exact ⟨AC, cC, rfl, c, h1'.frozen 1, h1'.lt, Nat.le_trans hB.size hb'.size, hown, hb', h1', own_below h3 hb'⟩
/-- The same row ahead of the append. -/
theorem num_ahead {w3 W3 : World} {base n : Nat} {v : Value} {xs : List Value} (h : w3.ownsRow base 45 2 v n xs) (ob : Obj) (hl : Like (w3.alloc ob) W3) : W3.ownsRow base 45 2 v n xs :=
  own_like (own_below h (below_1 _ _)) hl
theorem num_cell {w3 W3 w4 : World} {b : Nat} {v vN : Value} (h : Blk w3 b 25 #[vN, v]) (ob : Obj) (hl : Like (w3.alloc ob) W3) {row : Option Nat} (hg : W3.grownBy w4 row) (hn : row ≠ some b) :
    w4.cell? ⟨b, 1, none⟩ = some v ∧ w4.frozen? ⟨b, 1, none⟩ = false ∧ b < w4.heap.size := by
  have h1 := Base.Blk.mod (Blk.like (h.alloc ob) hl) (Mod.of_grown hg) (fun e => hn e.symm)
  have c := h1.cell 1
  simp only [List.getElem?_toArray, List.getElem?_cons_zero, List.getElem?_cons_succ] at c
  exact ⟨c, h1.frozen 1, h1.lt⟩

theorem own_mod {S : Nat → Prop} {w w' : World} {base e size n : Nat} {v : Value} {xs : List Value} (h : w.ownsRow base e size v n xs) (hm : Mod S w w') (hs : ∀ k, v.ownBlock = some k → ¬ S k) : w'.ownsRow base e size v n xs := by
  obtain ⟨h1, h2⟩ := h
  refine ⟨h1, ?_⟩
  rcases h2 with h2 | ⟨g, cap, cur, rfl, hg, hh, r⟩
  · exact .inl h2
  · exact .inr ⟨g, cap, cur, rfl, hg, Blk.mod (w := w) hh hm (hs g rfl), r⟩
theorem own_own_ne {w : World} {b1 b2 e1 e2 s1 s2 n1 n2 : Nat} {v1 v2 : Value} {x1 x2 : List Value} (h1 : w.ownsRow b1 e1 s1 v1 n1 x1) (h2 : w.ownsRow b2 e2 s2 v2 n2 x2) (hne : e1 ≠ e2) : ∀ k, v1.ownBlock = some k → v2.ownBlock ≠ some k := by
  intro k hk
  rcases h1.2 with ⟨rfl, _⟩ | ⟨g, cap, cur, rfl, _, hh, _⟩
  · simp [Value.ownBlock] at hk
  · have : g = k := by simpa [Value.ownBlock] using hk
    subst this
    exact own_blk_ne h2 hh (fun e => hne e.symm)
theorem like_mod {w w' : World} (h : Like w w') : Mod (fun _ => False) w w' := ⟨h.os, h.tape, h.output, by rw [h.heap]; exact Nat.le_refl _, fun _ _ _ => by rw [h.heap]⟩
theorem own_add {A : Option Addr} {n c k : Nat} (h : (Value.slice A n c).ownBlock ≠ some k) (ad : Addr) (e : A = some ad) : ad.block ≠ k := by
  rintro rfl
  subst e
  exact h rfl

theorem meet1_grow (o : List Int) (a : Int) : o.length ≤ (meet1 o a).1.length := by
  unfold meet1
  split
  · exact Nat.le_refl _
  · split
    · exact Nat.le_refl _
    · simp
theorem meet_grow (o l : List Int) : o.length ≤ (meet o l).1.length := by
  induction l generalizing o with
  | nil => exact Nat.le_refl _
  | cons a l ih => exact Nat.le_trans (meet1_grow o a) (ih _)
/-- One more node. -/
theorem num_round {w wr W6 w2 w3 W3 w4 : World} {base p q bo gr lo n : Nat} {vO : Value} {AN : Option Addr} {cN : Nat} {o rs : List Int} {ns : List Nd} {xs : List Value}
    (h : Num w wr base p q bo gr lo n vO (.slice AN ns.length cN) o rs ns xs) (hB6 : Below wr.heap.size wr W6) (x : Nd) (hx : ndOk x n = true)
    {vO2 : Value} (hb2 : Blk w2 W6.heap.size 3 (enc ic (meet o x.slots).2).toArray) (hm2 : Met w2 base p q n vO2 (meet o x.slots).1) (ht2 : Mod (Turns p q vO) W6 w2)
    (hv2 : vO2.ownBlock = vO.ownBlock ∨ ∃ k, vO2.ownBlock = some k ∧ W6.heap.size < k)
    {AC : Option Addr} {cC : Nat} (hC : w3.ownsRow w2.heap.size 3 1 (.slice AC x.words.length cC) x.words.length (enc ic x.words)) (hb3 : Below w2.heap.size w2 w3)
    (ob : Obj) (hl : Like (w3.alloc ob) W3) (hg : W3.grownBy w4 (Value.slice AN ns.length cN).ownBlock)
    {A4 : Option Addr} {c4 : Nat}
    (ho4 : w4.ownsRow base 45 2 (.slice A4 (ns.length + 1) c4) (ns.length + 1) (xs ++ [.slice (some ⟨W6.heap.size, 0, none⟩) x.slots.length x.slots.length, .slice AC x.words.length cC]))
    (ha4 : (Value.slice A4 (ns.length + 1) c4).ownBlock = (Value.slice AN ns.length cN).ownBlock ∨ (Value.slice A4 (ns.length + 1) c4).ownBlock = some W3.heap.size) :
    Num w (w4.setCell ⟨bo, 1, none⟩ (.slice A4 (ns.length + 1) c4)) base p q bo gr lo n vO2 (.slice A4 (ns.length + 1) c4) (meet o x.slots).1 rs (ns ++ [⟨(meet o x.slots).2, x.words⟩])
      (xs ++ [.slice (some ⟨W6.heap.size, 0, none⟩) x.slots.length x.slots.length, .slice AC x.words.length cC]) ∧
    Mod (fun b => b = p ∨ b = q ∨ b = bo ∨ vO.ownBlock = some b ∨ (Value.slice AN ns.length cN).ownBlock = some b) wr (w4.setCell ⟨bo, 1, none⟩ (.slice A4 (ns.length + 1) c4)) := by
  obtain ⟨x1, x2, x3, x4⟩ := ndOk_parts hx
  generalize hvN : Value.slice AN ns.length cN = vN at *
  generalize hvM : Value.slice A4 (ns.length + 1) c4 = vM at *
  have zp := h.met.blk.lt
  have zq := h.met.plc.lt
  have zo := h.out.lt
  have z6 := hB6.size
  have z2 := hb2.lt
  have z3 := hb3.size
  have z3' : W3.heap.size = w3.heap.size + 1 := by rw [hl.heap]; simp
  have z4 := hg.size
  have z5 : (w4.setCell ⟨bo, 1, none⟩ vM).heap.size = w4.heap.size := by simp [World.setCell]
  have zO := own_block h.met.own
  have zN := own_block h.own
  have zO2 := own_block hm2.own
  have nOp := own_blk_ne h.met.own h.met.blk (by decide)
  have nOo := own_blk_ne h.met.own h.out (by decide)
  have nNp := own_blk_ne h.own h.met.blk (by decide)
  have nNq := own_blk_ne h.own h.met.plc (by decide)
  have nNo := own_blk_ne h.own h.out (by decide)
  have nON := own_own_ne h.met.own h.own (by decide)
  have npo := Blk.ne_ h.met.blk h.out (by decide)
  have nqo := Blk.ne_ h.met.plc h.out (by decide)
  have nM : ∀ k, k < W3.heap.size → vN.ownBlock ≠ some k → vM.ownBlock ≠ some k := by
    intro k hk hn
    rcases ha4 with e | e
    · rw [e]; exact hn
    · rw [e]; intro e; injection e with e; omega
  have nO2 : ∀ k, k < W6.heap.size → vO.ownBlock ≠ some k → vO2.ownBlock ≠ some k := by
    intro k hk hn
    rcases hv2 with e | ⟨j, e, hj⟩
    · rw [e]; exact hn
    · rw [e]; intro e; injection e with e; omega
  have nO2N : ∀ k, vO2.ownBlock = some k → vN.ownBlock ≠ some k := by
    intro k hk hn
    rcases hv2 with e | ⟨j, e, hj⟩
    · rw [e] at hk; exact nON k hk hn
    · rw [e] at hk; injection hk with hk; have := zN k hn; omega
  have t1 : Mod (fun b => vN.ownBlock = some b) w2 w4 :=
    (((Mod.of_below (S := fun b => vN.ownBlock = some b) hb3).trans (Mod.of_below (S := fun b => vN.ownBlock = some b) (below_1 w3 ob)) (fun _ _ h => h)).trans (like_mod hl) (fun _ _ h => h.elim)).trans (Mod.of_grown hg) (fun b _ h => h.symm)
  have t2 : Mod (fun b => b = bo ∨ vN.ownBlock = some b) w2 (w4.setCell ⟨bo, 1, none⟩ vM) := mod_set' (t1.mono fun b _ h => .inr h) (.inl rfl) _
  have t3 : Mod (fun b => b = p ∨ b = q ∨ b = bo ∨ vO.ownBlock = some b ∨ vN.ownBlock = some b) W6 (w4.setCell ⟨bo, 1, none⟩ vM) :=
    Mod.trans (ht2.mono (fun b _ (h : b = p ∨ b = q ∨ vO.ownBlock = some b) => by rcases h with h | h | h <;> simp [h])) t2 (fun b _ h => by rcases h with h | h <;> simp [h])
  have t4 : Mod (fun b => b = p ∨ b = q ∨ b = bo ∨ vO.ownBlock = some b ∨ vN.ownBlock = some b) wr (w4.setCell ⟨bo, 1, none⟩ vM) :=
    (Mod.of_below hB6).trans t3 (fun b _ h => h)
  have safe : ∀ k, Safe wr p q bo lo vO vN k → ¬ (k = p ∨ k = q ∨ k = bo ∨ vO.ownBlock = some k ∨ vN.ownBlock = some k) := by
    rintro k hs (e | e | e | e | e)
    · exact hs.p e
    · exact hs.q e
    · exact hs.bo e
    · exact hs.o e
    · exact hs.n e
  have keep : ∀ k, Safe wr p q bo lo vO vN k → Safe (w4.setCell ⟨bo, 1, none⟩ vM) p q bo lo vO2 vM k := fun k hs =>
    ⟨hs.lo, by have := hs.lt; omega, hs.p, hs.q, hs.bo, nO2 k (by have := hs.lt; omega) hs.o, nM k (by have := hs.lt; omega) hs.n⟩
  have hlo : lo ≤ wr.heap.size := by have := h.safe.lo; have := h.safe.lt; omega
  refine ⟨⟨⟨?_, ?_, ?_, ?_⟩, ?_, ?_, ?_, ?_, ?_, ?_, h.hb, h.hp, h.hq, h.hbo, ?_⟩, t4⟩
  · exact hm2.blk.mod t2 (by rintro (e | e); exact npo e; exact nNp e)
  · exact hm2.plc.mod t2 (by rintro (e | e); exact nqo e; exact nNq e)
  · refine own_mod hm2.own t2 ?_
    rintro k hk (rfl | e)
    · exact nO2 _ (by omega) nOo hk
    · exact nO2N k hk e
  · exact hm2.apart
  · have h1 := h.out.mod (Mod.of_below (S := fun _ => False) hB6) (fun e => e)
    have h2 := h1.mod ht2 (by
      rintro (e | e | e)
      · exact npo e.symm
      · exact nqo e.symm
      · exact nOo e)
    have h3 := (h2.mod t1 nNo).set_ 1 vM
    exact h3
  · exact h.roots.mod t4 (safe _ h.safe)
  · exact keep _ h.safe
  · have h1 : vM.ownBlock ≠ some bo := nM _ (by omega) nNo
    have h2 := own_far (p := ⟨bo, 1, none⟩) ho4 h1 vM
    rw [List.length_append]
    exact h2
  · intro j hj
    have hxl : xs.length = ns.length * 2 := h.own.1
    rw [List.length_append] at hj
    simp only [List.length_cons, List.length_nil] at hj
    by_cases hlt : j < ns.length
    · rw [List.getElem_append_left hlt]
      obtain ⟨A, c, B, d, y1, y2, i1, i2, s1, s2, o1, o2⟩ := (h.built j hlt).out
      refine ⟨A, c, B, d, ?_, ?_, i1.mod t4 (fun ad e => safe _ (s1 ad e)), i2.mod t4 (fun ad e => safe _ (s2 ad e)), fun ad e => keep _ (s1 ad e), fun ad e => keep _ (s2 ad e), own_mod o1 t4 (fun k hk => by obtain ⟨ad, e, rfl⟩ := own_some hk; exact safe _ (s1 ad e)), own_mod o2 t4 (fun k hk => by obtain ⟨ad, e, rfl⟩ := own_some hk; exact safe _ (s2 ad e))⟩
      · rw [List.getElem?_append_left (by omega)]; exact y1
      · rw [List.getElem?_append_left (by omega)]; exact y2
    · have hje : j = ns.length := by omega
      subst hje
      rw [List.getElem_append_right (by omega)]
      simp only [Nat.sub_self, List.getElem_cons_zero]
      have hI1 : Ints w2 (some ⟨W6.heap.size, 0, none⟩) (meet o x.slots).2 := ints_blk hb2 (by rw [meet_len]; omega)
      have hI2 : Ints w3 AC x.words := Ints.of_own hC (by omega)
      have t5 : Mod (fun b => b = bo ∨ vN.ownBlock = some b) w3 (w4.setCell ⟨bo, 1, none⟩ vM) := mod_set' ((((Mod.of_below (S := fun b => b = bo ∨ vN.ownBlock = some b) (below_1 w3 ob)).trans (like_mod hl) (fun _ _ h => h.elim)).trans (Mod.of_grown hg) (fun b _ h => .inr h.symm))) (.inl rfl) _
      have zz := ht2.size
      have hAC : ∀ ad, AC = some ad → w2.heap.size ≤ ad.block ∧ ad.block < w3.heap.size := fun ad e => own_block hC _ (by rw [e]; rfl)
      have j1 : ∀ ad, some (⟨W6.heap.size, 0, none⟩ : Addr) = some ad → ¬ (ad.block = bo ∨ vN.ownBlock = some ad.block) := by
        rintro ad e (h1 | h1)
        · injection e with e; subst e; simp at h1; omega
        · injection e with e; subst e; have := zN _ h1; simp at this; omega
      have j2 : ∀ ad, AC = some ad → ¬ (ad.block = bo ∨ vN.ownBlock = some ad.block) := by
        rintro ad e (h1 | h1)
        · have := hAC ad e; omega
        · have := hAC ad e; have := zN _ h1; omega
      refine ⟨some ⟨W6.heap.size, 0, none⟩, x.slots.length, AC, cC, ?_, ?_, hI1.mod t2 j1, hI2.mod t5 j2, ?_, ?_, own_mod (show w2.ownsRow 0 3 1 (.slice (some ⟨W6.heap.size, 0, none⟩) (meet o x.slots).2.length x.slots.length) (meet o x.slots).2.length (enc ic (meet o x.slots).2) by rw [meet_len]; exact own_full hb2 (meet_len _ _) (by simp only [maxLen]; omega)) t2 (fun k hk => by obtain ⟨ad, e, rfl⟩ := own_some hk; exact j1 ad e), own_mod (own_lower hC (Nat.zero_le _)) t5 (fun k hk => by obtain ⟨ad, e, rfl⟩ := own_some hk; exact j2 ad e)⟩
      · rw [List.getElem?_append_right (by omega), show ns.length * 2 - xs.length = 0 by omega]
        simp [meet_len]
      · rw [List.getElem?_append_right (by omega), show ns.length * 2 + 1 - xs.length = 1 by omega]
        rfl
      · rintro ad e
        injection e with e
        subst e
        refine ⟨by simp; omega, by simp; omega, by simp; omega, by simp; omega, by simp; omega, ?_, ?_⟩
        · rcases hv2 with e | ⟨j, e, hj⟩
          · rw [e]; intro e; have := zO _ e; simp at this; omega
          · rw [e]; intro e; injection e with e; simp at e; omega
        · exact nM _ (by simp; omega) (fun e => by have := zN _ e; simp at this; omega)
      · rintro ad e
        have := hAC ad e
        refine ⟨by omega, by omega, by omega, by omega, by omega, ?_, ?_⟩
        · intro e; have := zO2 _ e; omega
        · exact nM _ (by omega) (fun e => by have := zN _ e; omega)
  · refine mod_below h.below t4 h.below.size ?_
    have e1 := h.hb
    have e2 := h.hp
    have e3 := h.hq
    have e4 := h.hbo
    rintro b hb (e | e | e | e | e)
    · omega
    · omega
    · omega
    · have := zO _ e; omega
    · have := zN _ e; omega
  · exact ord_meet h.ord x4


/-- A graph by value whose rows are all owned, from lo on. -/
def OwnG (lo : Nat) (w : World) (v : Value) (g : Gr) : Prop := ∃ (A : Option Addr) (a : Nat) (D : Option Addr) (d : Nat) (xs : List Value), v = .agg #[.slice A g.roots.length a, .slice D g.nodes.length d] ∧
  w.ownsRow lo 3 1 (.slice A g.roots.length a) g.roots.length (enc ic g.roots) ∧ w.ownsRow lo 45 2 (.slice D g.nodes.length d) g.nodes.length xs ∧
  ∀ j, (hj : j < g.nodes.length) → ∃ B b C c, xs[j * 2]? = some (.slice B g.nodes[j].slots.length b) ∧ xs[j * 2 + 1]? = some (.slice C g.nodes[j].words.length c) ∧
    w.ownsRow lo 3 1 (.slice B g.nodes[j].slots.length b) g.nodes[j].slots.length (enc ic g.nodes[j].slots) ∧ w.ownsRow lo 3 1 (.slice C g.nodes[j].words.length c) g.nodes[j].words.length (enc ic g.nodes[j].words)
theorem own_raise {w : World} {lo lo' e s n : Nat} {v : Value} {xs : List Value} (h : w.ownsRow lo e s v n xs) (hk : ∀ k, v.ownBlock = some k → lo' ≤ k) : w.ownsRow lo' e s v n xs := by
  obtain ⟨h1, h2⟩ := h
  refine ⟨h1, ?_⟩
  rcases h2 with h2 | ⟨g, cap, cur, rfl, hg, r⟩
  · exact .inl h2
  · exact .inr ⟨g, cap, cur, rfl, hk g rfl, r⟩
theorem num_own {w wr w' : World} {base p q bo gr lo n : Nat} {vO : Value} {AN : Option Addr} {cN : Nat} {o rs : List Int} {ns : List Nd} {xs : List Value} {b1 : Nat}
    (h : Num w wr base p q bo gr lo n vO (.slice AN ns.length cN) o rs ns xs) (hm : Mod (fun k => k = b1) wr w') (hb : b1 < lo ∧ base ≤ lo) (hrl : rs.length ≤ 17592186044416)
    (hN : (Value.slice AN ns.length cN).ownBlock ≠ some b1) :
    OwnG base w' (.agg #[.slice (some ⟨gr, 0, none⟩) rs.length rs.length, .slice AN ns.length cN]) ⟨rs, ns⟩ := by
  have hl : ∀ {A : Option Addr} {l : List Int} {c : Nat}, (∀ ad, A = some ad → Safe wr p q bo lo vO (.slice AN ns.length cN) ad.block) → wr.ownsRow 0 3 1 (.slice A l.length c) l.length (enc ic l) → w'.ownsRow base 3 1 (.slice A l.length c) l.length (enc ic l) := fun {A l c} hs ho => by
    refine own_raise (own_mod ho hm ?_) ?_
    · intro k hk e
      obtain ⟨ad, e1, rfl⟩ := own_some hk
      have := (hs ad e1).lo
      omega
    · intro k hk
      obtain ⟨ad, e1, rfl⟩ := own_some hk
      have := (hs ad e1).lo
      omega
  refine ⟨_, _, _, _, xs, rfl, hl (fun ad e => ?_) (own_full h.roots rfl (by simp only [maxLen]; omega)), own_mod h.own hm (fun k hk e => hN (by rw [← e]; exact hk)), fun j hj => ?_⟩
  · injection e with e
    subst e
    exact h.safe
  · obtain ⟨A, c, B, d, x1, x2, i1, i2, s1, s2, o1, o2⟩ := (h.built j hj).out
    exact ⟨A, c, B, d, x1, x2, hl s1 o1, hl s2 o2⟩
end Go.Proofs.YtbelbhdhcgpcpaaGreatDoor.Gr
