/- flittinglaw16.GraphTells: words for its regions. -/
import Derived.Test.YtbelbhdhcgpcpaaGreatDoorBkLentH
import Derived.Test.YtbelbhdhcgpcpaaGreatDoorGrDeep
import Derived.Test.YtbelbhdhcgpcpaaGreatDoorGrRefText
import Derived.Test.YtbelbhdhcgpcpaaGreatDoorGrDuo
import Derived.Test.YtbelbhdhcgpcpaaGreatDoorGrRefRight
import Derived.Test.YtbelbhdhcgpcpaaGreatDoorGrRefCanonW
namespace Go.Proofs.YtbelbhdhcgpcpaaGreatDoor.BkNodes
open Go.RowKit Go.Proofs.YtbelbhdhcgpcpaaGreatDoor.Base Go.Proofs.YtbelbhdhcgpcpaaGreatDoor.Bk Go.Proofs.YtbelbhdhcgpcpaaGreatDoor.Gr Go.Proofs.YtbelbhdhcgpcpaaGreatDoor.Str
set_option linter.unusedVariables false
set_option linter.unusedSimpArgs false

theorem small_room {g : Gr} (h : Small g) : Room g := ⟨by have := h.2.1; omega, by have := h.1; omega, fun x hx => by have := h.2.2 x hx; omega⟩
theorem small_eight {g : Gr} (h : Small g) : Small (eight g) := by
  refine ⟨?_, ?_, fun x hx => ?_⟩
  · show (g.nodes.map _).length ≤ 60
    rw [List.length_map]; exact h.1
  · show (rts _ _ _).length ≤ 20
    rw [rts_len]; omega
  · obtain ⟨y, hy, rfl⟩ := List.mem_map.1 hx
    simp only [eightNd, List.length_map, List.length_take]
    omega
/-- Behind the first if: two graphs in their variables, small ones. -/
def GT1 (w wx : World) : Prop := ∃ (A B C D : Option Addr) (a b c d : Nat) (g h : Gr), Duo2 w wx w.heap.size A B C D a b c d g h ∧ Small g ∧ Small h
/-- What is lent of them, in two more. -/
structure Lent2 (wx : World) (q r : Nat) (g h : Gr) : Prop where
  bq : ∃ M N m n, Blk wx q 25 #[.slice M g.roots.length m, .slice N g.nodes.length n] ∧ LentI wx 0 M g.roots m ∧ LentN wx 0 N g.nodes n
  br : ∃ M N m n, Blk wx r 25 #[.slice M h.roots.length m, .slice N h.nodes.length n] ∧ LentI wx 0 M h.roots m ∧ LentN wx 0 N h.nodes n
def GT2 (w wx : World) (q r : Nat) : Prop := ∃ (A B C D : Option Addr) (a b c d : Nat) (g h : Gr), Duo2 w wx w.heap.size A B C D a b c d g h ∧ (Small g ∧ Small h) ∧ Lent2 wx q r g h
theorem belA {w w1 : World} (h : Below w.heap.size w w1) (o : Obj) : Below w.heap.size w (w1.alloc o) := h.alloc h.size o
theorem modA {S : Nat → Prop} {w w1 : World} (h : Mod S w w1) (o : Obj) : Mod S w (w1.alloc o) := Mod.trans h (Mod.of_below (S := fun _ => False) (below_new _ _)) (fun _ _ h => h.elim)
theorem modD {S : Nat → Prop} {w w1 : World} (h : Mod S w w1) : Mod S w w1.drew := Mod.trans h (Mod.of_below (S := fun _ => False) (Below.refl _ _).drew) (fun _ _ h => h.elim)
theorem gt2_end {w wc w3 W : World} {A B C D : Option Addr} {a b c d : Nat} {g h : Gr} {q r : Nat} {M N M2 N2 : Option Addr} {m n m2 n2 : Nat} (H : Duo2 w wc w.heap.size A B C D a b c d g h) (hs : Small g ∧ Small h) (hb : Below wc.heap.size wc w3)
    (hI : LentI w3 0 M g.roots m) (hN : LentN w3 0 N g.nodes n) (hI2 : LentI w3 0 M2 h.roots m2) (hN2 : LentN w3 0 N2 h.nodes n2) (hm : Mod (fun k => k = q ∨ k = r) w3 W) (hq : w3.heap.size ≤ q ∨ ∃ cs, Blk w3 q 25 cs) (hr : w3.heap.size ≤ r ∨ ∃ cs, Blk w3 r 25 cs)
    (hq2 : wc.heap.size ≤ q) (hr2 : wc.heap.size ≤ r) (bq : Blk W q 25 #[.slice M g.roots.length m, .slice N g.nodes.length n]) (br : Blk W r 25 #[.slice M2 h.roots.length m2, .slice N2 h.nodes.length n2]) : GT2 w W q r := by
  have hw : Below wc.heap.size wc W := Gr.mod_below hb hm hb.size (by rintro k hk (e | e) <;> omega)
  have hne : ∀ {x : Nat}, (w3.heap.size ≤ x ∨ ∃ cs, Blk w3 x 25 cs) → ∀ {lo e s n : Nat} {u : Value} {xs : List Value}, w3.ownsRow lo e s u n xs → e ≠ 25 → u.ownBlock ≠ some x := fun {x} hx {lo e s n u xs} ho he hk => by
    rcases hx with hx | ⟨cs, hx⟩
    · have := (own_block ho _ hk).2; omega
    · exact own_blk_ne ho hx he hk
  have ho : ∀ {lo e s n : Nat} {u : Value} {xs : List Value}, w3.ownsRow lo e s u n xs → e ≠ 25 → W.ownsRow lo e s u n xs := fun {lo e s n u xs} h1 he => Bk.own_mod h1 hm (by
    rintro k hk (e' | e')
    · exact hne hq h1 he (e' ▸ hk)
    · exact hne hr h1 he (e' ▸ hk))
  have hdp : ∀ {ps : List NC} {xs : List Nd}, Deeps w3 0 ps xs → Deeps W 0 ps xs := fun {ps xs} hd => ⟨hd.1, fun i p x hp hx => by
    obtain ⟨⟨k1, A, c, e1, o1⟩, ⟨k2, B, d, e2, o2⟩⟩ := hd.2 i p x hp hx
    exact ⟨⟨k1, A, c, e1, ho o1 (by decide)⟩, ⟨k2, B, d, e2, ho o2 (by decide)⟩⟩⟩
  have hln : ∀ {X : Option Addr} {xs : List Nd} {k : Nat}, LentN w3 0 X xs k → LentN W 0 X xs k := fun {X xs k} h1 => by
    obtain ⟨ps, b, k, v, h0, h1, h2⟩ := h1
    exact ⟨ps, b, k, v, h0, ho h1 (by decide), hdp h2⟩
  exact ⟨A, B, C, D, a, b, c, d, g, h, H.below hw, hs, ⟨⟨M, N, m, n, bq, ⟨hI.1, ho hI.2 (by decide)⟩, hln hN⟩, ⟨M2, N2, m2, n2, br, ⟨hI2.1, ho hI2.2 (by decide)⟩, hln hN2⟩⟩⟩

def regs : Code → Nat → Option Code
  | .region n ops d, k => if n = k then some (.region n ops d) else none
  | .seq a b, k => match regs a k with
    | some c => some c
    | none => regs b k
  | .cond _ a b, k => match regs a k with
    | some c => some c
    | none => regs b k
  | .block _ c, k => regs c k
  | .loop c, k => regs c k
  | .scope c, k => regs c k
  | _, _ => none
theorem blk_on {w w' : World} {g : Nat} {t : TypeId} {cs : Array Value} (h : Blk w g t cs) (hb : Below w.heap.size w w') : Blk w' g t cs := h.below hb h.lt
/-- What is known behind both calls. -/
structure Pk (w0 w w5 : World) (A B C D : Option Addr) (a b c d : Nat) (g h : Gr) (M N M2 N2 : Option Addr) (m n m2 n2 : Nat) : Prop where
  duo : Duo2 w0 w w0.heap.size A B C D a b c d g h
  small : Small g ∧ Small h
  low : Below w.heap.size w w5
  i1 : LentI w5 0 M g.roots m
  n1 : LentN w5 0 N g.nodes n
  i2 : LentI w5 0 M2 h.roots m2
  n2 : LentN w5 0 N2 h.nodes n2
section
variable {w w0 w5 W : World} {A B C D : Option Addr} {a b c d : Nat} {g h : Gr} {q r : Nat} {M N M2 N2 : Option Addr} {m n m2 n2 : Nat}
theorem blk_new_at {w : World} {p : Nat} {t : TypeId} {cs : Array Value} (hp : w.heap.size = p) : Blk (w.alloc (.cells cs t)) p t cs := by subst hp; exact Blk.new _ _ _
theorem size_set2 (w : World) (p : Nat) (u v : Value) : ((w.setCell ⟨p, 0, none⟩ u).setCell ⟨p, 1, none⟩ v).heap.size = w.heap.size := by simp [World.setCell]
theorem Pk.fa (P : Pk w0 w w5 A B C D a b c d g h M N M2 N2 m n m2 n2) (hl : Like ((w5.alloc (.cells #[.slice M g.roots.length m, .slice N g.nodes.length n] 25)).alloc (.cells #[.slice M2 h.roots.length m2, .slice N2 h.nodes.length n2] 25)) W) : GT2 w0 W w5.heap.size (w5.heap.size + 1) :=
  gt2_end (w3 := w5) P.duo P.small P.low P.i1 P.n1 P.i2 P.n2 (Mod.like (modA (modA (Mod.refl _ _) _) _) hl) (.inl (Nat.le_refl _)) (.inl (Nat.le_succ _)) P.low.size (Nat.le_trans P.low.size (Nat.le_succ _)) (Blk.like ((Blk.new _ _ _).alloc _) hl) (Blk.like (blk_new_at (World.size_alloc _ _)) hl)
theorem Pk.fb (P : Pk w0 w w5 A B C D a b c d g h M N M2 N2 m n m2 n2) (hl : Like ((w5.alloc (.cells #[.slice M2 h.roots.length m2, .slice N2 h.nodes.length n2] 25)).alloc (.cells #[.slice M g.roots.length m, .slice N g.nodes.length n] 25)) W) : GT2 w0 W (w5.heap.size + 1) w5.heap.size :=
  gt2_end (w3 := w5) P.duo P.small P.low P.i1 P.n1 P.i2 P.n2 (Mod.like (modA (modA (Mod.refl _ _) _) _) hl) (.inl (Nat.le_succ _)) (.inl (Nat.le_refl _)) (Nat.le_trans P.low.size (Nat.le_succ _)) P.low.size (Blk.like (blk_new_at (World.size_alloc _ _)) hl) (Blk.like ((Blk.new _ _ _).alloc _) hl)
theorem Pk.fc (P : Pk w0 w w5 A B C D a b c d g h M N M2 N2 m n m2 n2) (F : Blk w5 q 25 #[.slice none 0 0, .slice none 0 0]) (hq : w.heap.size ≤ q) (hl : Like (((w5.setCell ⟨q, 0, none⟩ (.slice M g.roots.length m)).setCell ⟨q, 1, none⟩ (.slice N g.nodes.length n)).alloc (.cells #[.slice M2 h.roots.length m2, .slice N2 h.nodes.length n2] 25)) W) : GT2 w0 W q w5.heap.size :=
  gt2_end (w3 := w5) P.duo P.small P.low P.i1 P.n1 P.i2 P.n2 (Mod.like (modA (mod_set' (S := fun k => k = q ∨ k = w5.heap.size) (mod_set' (S := fun k => k = q ∨ k = w5.heap.size) (Mod.refl _ _) (.inl rfl) _) (.inl rfl) _) _) hl) (.inr ⟨_, F⟩) (.inl (Nat.le_refl _)) hq P.low.size (Blk.like (((F.set_ 0 _).set_ 1 _).alloc _) hl) (Blk.like (blk_new_at (size_set2 _ _ _ _)) hl)
theorem Pk.fd (P : Pk w0 w w5 A B C D a b c d g h M N M2 N2 m n m2 n2) (F : Blk w5 r 25 #[.slice none 0 0, .slice none 0 0]) (hr : w.heap.size ≤ r) (hl : Like (((w5.setCell ⟨r, 0, none⟩ (.slice M2 h.roots.length m2)).setCell ⟨r, 1, none⟩ (.slice N2 h.nodes.length n2)).alloc (.cells #[.slice M g.roots.length m, .slice N g.nodes.length n] 25)) W) : GT2 w0 W w5.heap.size r :=
  gt2_end (w3 := w5) P.duo P.small P.low P.i1 P.n1 P.i2 P.n2 (Mod.like (modA (mod_set' (S := fun k => k = w5.heap.size ∨ k = r) (mod_set' (S := fun k => k = w5.heap.size ∨ k = r) (Mod.refl _ _) (.inr rfl) _) (.inr rfl) _) _) hl) (.inl (Nat.le_refl _)) (.inr ⟨_, F⟩) P.low.size hr (Blk.like (blk_new_at (size_set2 _ _ _ _)) hl) (Blk.like (((F.set_ 0 _).set_ 1 _).alloc _) hl)
theorem Pk.fe (P : Pk w0 w w5 A B C D a b c d g h M N M2 N2 m n m2 n2) (F : Blk w5 q 25 #[.slice none 0 0, .slice none 0 0]) (F2 : Blk w5 r 25 #[.slice none 0 0, .slice none 0 0]) (hq : w.heap.size ≤ q) (hr : w.heap.size ≤ r) (hne : q ≠ r)
    (hl : Like ((((w5.setCell ⟨q, 0, none⟩ (.slice M g.roots.length m)).setCell ⟨q, 1, none⟩ (.slice N g.nodes.length n)).setCell ⟨r, 0, none⟩ (.slice M2 h.roots.length m2)).setCell ⟨r, 1, none⟩ (.slice N2 h.nodes.length n2)) W) : GT2 w0 W q r :=
  gt2_end (w3 := w5) P.duo P.small P.low P.i1 P.n1 P.i2 P.n2 (Mod.like (mod_set' (S := fun k => k = q ∨ k = r) (mod_set' (S := fun k => k = q ∨ k = r) (mod_set' (S := fun k => k = q ∨ k = r) (mod_set' (S := fun k => k = q ∨ k = r) (Mod.refl _ _) (.inl rfl) _) (.inl rfl) _) (.inr rfl) _) (.inr rfl) _) hl) (.inr ⟨_, F⟩) (.inr ⟨_, F2⟩) hq hr (Blk.like ((((F.set_ 0 _).set_ 1 _).far hne _).far hne _) hl) (Blk.like ((((F2.far (Ne.symm hne) _).far (Ne.symm hne) _).set_ 0 _).set_ 1 _) hl)
theorem Pk.ff (P : Pk w0 w w5 A B C D a b c d g h M N M2 N2 m n m2 n2) (F : Blk w5 q 25 #[.slice none 0 0, .slice none 0 0]) (F2 : Blk w5 r 25 #[.slice none 0 0, .slice none 0 0]) (hq : w.heap.size ≤ q) (hr : w.heap.size ≤ r) (hne : q ≠ r)
    (hl : Like ((((w5.setCell ⟨r, 0, none⟩ (.slice M2 h.roots.length m2)).setCell ⟨r, 1, none⟩ (.slice N2 h.nodes.length n2)).setCell ⟨q, 0, none⟩ (.slice M g.roots.length m)).setCell ⟨q, 1, none⟩ (.slice N g.nodes.length n)) W) : GT2 w0 W q r :=
  gt2_end (w3 := w5) P.duo P.small P.low P.i1 P.n1 P.i2 P.n2 (Mod.like (mod_set' (S := fun k => k = q ∨ k = r) (mod_set' (S := fun k => k = q ∨ k = r) (mod_set' (S := fun k => k = q ∨ k = r) (mod_set' (S := fun k => k = q ∨ k = r) (Mod.refl _ _) (.inr rfl) _) (.inr rfl) _) (.inl rfl) _) (.inl rfl) _) hl) (.inr ⟨_, F⟩) (.inr ⟨_, F2⟩) hq hr (Blk.like ((((F.far hne _).far hne _).set_ 0 _).set_ 1 _) hl) (Blk.like ((((F2.set_ 0 _).set_ 1 _).far (Ne.symm hne) _).far (Ne.symm hne) _) hl)
end
theorem blkD {w : World} {g : Nat} {t : TypeId} {cs : Array Value} (h : Blk w g t cs) : Blk w.drew g t cs := h.drewN 1
end Go.Proofs.YtbelbhdhcgpcpaaGreatDoor.BkNodes
