/- A filled block of nodes is a row of nodes. -/
import Derived.Test.YtbelbhdhcgpcpaaDoorGrTurned
namespace Go.Proofs.YtbelbhdhcgpcpaaDoor.Gr
open Go.RowKit Go.Proofs.YtbelbhdhcgpcpaaDoor.Base
set_option linter.unusedVariables false
set_option linter.unusedSimpArgs false

/-- All places filled: a row of nodes. -/
theorem filled_row {w : World} {M X n k : Nat} {g : Gr} {cs : List (Value × Value)} (hM : Blk w M 32 (enc pr cs).toArray) (hF : Filled w (fun b => b = X ∨ b = M) g k g.nodes.length cs) (hn : n = g.nodes.length) (h0 : 0 < n) (h1 : n ≤ 1000) :
    NdRow w (fun b => b = X ∨ (Value.slice (some ⟨M, 0, none⟩) n n).ownBlock = some b) 0 (.slice (some ⟨M, 0, none⟩) n n) (enc pr cs) ((List.range n).map (backNd g k)) := by
  subst hn
  have hcl := hF.1
  have hhot : ∀ b, (b = X ∨ (Value.slice (some (⟨M, 0, none⟩ : Addr)) g.nodes.length g.nodes.length).ownBlock = some b) → (b = X ∨ b = M) ∨ w.heap.size ≤ b := by
    rintro b (e | e)
    · exact .inl (.inl e)
    · injection e with e; exact .inl (.inr e.symm)
  have hlen : ((List.range g.nodes.length).map (backNd g k)).length = g.nodes.length := by rw [List.length_map, List.length_range]
  have hown : w.ownsRow 0 32 2 (.slice (some ⟨M, 0, none⟩) g.nodes.length g.nodes.length) g.nodes.length (enc pr cs) :=
    ⟨by rw [enc_len pr_len, hcl], .inr ⟨M, g.nodes.length, (enc pr cs).toArray, rfl, Nat.zero_le _, hM, Nat.le_refl _, by simp only [maxLen]; omega, by simp [enc_len pr_len, hcl], by rw [List.take_of_length_le]; simp [enc_len pr_len, hcl]⟩⟩
  refine ⟨by rw [hlen]; exact hown, fun j hj => ?_, fun b e => .inr e⟩
  · have hj' : j < g.nodes.length := by simpa using hj
    obtain ⟨A, c, B, d, e, i1, i2⟩ := hF.2 j (by omega) (back_lt (by omega))
    have hg := pr_get (cs := cs) (j := j) (by omega)
    rw [e] at hg
    simp only [List.getElem_map, List.getElem_range]
    refine ⟨A, c, B, d, by simpa using hg.1, by simpa using hg.2, i1.step (Mod.refl (fun _ => False) w) (fun _ _ h => h.elim) hhot, i2.step (Mod.refl (fun _ => False) w) (fun _ _ h => h.elim) hhot⟩
theorem turned_nodes (g : Gr) (k m : Nat) : (turned g k m).nodes = (List.range g.nodes.length).map (backNd g k) ++ (List.range m).map (moreNd g.nodes.length) := rfl

/-- One more node of two lists of one number each, made ahead of the append. -/
theorem more_step {wr w2 W' w5 : World} {X L pa pb : Nat} {AN : Option Addr} {cN : Nat} {v5 : Value} {xs : List Value} {ns : List Nd} {a b : Int} (h : NdRow wr (fun q => q = X ∨ (Value.slice AN L cN).ownBlock = some q) 0 (.slice AN L cN) xs ns) (hk : ns.length = L) (hX : X < wr.heap.size) (hNX : (Value.slice AN L cN).ownBlock ≠ some X)
    (hb : Below wr.heap.size wr w2) (ha : Blk w2 pa 3 #[.int .i64 a]) (hbk : Blk w2 pb 3 #[.int .i64 b]) (hpa : wr.heap.size ≤ pa) (hpb : wr.heap.size ≤ pb) (ob : Obj) (hl : Like (w2.alloc ob) W') (hg : W'.grownBy w5 (Value.slice AN L cN).ownBlock)
    (ho : w5.ownsRow 0 32 2 v5 (L + 1) (xs ++ [.slice (some ⟨pa, 0, none⟩) 1 1, .slice (some ⟨pb, 0, none⟩) 1 1])) (hat : v5.ownBlock = (Value.slice AN L cN).ownBlock ∨ v5.ownBlock = some W'.heap.size) :
    NdRow (w5.setCell ⟨X, 1, none⟩ v5) (fun q => q = X ∨ v5.ownBlock = some q) 0 v5 (xs ++ [.slice (some ⟨pa, 0, none⟩) 1 1, .slice (some ⟨pb, 0, none⟩) 1 1]) (ns ++ [⟨[a], [b]⟩]) ∧
    Mod (fun q => q = X ∨ (Value.slice AN L cN).ownBlock = some q) wr (w5.setCell ⟨X, 1, none⟩ v5) := by
  have hs := hb.size
  have h2 : NdRow w2 (fun q => q = X ∨ (Value.slice AN L cN).ownBlock = some q) 0 (.slice AN L cN) xs ns := h.step (Mod.of_below (S := fun _ => False) hb) (fun _ _ h => h.elim) (fun k h => .inl h) h.hotN
  have hno : ∀ q, wr.heap.size ≤ q → ¬ (q = X ∨ (Value.slice AN L cN).ownBlock = some q) := by
    rintro q hq (e | e)
    · omega
    · have := (own_block h.own q e).2; omega
  have c1 : CInts w2 (fun q => q = X ∨ (Value.slice AN L cN).ownBlock = some q) 0 (some ⟨pa, 0, none⟩) [a] := ⟨ints_blk (t := 3) (l := [a]) ha (by simp), fun ad e _ => by
    injection e with e; subst e; exact ⟨Nat.zero_le _, ha.lt, hno _ hpa⟩⟩
  have c2 : CInts w2 (fun q => q = X ∨ (Value.slice AN L cN).ownBlock = some q) 0 (some ⟨pb, 0, none⟩) [b] := ⟨ints_blk (t := 3) (l := [b]) hbk (by simp), fun ad e _ => by
    injection e with e; subst e; exact ⟨Nat.zero_le _, hbk.lt, hno _ hpb⟩⟩
  obtain ⟨r1, r2⟩ := row_round h2 ⟨[a], [b]⟩ (la := 1) (lb := 1) rfl rfl c1 c2 hk (by omega) hNX ob hl hg ho hat 1
  exact ⟨r1, Mod.trans (Mod.of_below (S := fun q => q = X ∨ (Value.slice AN L cN).ownBlock = some q) hb) r2 (fun _ _ h => h)⟩

theorem blk_second (w : World) (o : Obj) (t : TypeId) (cs : Array Value) : Blk ((w.alloc o).alloc (.cells cs t)) (w.heap.size + 1) t cs := by
  have := Blk.new (w.alloc o) t cs
  rw [World.size_alloc] at this
  exact this

theorem reads_new_at {w : World} {p : Nat} {t : TypeId} {size n : Nat} {cs : Array Value} (hp : w.heap.size = p) (h : cs.size = n * size) : Reads (w.alloc (.cells cs t)) size (some ⟨p, 0, none⟩) n cs.toList := by
  subst hp
  exact Reads.new w t h

end Go.Proofs.YtbelbhdhcgpcpaaDoor.Gr
