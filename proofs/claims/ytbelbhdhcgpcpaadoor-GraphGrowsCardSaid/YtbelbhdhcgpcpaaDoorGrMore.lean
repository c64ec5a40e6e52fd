/- One node more: the append of the last loop of GraphTurned as one step of a region that draws. -/
import Derived.Test.YtbelbhdhcgpcpaaDoorGrFilled
namespace Go.Proofs.YtbelbhdhcgpcpaaDoor.Gr
open Go.RowKit Go.Proofs.YtbelbhdhcgpcpaaDoor.Base Go.Proofs.YtbelbhdhcgpcpaaDoor.Str
set_option linter.unusedVariables false
set_option linter.unusedSimpArgs false

theorem more_arm {ops : Array Oper} {o : Oper} {act : Act} {K : Act → World → Prop} {Q : Exit → Act → World → Prop} {E : Prop} {wr w2 : World} {X L pa pb pc : Nat} {AN AR : Option Addr} {cN cR lR : Nat} {xs : List Value} {ns : List Nd} {a b : Int}
    (hN : NdRow wr (fun q => q = X ∨ (Value.slice AN L cN).ownBlock = some q) 0 (.slice AN L cN) xs ns) (hk : ns.length = L) (hL : L ≤ 1000)
    (hX1 : Blk wr X 25 #[.slice AR lR cR, .slice AN L cN]) (hNX : (Value.slice AN L cN).ownBlock ≠ some X)
    (hb : Below wr.heap.size wr w2) (ha : Blk w2 pa 3 #[.int .i64 a]) (hbk : Blk w2 pb 3 #[.int .i64 b]) (hpa : wr.heap.size ≤ pa) (hpb : wr.heap.size ≤ pb) (hpc : w2.heap.size = pc)
    (hg : o.guard = none) (s x : Operand) (hop : o.op = .call { callee := .builtin .append, args := #[s, x], argTypes := #[23, 23] })
    (hs : act.eval s = .slice AN L cN) (hx : act.eval x = .slice (some ⟨pc, 0, none⟩) 1 1)
    (hK : ∀ (A5 : Option Addr) (cap5 : Nat) (w5 : World), Hid (NdRow (w5.setCell ⟨X, 1, none⟩ (.slice A5 (L + 1) cap5)) (fun q => q = X ∨ (Value.slice A5 (L + 1) cap5).ownBlock = some q) 0 (.slice A5 (L + 1) cap5) (xs ++ [.slice (some ⟨pa, 0, none⟩) 1 1, .slice (some ⟨pb, 0, none⟩) 1 1]) (ns ++ [⟨[a], [b]⟩]) ∧
        Mod (fun q => q = X ∨ (Value.slice AN L cN).ownBlock = some q) wr (w5.setCell ⟨X, 1, none⟩ (.slice A5 (L + 1) cap5))) →
      Hid (Blk w5 X 25 #[.slice AR lR cR, .slice AN L cN]) → Hid ((Value.slice A5 (L + 1) cap5).ownBlock = (Value.slice AN L cN).ownBlock ∨ (∃ q, (Value.slice A5 (L + 1) cap5).ownBlock = some q ∧ wr.heap.size ≤ q)) →
      w5.cell? ⟨X, 1, none⟩ = some (.slice AN L cN) → w5.frozen? ⟨X, 1, none⟩ = false → X < w5.heap.size → Hid (wr.heap.size ≤ w5.heap.size) → K (act.put o.dst (.slice A5 (L + 1) cap5)) w5) :
    if Region.wanted o (yielded ops act.tmps) = true then Oper.wp Tryd.prog o act ((w2.alloc (.cells #[.slice (some ⟨pa, 0, none⟩) 1 1, .slice (some ⟨pb, 0, none⟩) 1 1] 32)).drew) K Q else E := by
  obtain ⟨i1, hi1, hz11, hz12, hz13⟩ := info_parts1 nodeInfo
  have hBB : Below wr.heap.size wr ((w2.alloc (.cells #[.slice (some ⟨pa, 0, none⟩) 1 1, .slice (some ⟨pb, 0, none⟩) 1 1] 32)).drew) := (below_then hb (below_1 _ _)).drew
  have hown : wr.ownsRow 0 32 2 (.slice AN L cN) L xs := by have := hN.own; rwa [hk] at this
  refine step_append_any _ hg s x 23 hop 0 32 i1 _ 2 48 Tryd.underlying23 hi1 hz11 hz12 hz13 rfl (by omega) (.slice AN L cN) L xs hs (own_below hown hBB) _ 1 1 [.slice (some ⟨pa, 0, none⟩) 1 1, .slice (some ⟨pb, 0, none⟩) 1 1] hx (reads_drew (reads_new_at hpc rfl)) (by simp [Value.oneCell']) (fun e => by cases e) (by simp only [maxLen]; omega) (by omega) (Nat.zero_le _) ?_
  intro v5 w5 hown5 hg5 hat5
  have hw5 := hg5.size
  have hMS := more_step hN hk hX1.lt hNX hb ha hbk hpa hpb (.cells #[.slice (some ⟨pa, 0, none⟩) 1 1, .slice (some ⟨pb, 0, none⟩) 1 1] 32) (like_drew (like_self _)) hg5 hown5 hat5
  obtain ⟨A5, cap5, rfl, hc5⟩ := own_form hown5
  have hX6 := (hX1.mod (Mod.of_below (S := fun _ => False) hBB) (fun e => e)).mod (Mod.of_grown hg5) (fun e => hNX e.symm)
  have hsz : wr.heap.size ≤ w5.heap.size := Nat.le_trans hBB.size (Mod.of_grown hg5).size
  refine hK A5 cap5 w5 (Lib.hid hMS) (Lib.hid hX6) (Lib.hid ?_) (by have := hX6.cell 1; simpa using this) (hX6.frozen 1) (Nat.lt_of_lt_of_le hX1.lt hsz) (Lib.hid hsz)
  rcases hat5 with h | h
  · exact .inl h
  · exact .inr ⟨_, h, hBB.size⟩

theorem more_hot {X z : Nat} {v5 vN : Value} (h : v5.ownBlock = vN.ownBlock ∨ (∃ q, v5.ownBlock = some q ∧ z ≤ q)) : ∀ q, (q = X ∨ v5.ownBlock = some q) → (q = X ∨ vN.ownBlock = some q) ∨ z ≤ q := by
  rintro q (e | e)
  · exact .inl (.inl e)
  · rcases h with h | ⟨p, h, hp⟩
    · exact .inl (.inr (h ▸ e))
    · rw [h] at e; injection e with e; exact .inr (e ▸ hp)
theorem more_low {X : Nat} {vN : Value} (h : ∀ q, vN.ownBlock = some q → X < q) : ∀ b, b < X → ¬ (b = X ∨ vN.ownBlock = some b) := by
  rintro b hb (e | e)
  · omega
  · have := h b e; omega
theorem more_own {X z : Nat} {v5 vN : Value} (h : ∀ q, vN.ownBlock = some q → X < q) (h5 : v5.ownBlock = vN.ownBlock ∨ (∃ q, v5.ownBlock = some q ∧ z ≤ q)) (hX : X < z) : ∀ q, v5.ownBlock = some q → X < q := by
  intro q e
  rcases h5 with k | ⟨p, k, hp⟩
  · exact h q (k ▸ e)
  · rw [k] at e; injection e with e; omega

end Go.Proofs.YtbelbhdhcgpcpaaDoor.Gr
