/- What code.names and code.Name come to. Printed in part by gen_codewalks.py, a program of this session. -/
import Derived.Test.YtdlapjfcmhkieaaDoorCodePlain
import Derived.Test.YtdlapjfcmhkieaaDoorTarget
import Derived.Test.YtdlapjfcmhkieaaDoorShelf
import Derived.Laws.IdiomStrings
import Derived.Laws.Tables
import Derived.Great.BuildSlice
import Derived.Deep.WholeRow
namespace Go.Proofs.YtdlapjfcmhkieaaDoor.Ver
open Go.RowKit Go.Proofs.YtdlapjfcmhkieaaDoor.Base
set_option linter.unusedVariables false
set_option linter.unusedSimpArgs false

def namesV : Array Value := #[.string ⟨#[104, 97, 108, 116]⟩, .string ⟨#[99, 111, 110, 115, 116]⟩, .string ⟨#[97, 100, 100]⟩, .string ⟨#[115, 117, 98]⟩, .string ⟨#[109, 117, 108]⟩, .string ⟨#[106, 117, 109, 112]⟩, .string ⟨#[122, 101, 114, 111]⟩, .string ⟨#[97, 108, 108, 111, 99]⟩, .string ⟨#[108, 111, 97, 100]⟩, .string ⟨#[112, 117, 116]⟩, .string ⟨#[119, 111, 114, 100]⟩, .string ⟨#[115, 101, 116, 119, 111, 114, 100]⟩, .string ⟨#[114, 111, 111, 116]⟩, .string ⟨#[115, 101, 116, 114, 111, 111, 116]⟩, .string ⟨#[99, 111, 109, 109, 105, 116]⟩, .string ⟨#[97, 98, 111, 114, 116]⟩, .string ⟨#[111, 117, 116]⟩, .string ⟨#[105, 115, 110, 105, 108]⟩, .string ⟨#[115, 97, 109, 101]⟩, .string ⟨#[110, 105, 108]⟩, .string ⟨#[109, 111, 118, 101]⟩, .string ⟨#[115, 108, 111, 116, 115]⟩, .string ⟨#[119, 111, 114, 100, 115]⟩]

def zerosV : Array Value := (List.replicate 23 (.string ByteArray.empty)).toArray
theorem sizeNames : (Tryd.prog.info? 52).map (·.size) = some namesV.size := by kernel_rfl
theorem names_any (w : World) : Calls Tryd.prog 21 #[] w fun e w' => e = .returned (.agg namesV) ∧ Below w.heap.size w w' := by
  go_enter Tryd.func21, Tryd.ntmps21
  go_upto_region 1 with (fail)
  rename_i K hK
  apply wp_region_lit
  refine wpList_buildTo rfl 52 _ rfl (some 1) rfl namesV (by kernel_rfl) ?_
  refine wpList_store_rowTo rfl 52 _ _ rfl rfl w.heap.size namesV rfl rfl 52 _ (heap_alloc_new w _) sizeNames rfl (by kernel_rfl) ?_
  refine hK _ _ ?_
  rw [World.setRow_alloc_new]
  go_wp2_with fail
  exact bodyPost_ret (v := .agg namesV) (results_cell_row rfl _ _ w.heap.size 52 namesV (0, 0) _ rfl (heap_alloc_new w _) Tryd.underlying52 rfl sizeNames) rfl ⟨rfl, (Below.refl _ _).alloc (Nat.le_refl _) _⟩
theorem names_index {op : Int} (h0 : 0 ≤ op) (h1 : op < 23) (w : World) : (Instr.index 52 (.agg namesV) (.int .i64 op)).run Tryd.prog w = .ok (.string ⟨(opName op).toArray⟩) w := by
  have hc : op = 0 ∨ op = 1 ∨ op = 2 ∨ op = 3 ∨ op = 4 ∨ op = 5 ∨ op = 6 ∨ op = 7 ∨ op = 8 ∨ op = 9 ∨ op = 10 ∨ op = 11 ∨ op = 12 ∨ op = 13 ∨ op = 14 ∨ op = 15 ∨ op = 16 ∨ op = 17 ∨ op = 18 ∨ op = 19 ∨ op = 20 ∨ op = 21 ∨ op = 22 := by omega
  rcases hc with rfl | rfl | rfl | rfl | rfl | rfl | rfl | rfl | rfl | rfl | rfl | rfl | rfl | rfl | rfl | rfl | rfl | rfl | rfl | rfl | rfl | rfl | rfl
  all_goals (show (_ : Result Value) = _; kernel_rfl)
theorem name_any (op : Int) (w : World) : Calls Tryd.prog 10 #[.int .i64 op] w fun e w' => e = .returned (.string ⟨(opName op).toArray⟩) ∧ Below w.heap.size w w' := by
  rcases (by omega : op < 0 ∨ (0 ≤ op ∧ 23 ≤ op) ∨ (0 ≤ op ∧ op < 23)) with h | ⟨h, h1⟩ | ⟨h, h1⟩
  · rw [opName_out (.inl h)]
    go_enter Tryd.func10, Tryd.ntmps10
    go_wp2_with fail
    go_ret
    exact ⟨rfl, Below.refl _ _⟩
  · rw [opName_out (.inr h1)]
    go_enter Tryd.func10, Tryd.ntmps10
    go_wp2_with fail
    go_ret
    exact ⟨rfl, Below.refl _ _⟩
  · obtain ⟨s, hs⟩ : ∃ s : List UInt8, s = opName op := ⟨_, rfl⟩
    rw [← hs]
    have hidx := names_index h h1
    rw [← hs] at hidx
    clear hs
    have hn := names_any
    obtain ⟨nv, hnv⟩ : ∃ v, v = namesV := ⟨_, rfl⟩
    rw [← hnv] at hn hidx
    clear hnv
    have HN := Lib.hid hn
    clear hn
    go_enter Tryd.func10, Tryd.ntmps10
    go_wp2_with fail
    refine (HN.out _).mono ?_
    rintro e w1 ⟨rfl, hb⟩
    go_wp2_with fail
    go_ret
    exact ⟨rfl, hb⟩

end Go.Proofs.YtdlapjfcmhkieaaDoor.Ver
