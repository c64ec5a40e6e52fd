/- The book's functions over kinds of lists of which it holds none. Printed by gen_booknil.py. -/
import Derived.Test.YtdlapjfcmhkieaaDoorBkRows
import Derived.Test.YtdlapjfcmhkieaaDoorProg
import Derived.Test.YtdlapjfcmhkieaaDoorProg
namespace Go.Proofs.YtdlapjfcmhkieaaDoor.BkNil
open Go.RowKit Go.Proofs.YtdlapjfcmhkieaaDoor.Base Go.Proofs.YtdlapjfcmhkieaaDoor.Bk
set_option linter.unusedVariables false
set_option linter.unusedSimpArgs false

theorem still_Texts {X k : Nat} {cs : Array Value} {A : Option Addr} {w : World} (hX : Blk w X 44 cs) (h : cs[0]? = some (.slice A 0 k)) :
    Calls Tryd.prog 25 #[.pointer (some ⟨X, 0, none⟩)] w fun e w' => e = .returned (.bool true) ∧ w' = w := by
  have x0 := (hX.cell 0).trans h
  have x1 := hX.lt
  clear hX h
  go_enter Tryd.func25, Tryd.ntmps25
  go_wp2
  go_loopw [3] (fun q wr => q = .int .i64 0 ∧ wr = w) (fun _ _ => 0)
  case atStart => exact ⟨rfl, rfl⟩
  case round =>
    obtain ⟨rfl, rfl⟩ := hrel
    go_wp2
    go_ret
    exact ⟨rfl, rfl⟩

theorem put_Texts {X k : Nat} {cs : Array Value} {A : Option Addr} {w : World} (hX : Blk w X 44 cs) (h : cs[0]? = some (.slice A 0 k)) :
    Calls Tryd.prog 32 #[.pointer (some ⟨X, 0, none⟩)] w fun e w' => e = .returned (.tuple #[]) ∧ w' = w := by
  have x0 := (hX.cell 0).trans h
  have x1 := hX.lt
  clear hX h
  go_enter Tryd.func32, Tryd.ntmps32
  go_wp2
  go_loopw [2] (fun q wr => q = .int .i64 0 ∧ wr = w) (fun _ _ => 0)
  case atStart => exact ⟨rfl, rfl⟩
  case round =>
    obtain ⟨rfl, rfl⟩ := hrel
    go_wp2
    go_end0
    exact ⟨rfl, rfl⟩

theorem grow_Texts {X k : Nat} {cs : Array Value} {A : Option Addr} {w : World} (hX : Blk w X 44 cs) (h : cs[0]? = some (.slice A 0 k)) :
    Calls Tryd.prog 37 #[.pointer (some ⟨X, 0, none⟩)] w fun e w' => e = .returned (.slice none 0 0) ∧ w' = w := by
  have x0 := (hX.cell 0).trans h
  have x1 := hX.lt
  clear hX h
  go_enter Tryd.func37, Tryd.ntmps37
  go_wp2
  go_loopw [3, 4] (fun o q wr => o = .slice none 0 0 ∧ q = .int .i64 0 ∧ wr = w) (fun _ _ _ => 0)
  case atStart => exact ⟨rfl, rfl, rfl⟩
  case round =>
    obtain ⟨rfl, rfl, rfl⟩ := hrel
    go_wp2
    go_ret
    exact ⟨rfl, rfl⟩

theorem marked_Texts {k : Nat} {A : Option Addr} {w : World} :
    Calls Tryd.prog 43 #[.slice A 0 k] w fun e w' => e = .returned (.bool true) ∧ w' = w := by
  go_enter Tryd.func43, Tryd.ntmps43
  go_wp2
  go_loopw [3] (fun q wr => q = .int .i64 0 ∧ wr = w) (fun _ _ => 0)
  case atStart => exact ⟨rfl, rfl⟩
  case round =>
    obtain ⟨rfl, rfl⟩ := hrel
    go_wp2
    go_ret
    exact ⟨rfl, rfl⟩

theorem still_Ints {X k : Nat} {cs : Array Value} {A : Option Addr} {w : World} (hX : Blk w X 44 cs) (h : cs[2]? = some (.slice A 0 k)) :
    Calls Tryd.prog 26 #[.pointer (some ⟨X, 0, none⟩)] w fun e w' => e = .returned (.bool true) ∧ w' = w := by
  have x0 := (hX.cell 2).trans h
  have x1 := hX.lt
  clear hX h
  go_enter Tryd.func26, Tryd.ntmps26
  go_wp2
  go_loopw [3] (fun q wr => q = .int .i64 0 ∧ wr = w) (fun _ _ => 0)
  case atStart => exact ⟨rfl, rfl⟩
  case round =>
    obtain ⟨rfl, rfl⟩ := hrel
    go_wp2
    go_ret
    exact ⟨rfl, rfl⟩

theorem put_Ints {X k : Nat} {cs : Array Value} {A : Option Addr} {w : World} (hX : Blk w X 44 cs) (h : cs[2]? = some (.slice A 0 k)) :
    Calls Tryd.prog 33 #[.pointer (some ⟨X, 0, none⟩)] w fun e w' => e = .returned (.tuple #[]) ∧ w' = w := by
  have x0 := (hX.cell 2).trans h
  have x1 := hX.lt
  clear hX h
  go_enter Tryd.func33, Tryd.ntmps33
  go_wp2
  go_loopw [2] (fun q wr => q = .int .i64 0 ∧ wr = w) (fun _ _ => 0)
  case atStart => exact ⟨rfl, rfl⟩
  case round =>
    obtain ⟨rfl, rfl⟩ := hrel
    go_wp2
    go_end0
    exact ⟨rfl, rfl⟩

theorem grow_Ints {X k : Nat} {cs : Array Value} {A : Option Addr} {w : World} (hX : Blk w X 44 cs) (h : cs[2]? = some (.slice A 0 k)) :
    Calls Tryd.prog 38 #[.pointer (some ⟨X, 0, none⟩)] w fun e w' => e = .returned (.slice none 0 0) ∧ w' = w := by
  have x0 := (hX.cell 2).trans h
  have x1 := hX.lt
  clear hX h
  go_enter Tryd.func38, Tryd.ntmps38
  go_wp2
  go_loopw [3, 4] (fun o q wr => o = .slice none 0 0 ∧ q = .int .i64 0 ∧ wr = w) (fun _ _ _ => 0)
  case atStart => exact ⟨rfl, rfl, rfl⟩
  case round =>
    obtain ⟨rfl, rfl, rfl⟩ := hrel
    go_wp2
    go_ret
    exact ⟨rfl, rfl⟩

theorem marked_Ints {k : Nat} {A : Option Addr} {w : World} :
    Calls Tryd.prog 44 #[.slice A 0 k] w fun e w' => e = .returned (.bool true) ∧ w' = w := by
  go_enter Tryd.func44, Tryd.ntmps44
  go_wp2
  go_loopw [3] (fun q wr => q = .int .i64 0 ∧ wr = w) (fun _ _ => 0)
  case atStart => exact ⟨rfl, rfl⟩
  case round =>
    obtain ⟨rfl, rfl⟩ := hrel
    go_wp2
    go_ret
    exact ⟨rfl, rfl⟩

theorem still_Changes {X k : Nat} {cs : Array Value} {A : Option Addr} {w : World} (hX : Blk w X 44 cs) (h : cs[4]? = some (.slice A 0 k)) :
    Calls Tryd.prog 27 #[.pointer (some ⟨X, 0, none⟩)] w fun e w' => e = .returned (.bool true) ∧ w' = w := by
  have x0 := (hX.cell 4).trans h
  have x1 := hX.lt
  clear hX h
  go_enter Tryd.func27, Tryd.ntmps27
  go_wp2
  go_loopw [3] (fun q wr => q = .int .i64 0 ∧ wr = w) (fun _ _ => 0)
  case atStart => exact ⟨rfl, rfl⟩
  case round =>
    obtain ⟨rfl, rfl⟩ := hrel
    go_wp2
    go_ret
    exact ⟨rfl, rfl⟩

theorem put_Changes {X k : Nat} {cs : Array Value} {A : Option Addr} {w : World} (hX : Blk w X 44 cs) (h : cs[4]? = some (.slice A 0 k)) :
    Calls Tryd.prog 34 #[.pointer (some ⟨X, 0, none⟩)] w fun e w' => e = .returned (.tuple #[]) ∧ w' = w := by
  have x0 := (hX.cell 4).trans h
  have x1 := hX.lt
  clear hX h
  go_enter Tryd.func34, Tryd.ntmps34
  go_wp2
  go_loopw [2] (fun q wr => q = .int .i64 0 ∧ wr = w) (fun _ _ => 0)
  case atStart => exact ⟨rfl, rfl⟩
  case round =>
    obtain ⟨rfl, rfl⟩ := hrel
    go_wp2
    go_end0
    exact ⟨rfl, rfl⟩

theorem grow_Changes {X k : Nat} {cs : Array Value} {A : Option Addr} {w : World} (hX : Blk w X 44 cs) (h : cs[4]? = some (.slice A 0 k)) :
    Calls Tryd.prog 39 #[.pointer (some ⟨X, 0, none⟩)] w fun e w' => e = .returned (.slice none 0 0) ∧ w' = w := by
  have x0 := (hX.cell 4).trans h
  have x1 := hX.lt
  clear hX h
  go_enter Tryd.func39, Tryd.ntmps39
  go_wp2
  go_loopw [3, 4] (fun o q wr => o = .slice none 0 0 ∧ q = .int .i64 0 ∧ wr = w) (fun _ _ _ => 0)
  case atStart => exact ⟨rfl, rfl, rfl⟩
  case round =>
    obtain ⟨rfl, rfl, rfl⟩ := hrel
    go_wp2
    go_ret
    exact ⟨rfl, rfl⟩

theorem marked_Changes {k : Nat} {A : Option Addr} {w : World} :
    Calls Tryd.prog 45 #[.slice A 0 k] w fun e w' => e = .returned (.bool true) ∧ w' = w := by
  go_enter Tryd.func45, Tryd.ntmps45
  go_wp2
  go_loopw [3] (fun q wr => q = .int .i64 0 ∧ wr = w) (fun _ _ => 0)
  case atStart => exact ⟨rfl, rfl⟩
  case round =>
    obtain ⟨rfl, rfl⟩ := hrel
    go_wp2
    go_ret
    exact ⟨rfl, rfl⟩

theorem still_Entries {X k : Nat} {cs : Array Value} {A : Option Addr} {w : World} (hX : Blk w X 44 cs) (h : cs[6]? = some (.slice A 0 k)) :
    Calls Tryd.prog 28 #[.pointer (some ⟨X, 0, none⟩)] w fun e w' => e = .returned (.bool true) ∧ w' = w := by
  have x0 := (hX.cell 6).trans h
  have x1 := hX.lt
  clear hX h
  go_enter Tryd.func28, Tryd.ntmps28
  go_wp2
  go_loopw [3] (fun q wr => q = .int .i64 0 ∧ wr = w) (fun _ _ => 0)
  case atStart => exact ⟨rfl, rfl⟩
  case round =>
    obtain ⟨rfl, rfl⟩ := hrel
    go_wp2
    go_ret
    exact ⟨rfl, rfl⟩

theorem put_Entries {X k : Nat} {cs : Array Value} {A : Option Addr} {w : World} (hX : Blk w X 44 cs) (h : cs[6]? = some (.slice A 0 k)) :
    Calls Tryd.prog 35 #[.pointer (some ⟨X, 0, none⟩)] w fun e w' => e = .returned (.tuple #[]) ∧ w' = w := by
  have x0 := (hX.cell 6).trans h
  have x1 := hX.lt
  clear hX h
  go_enter Tryd.func35, Tryd.ntmps35
  go_wp2
  go_loopw [2] (fun q wr => q = .int .i64 0 ∧ wr = w) (fun _ _ => 0)
  case atStart => exact ⟨rfl, rfl⟩
  case round =>
    obtain ⟨rfl, rfl⟩ := hrel
    go_wp2
    go_end0
    exact ⟨rfl, rfl⟩

theorem grow_Entries {X k : Nat} {cs : Array Value} {A : Option Addr} {w : World} (hX : Blk w X 44 cs) (h : cs[6]? = some (.slice A 0 k)) :
    Calls Tryd.prog 40 #[.pointer (some ⟨X, 0, none⟩)] w fun e w' => e = .returned (.slice none 0 0) ∧ w' = w := by
  have x0 := (hX.cell 6).trans h
  have x1 := hX.lt
  clear hX h
  go_enter Tryd.func40, Tryd.ntmps40
  go_wp2
  go_loopw [3, 4] (fun o q wr => o = .slice none 0 0 ∧ q = .int .i64 0 ∧ wr = w) (fun _ _ _ => 0)
  case atStart => exact ⟨rfl, rfl, rfl⟩
  case round =>
    obtain ⟨rfl, rfl, rfl⟩ := hrel
    go_wp2
    go_ret
    exact ⟨rfl, rfl⟩

theorem marked_Entries {k : Nat} {A : Option Addr} {w : World} :
    Calls Tryd.prog 46 #[.slice A 0 k] w fun e w' => e = .returned (.bool true) ∧ w' = w := by
  go_enter Tryd.func46, Tryd.ntmps46
  go_wp2
  go_loopw [3] (fun q wr => q = .int .i64 0 ∧ wr = w) (fun _ _ => 0)
  case atStart => exact ⟨rfl, rfl⟩
  case round =>
    obtain ⟨rfl, rfl⟩ := hrel
    go_wp2
    go_ret
    exact ⟨rfl, rfl⟩

theorem still_Codes {X k : Nat} {cs : Array Value} {A : Option Addr} {w : World} (hX : Blk w X 44 cs) (h : cs[8]? = some (.slice A 0 k)) :
    Calls Tryd.prog 29 #[.pointer (some ⟨X, 0, none⟩)] w fun e w' => e = .returned (.bool true) ∧ w' = w := by
  have x0 := (hX.cell 8).trans h
  have x1 := hX.lt
  clear hX h
  go_enter Tryd.func29, Tryd.ntmps29
  go_wp2
  go_loopw [3] (fun q wr => q = .int .i64 0 ∧ wr = w) (fun _ _ => 0)
  case atStart => exact ⟨rfl, rfl⟩
  case round =>
    obtain ⟨rfl, rfl⟩ := hrel
    go_wp2
    go_ret
    exact ⟨rfl, rfl⟩

theorem put_Codes {X k : Nat} {cs : Array Value} {A : Option Addr} {w : World} (hX : Blk w X 44 cs) (h : cs[8]? = some (.slice A 0 k)) :
    Calls Tryd.prog 36 #[.pointer (some ⟨X, 0, none⟩)] w fun e w' => e = .returned (.tuple #[]) ∧ w' = w := by
  have x0 := (hX.cell 8).trans h
  have x1 := hX.lt
  clear hX h
  go_enter Tryd.func36, Tryd.ntmps36
  go_wp2
  go_loopw [2] (fun q wr => q = .int .i64 0 ∧ wr = w) (fun _ _ => 0)
  case atStart => exact ⟨rfl, rfl⟩
  case round =>
    obtain ⟨rfl, rfl⟩ := hrel
    go_wp2
    go_end0
    exact ⟨rfl, rfl⟩

theorem grow_Codes {X k : Nat} {cs : Array Value} {A : Option Addr} {w : World} (hX : Blk w X 44 cs) (h : cs[8]? = some (.slice A 0 k)) :
    Calls Tryd.prog 41 #[.pointer (some ⟨X, 0, none⟩)] w fun e w' => e = .returned (.slice none 0 0) ∧ w' = w := by
  have x0 := (hX.cell 8).trans h
  have x1 := hX.lt
  clear hX h
  go_enter Tryd.func41, Tryd.ntmps41
  go_wp2
  go_loopw [3, 4] (fun o q wr => o = .slice none 0 0 ∧ q = .int .i64 0 ∧ wr = w) (fun _ _ _ => 0)
  case atStart => exact ⟨rfl, rfl, rfl⟩
  case round =>
    obtain ⟨rfl, rfl, rfl⟩ := hrel
    go_wp2
    go_ret
    exact ⟨rfl, rfl⟩

theorem marked_Codes {k : Nat} {A : Option Addr} {w : World} :
    Calls Tryd.prog 47 #[.slice A 0 k] w fun e w' => e = .returned (.bool true) ∧ w' = w := by
  go_enter Tryd.func47, Tryd.ntmps47
  go_wp2
  go_loopw [3] (fun q wr => q = .int .i64 0 ∧ wr = w) (fun _ _ => 0)
  case atStart => exact ⟨rfl, rfl⟩
  case round =>
    obtain ⟨rfl, rfl⟩ := hrel
    go_wp2
    go_ret
    exact ⟨rfl, rfl⟩

theorem still_Nodes {X k : Nat} {cs : Array Value} {A : Option Addr} {w : World} (hX : Blk w X 44 cs) (h : cs[10]? = some (.slice A 0 k)) :
    Calls Tryd.prog 30 #[.pointer (some ⟨X, 0, none⟩)] w fun e w' => e = .returned (.bool true) ∧ w' = w := by
  have x0 := (hX.cell 10).trans h
  have x1 := hX.lt
  clear hX h
  go_enter Tryd.func30, Tryd.ntmps30
  go_wp2
  go_loopw [3] (fun q wr => q = .int .i64 0 ∧ wr = w) (fun _ _ => 0)
  case atStart => exact ⟨rfl, rfl⟩
  case round =>
    obtain ⟨rfl, rfl⟩ := hrel
    go_wp2
    go_ret
    exact ⟨rfl, rfl⟩

theorem put_Nodes {X k : Nat} {cs : Array Value} {A : Option Addr} {w : World} (hX : Blk w X 44 cs) (h : cs[10]? = some (.slice A 0 k)) :
    Calls Tryd.prog 31 #[.pointer (some ⟨X, 0, none⟩)] w fun e w' => e = .returned (.tuple #[]) ∧ w' = w := by
  have x0 := (hX.cell 10).trans h
  have x1 := hX.lt
  clear hX h
  go_enter Tryd.func31, Tryd.ntmps31
  go_wp2
  go_loopw [2] (fun q wr => q = .int .i64 0 ∧ wr = w) (fun _ _ => 0)
  case atStart => exact ⟨rfl, rfl⟩
  case round =>
    obtain ⟨rfl, rfl⟩ := hrel
    go_wp2
    go_end0
    exact ⟨rfl, rfl⟩

theorem grow_Nodes {X k : Nat} {cs : Array Value} {A : Option Addr} {w : World} (hX : Blk w X 44 cs) (h : cs[10]? = some (.slice A 0 k)) :
    Calls Tryd.prog 42 #[.pointer (some ⟨X, 0, none⟩)] w fun e w' => e = .returned (.slice none 0 0) ∧ w' = w := by
  have x0 := (hX.cell 10).trans h
  have x1 := hX.lt
  clear hX h
  go_enter Tryd.func42, Tryd.ntmps42
  go_wp2
  go_loopw [3, 4] (fun o q wr => o = .slice none 0 0 ∧ q = .int .i64 0 ∧ wr = w) (fun _ _ _ => 0)
  case atStart => exact ⟨rfl, rfl, rfl⟩
  case round =>
    obtain ⟨rfl, rfl, rfl⟩ := hrel
    go_wp2
    go_ret
    exact ⟨rfl, rfl⟩

theorem marked_Nodes {k : Nat} {A : Option Addr} {w : World} :
    Calls Tryd.prog 48 #[.slice A 0 k] w fun e w' => e = .returned (.bool true) ∧ w' = w := by
  go_enter Tryd.func48, Tryd.ntmps48
  go_wp2
  go_loopw [3] (fun q wr => q = .int .i64 0 ∧ wr = w) (fun _ _ => 0)
  case atStart => exact ⟨rfl, rfl⟩
  case round =>
    obtain ⟨rfl, rfl⟩ := hrel
    go_wp2
    go_ret
    exact ⟨rfl, rfl⟩

end Go.Proofs.YtdlapjfcmhkieaaDoor.BkNil