/- The book's functions over kinds of lists of which it holds none. Printed by gen_booknil.py. -/
import Derived.Test.YtbelbhdhcgpcpaaGreatDoorBkRows
import Derived.Test.YtbelbhdhcgpcpaaGreatDoorProg
import Derived.Test.YtbelbhdhcgpcpaaGreatDoorProg
namespace Go.Proofs.YtbelbhdhcgpcpaaGreatDoor.BkNil
open Go.RowKit Go.Proofs.YtbelbhdhcgpcpaaGreatDoor.Base Go.Proofs.YtbelbhdhcgpcpaaGreatDoor.Bk
set_option linter.unusedVariables false
set_option linter.unusedSimpArgs false

theorem still_Texts {X k : Nat} {cs : Array Value} {A : Option Addr} {w : World} (hX : Blk w X 37 cs) (h : cs[0]? = some (.slice A 0 k)) :
    Calls Tryz.prog 45 #[.pointer (some ⟨X, 0, none⟩)] w fun e w' => e = .returned (.bool true) ∧ w' = w := by
  have x0 := (hX.cell 0).trans h
  have x1 := hX.lt
  clear hX h
  go_enter Tryz.func45, Tryz.ntmps45
  go_wp2
  go_loopw [3] (fun q wr => q = .int .i64 0 ∧ wr = w) (fun _ _ => 0)
  case atStart => exact ⟨rfl, rfl⟩
  case round =>
    obtain ⟨rfl, rfl⟩ := hrel
    go_wp2
    go_ret
    exact ⟨rfl, rfl⟩

theorem put_Texts {X k : Nat} {cs : Array Value} {A : Option Addr} {w : World} (hX : Blk w X 37 cs) (h : cs[0]? = some (.slice A 0 k)) :
    Calls Tryz.prog 52 #[.pointer (some ⟨X, 0, none⟩)] w fun e w' => e = .returned (.tuple #[]) ∧ w' = w := by
  have x0 := (hX.cell 0).trans h
  have x1 := hX.lt
  clear hX h
  go_enter Tryz.func52, Tryz.ntmps52
  go_wp2
  go_loopw [2] (fun q wr => q = .int .i64 0 ∧ wr = w) (fun _ _ => 0)
  case atStart => exact ⟨rfl, rfl⟩
  case round =>
    obtain ⟨rfl, rfl⟩ := hrel
    go_wp2
    go_end0
    exact ⟨rfl, rfl⟩

theorem grow_Texts {X k : Nat} {cs : Array Value} {A : Option Addr} {w : World} (hX : Blk w X 37 cs) (h : cs[0]? = some (.slice A 0 k)) :
    Calls Tryz.prog 57 #[.pointer (some ⟨X, 0, none⟩)] w fun e w' => e = .returned (.slice none 0 0) ∧ w' = w := by
  have x0 := (hX.cell 0).trans h
  have x1 := hX.lt
  clear hX h
  go_enter Tryz.func57, Tryz.ntmps57
  go_wp2
  go_loopw [3, 4] (fun o q wr => o = .slice none 0 0 ∧ q = .int .i64 0 ∧ wr = w) (fun _ _ _ => 0)
  case atStart => exact ⟨rfl, rfl, rfl⟩
  case round =>
    obtain ⟨rfl, rfl, rfl⟩ := hrel
    go_wp2
    go_ret
    exact ⟨rfl, rfl⟩

theorem marked_Texts {k : Nat} {A : Option Addr} {w : World} :
    Calls Tryz.prog 63 #[.slice A 0 k] w fun e w' => e = .returned (.bool true) ∧ w' = w := by
  go_enter Tryz.func63, Tryz.ntmps63
  go_wp2
  go_loopw [3] (fun q wr => q = .int .i64 0 ∧ wr = w) (fun _ _ => 0)
  case atStart => exact ⟨rfl, rfl⟩
  case round =>
    obtain ⟨rfl, rfl⟩ := hrel
    go_wp2
    go_ret
    exact ⟨rfl, rfl⟩

theorem still_Ints {X k : Nat} {cs : Array Value} {A : Option Addr} {w : World} (hX : Blk w X 37 cs) (h : cs[2]? = some (.slice A 0 k)) :
    Calls Tryz.prog 46 #[.pointer (some ⟨X, 0, none⟩)] w fun e w' => e = .returned (.bool true) ∧ w' = w := by
  have x0 := (hX.cell 2).trans h
  have x1 := hX.lt
  clear hX h
  go_enter Tryz.func46, Tryz.ntmps46
  go_wp2
  go_loopw [3] (fun q wr => q = .int .i64 0 ∧ wr = w) (fun _ _ => 0)
  case atStart => exact ⟨rfl, rfl⟩
  case round =>
    obtain ⟨rfl, rfl⟩ := hrel
    go_wp2
    go_ret
    exact ⟨rfl, rfl⟩

theorem put_Ints {X k : Nat} {cs : Array Value} {A : Option Addr} {w : World} (hX : Blk w X 37 cs) (h : cs[2]? = some (.slice A 0 k)) :
    Calls Tryz.prog 53 #[.pointer (some ⟨X, 0, none⟩)] w fun e w' => e = .returned (.tuple #[]) ∧ w' = w := by
  have x0 := (hX.cell 2).trans h
  have x1 := hX.lt
  clear hX h
  go_enter Tryz.func53, Tryz.ntmps53
  go_wp2
  go_loopw [2] (fun q wr => q = .int .i64 0 ∧ wr = w) (fun _ _ => 0)
  case atStart => exact ⟨rfl, rfl⟩
  case round =>
    obtain ⟨rfl, rfl⟩ := hrel
    go_wp2
    go_end0
    exact ⟨rfl, rfl⟩

theorem grow_Ints {X k : Nat} {cs : Array Value} {A : Option Addr} {w : World} (hX : Blk w X 37 cs) (h : cs[2]? = some (.slice A 0 k)) :
    Calls Tryz.prog 58 #[.pointer (some ⟨X, 0, none⟩)] w fun e w' => e = .returned (.slice none 0 0) ∧ w' = w := by
  have x0 := (hX.cell 2).trans h
  have x1 := hX.lt
  clear hX h
  go_enter Tryz.func58, Tryz.ntmps58
  go_wp2
  go_loopw [3, 4] (fun o q wr => o = .slice none 0 0 ∧ q = .int .i64 0 ∧ wr = w) (fun _ _ _ => 0)
  case atStart => exact ⟨rfl, rfl, rfl⟩
  case round =>
    obtain ⟨rfl, rfl, rfl⟩ := hrel
    go_wp2
    go_ret
    exact ⟨rfl, rfl⟩

theorem marked_Ints {k : Nat} {A : Option Addr} {w : World} :
    Calls Tryz.prog 64 #[.slice A 0 k] w fun e w' => e = .returned (.bool true) ∧ w' = w := by
  go_enter Tryz.func64, Tryz.ntmps64
  go_wp2
  go_loopw [3] (fun q wr => q = .int .i64 0 ∧ wr = w) (fun _ _ => 0)
  case atStart => exact ⟨rfl, rfl⟩
  case round =>
    obtain ⟨rfl, rfl⟩ := hrel
    go_wp2
    go_ret
    exact ⟨rfl, rfl⟩

theorem still_Changes {X k : Nat} {cs : Array Value} {A : Option Addr} {w : World} (hX : Blk w X 37 cs) (h : cs[4]? = some (.slice A 0 k)) :
    Calls Tryz.prog 47 #[.pointer (some ⟨X, 0, none⟩)] w fun e w' => e = .returned (.bool true) ∧ w' = w := by
  have x0 := (hX.cell 4).trans h
  have x1 := hX.lt
  clear hX h
  go_enter Tryz.func47, Tryz.ntmps47
  go_wp2
  go_loopw [3] (fun q wr => q = .int .i64 0 ∧ wr = w) (fun _ _ => 0)
  case atStart => exact ⟨rfl, rfl⟩
  case round =>
    obtain ⟨rfl, rfl⟩ := hrel
    go_wp2
    go_ret
    exact ⟨rfl, rfl⟩

theorem put_Changes {X k : Nat} {cs : Array Value} {A : Option Addr} {w : World} (hX : Blk w X 37 cs) (h : cs[4]? = some (.slice A 0 k)) :
    Calls Tryz.prog 54 #[.pointer (some ⟨X, 0, none⟩)] w fun e w' => e = .returned (.tuple #[]) ∧ w' = w := by
  have x0 := (hX.cell 4).trans h
  have x1 := hX.lt
  clear hX h
  go_enter Tryz.func54, Tryz.ntmps54
  go_wp2
  go_loopw [2] (fun q wr => q = .int .i64 0 ∧ wr = w) (fun _ _ => 0)
  case atStart => exact ⟨rfl, rfl⟩
  case round =>
    obtain ⟨rfl, rfl⟩ := hrel
    go_wp2
    go_end0
    exact ⟨rfl, rfl⟩

theorem grow_Changes {X k : Nat} {cs : Array Value} {A : Option Addr} {w : World} (hX : Blk w X 37 cs) (h : cs[4]? = some (.slice A 0 k)) :
    Calls Tryz.prog 59 #[.pointer (some ⟨X, 0, none⟩)] w fun e w' => e = .returned (.slice none 0 0) ∧ w' = w := by
  have x0 := (hX.cell 4).trans h
  have x1 := hX.lt
  clear hX h
  go_enter Tryz.func59, Tryz.ntmps59
  go_wp2
  go_loopw [3, 4] (fun o q wr => o = .slice none 0 0 ∧ q = .int .i64 0 ∧ wr = w) (fun _ _ _ => 0)
  case atStart => exact ⟨rfl, rfl, rfl⟩
  case round =>
    obtain ⟨rfl, rfl, rfl⟩ := hrel
    go_wp2
    go_ret
    exact ⟨rfl, rfl⟩

theorem marked_Changes {k : Nat} {A : Option Addr} {w : World} :
    Calls Tryz.prog 65 #[.slice A 0 k] w fun e w' => e = .returned (.bool true) ∧ w' = w := by
  go_enter Tryz.func65, Tryz.ntmps65
  go_wp2
  go_loopw [3] (fun q wr => q = .int .i64 0 ∧ wr = w) (fun _ _ => 0)
  case atStart => exact ⟨rfl, rfl⟩
  case round =>
    obtain ⟨rfl, rfl⟩ := hrel
    go_wp2
    go_ret
    exact ⟨rfl, rfl⟩

theorem still_Entries {X k : Nat} {cs : Array Value} {A : Option Addr} {w : World} (hX : Blk w X 37 cs) (h : cs[6]? = some (.slice A 0 k)) :
    Calls Tryz.prog 48 #[.pointer (some ⟨X, 0, none⟩)] w fun e w' => e = .returned (.bool true) ∧ w' = w := by
  have x0 := (hX.cell 6).trans h
  have x1 := hX.lt
  clear hX h
  go_enter Tryz.func48, Tryz.ntmps48
  go_wp2
  go_loopw [3] (fun q wr => q = .int .i64 0 ∧ wr = w) (fun _ _ => 0)
  case atStart => exact ⟨rfl, rfl⟩
  case round =>
    obtain ⟨rfl, rfl⟩ := hrel
    go_wp2
    go_ret
    exact ⟨rfl, rfl⟩

theorem put_Entries {X k : Nat} {cs : Array Value} {A : Option Addr} {w : World} (hX : Blk w X 37 cs) (h : cs[6]? = some (.slice A 0 k)) :
    Calls Tryz.prog 55 #[.pointer (some ⟨X, 0, none⟩)] w fun e w' => e = .returned (.tuple #[]) ∧ w' = w := by
  have x0 := (hX.cell 6).trans h
  have x1 := hX.lt
  clear hX h
  go_enter Tryz.func55, Tryz.ntmps55
  go_wp2
  go_loopw [2] (fun q wr => q = .int .i64 0 ∧ wr = w) (fun _ _ => 0)
  case atStart => exact ⟨rfl, rfl⟩
  case round =>
    obtain ⟨rfl, rfl⟩ := hrel
    go_wp2
    go_end0
    exact ⟨rfl, rfl⟩

theorem grow_Entries {X k : Nat} {cs : Array Value} {A : Option Addr} {w : World} (hX : Blk w X 37 cs) (h : cs[6]? = some (.slice A 0 k)) :
    Calls Tryz.prog 60 #[.pointer (some ⟨X, 0, none⟩)] w fun e w' => e = .returned (.slice none 0 0) ∧ w' = w := by
  have x0 := (hX.cell 6).trans h
  have x1 := hX.lt
  clear hX h
  go_enter Tryz.func60, Tryz.ntmps60
  go_wp2
  go_loopw [3, 4] (fun o q wr => o = .slice none 0 0 ∧ q = .int .i64 0 ∧ wr = w) (fun _ _ _ => 0)
  case atStart => exact ⟨rfl, rfl, rfl⟩
  case round =>
    obtain ⟨rfl, rfl, rfl⟩ := hrel
    go_wp2
    go_ret
    exact ⟨rfl, rfl⟩

theorem marked_Entries {k : Nat} {A : Option Addr} {w : World} :
    Calls Tryz.prog 66 #[.slice A 0 k] w fun e w' => e = .returned (.bool true) ∧ w' = w := by
  go_enter Tryz.func66, Tryz.ntmps66
  go_wp2
  go_loopw [3] (fun q wr => q = .int .i64 0 ∧ wr = w) (fun _ _ => 0)
  case atStart => exact ⟨rfl, rfl⟩
  case round =>
    obtain ⟨rfl, rfl⟩ := hrel
    go_wp2
    go_ret
    exact ⟨rfl, rfl⟩

theorem still_Codes {X k : Nat} {cs : Array Value} {A : Option Addr} {w : World} (hX : Blk w X 37 cs) (h : cs[8]? = some (.slice A 0 k)) :
    Calls Tryz.prog 49 #[.pointer (some ⟨X, 0, none⟩)] w fun e w' => e = .returned (.bool true) ∧ w' = w := by
  have x0 := (hX.cell 8).trans h
  have x1 := hX.lt
  clear hX h
  go_enter Tryz.func49, Tryz.ntmps49
  go_wp2
  go_loopw [3] (fun q wr => q = .int .i64 0 ∧ wr = w) (fun _ _ => 0)
  case atStart => exact ⟨rfl, rfl⟩
  case round =>
    obtain ⟨rfl, rfl⟩ := hrel
    go_wp2
    go_ret
    exact ⟨rfl, rfl⟩

theorem put_Codes {X k : Nat} {cs : Array Value} {A : Option Addr} {w : World} (hX : Blk w X 37 cs) (h : cs[8]? = some (.slice A 0 k)) :
    Calls Tryz.prog 56 #[.pointer (some ⟨X, 0, none⟩)] w fun e w' => e = .returned (.tuple #[]) ∧ w' = w := by
  have x0 := (hX.cell 8).trans h
  have x1 := hX.lt
  clear hX h
  go_enter Tryz.func56, Tryz.ntmps56
  go_wp2
  go_loopw [2] (fun q wr => q = .int .i64 0 ∧ wr = w) (fun _ _ => 0)
  case atStart => exact ⟨rfl, rfl⟩
  case round =>
    obtain ⟨rfl, rfl⟩ := hrel
    go_wp2
    go_end0
    exact ⟨rfl, rfl⟩

theorem grow_Codes {X k : Nat} {cs : Array Value} {A : Option Addr} {w : World} (hX : Blk w X 37 cs) (h : cs[8]? = some (.slice A 0 k)) :
    Calls Tryz.prog 61 #[.pointer (some ⟨X, 0, none⟩)] w fun e w' => e = .returned (.slice none 0 0) ∧ w' = w := by
  have x0 := (hX.cell 8).trans h
  have x1 := hX.lt
  clear hX h
  go_enter Tryz.func61, Tryz.ntmps61
  go_wp2
  go_loopw [3, 4] (fun o q wr => o = .slice none 0 0 ∧ q = .int .i64 0 ∧ wr = w) (fun _ _ _ => 0)
  case atStart => exact ⟨rfl, rfl, rfl⟩
  case round =>
    obtain ⟨rfl, rfl, rfl⟩ := hrel
    go_wp2
    go_ret
    exact ⟨rfl, rfl⟩

theorem marked_Codes {k : Nat} {A : Option Addr} {w : World} :
    Calls Tryz.prog 67 #[.slice A 0 k] w fun e w' => e = .returned (.bool true) ∧ w' = w := by
  go_enter Tryz.func67, Tryz.ntmps67
  go_wp2
  go_loopw [3] (fun q wr => q = .int .i64 0 ∧ wr = w) (fun _ _ => 0)
  case atStart => exact ⟨rfl, rfl⟩
  case round =>
    obtain ⟨rfl, rfl⟩ := hrel
    go_wp2
    go_ret
    exact ⟨rfl, rfl⟩

theorem still_Nodes {X k : Nat} {cs : Array Value} {A : Option Addr} {w : World} (hX : Blk w X 37 cs) (h : cs[10]? = some (.slice A 0 k)) :
    Calls Tryz.prog 50 #[.pointer (some ⟨X, 0, none⟩)] w fun e w' => e = .returned (.bool true) ∧ w' = w := by
  have x0 := (hX.cell 10).trans h
  have x1 := hX.lt
  clear hX h
  go_enter Tryz.func50, Tryz.ntmps50
  go_wp2
  go_loopw [3] (fun q wr => q = .int .i64 0 ∧ wr = w) (fun _ _ => 0)
  case atStart => exact ⟨rfl, rfl⟩
  case round =>
    obtain ⟨rfl, rfl⟩ := hrel
    go_wp2
    go_ret
    exact ⟨rfl, rfl⟩

theorem put_Nodes {X k : Nat} {cs : Array Value} {A : Option Addr} {w : World} (hX : Blk w X 37 cs) (h : cs[10]? = some (.slice A 0 k)) :
    Calls Tryz.prog 51 #[.pointer (some ⟨X, 0, none⟩)] w fun e w' => e = .returned (.tuple #[]) ∧ w' = w := by
  have x0 := (hX.cell 10).trans h
  have x1 := hX.lt
  clear hX h
  go_enter Tryz.func51, Tryz.ntmps51
  go_wp2
  go_loopw [2] (fun q wr => q = .int .i64 0 ∧ wr = w) (fun _ _ => 0)
  case atStart => exact ⟨rfl, rfl⟩
  case round =>
    obtain ⟨rfl, rfl⟩ := hrel
    go_wp2
    go_end0
    exact ⟨rfl, rfl⟩

theorem grow_Nodes {X k : Nat} {cs : Array Value} {A : Option Addr} {w : World} (hX : Blk w X 37 cs) (h : cs[10]? = some (.slice A 0 k)) :
    Calls Tryz.prog 62 #[.pointer (some ⟨X, 0, none⟩)] w fun e w' => e = .returned (.slice none 0 0) ∧ w' = w := by
  have x0 := (hX.cell 10).trans h
  have x1 := hX.lt
  clear hX h
  go_enter Tryz.func62, Tryz.ntmps62
  go_wp2
  go_loopw [3, 4] (fun o q wr => o = .slice none 0 0 ∧ q = .int .i64 0 ∧ wr = w) (fun _ _ _ => 0)
  case atStart => exact ⟨rfl, rfl, rfl⟩
  case round =>
    obtain ⟨rfl, rfl, rfl⟩ := hrel
    go_wp2
    go_ret
    exact ⟨rfl, rfl⟩

theorem marked_Nodes {k : Nat} {A : Option Addr} {w : World} :
    Calls Tryz.prog 68 #[.slice A 0 k] w fun e w' => e = .returned (.bool true) ∧ w' = w := by
  go_enter Tryz.func68, Tryz.ntmps68
  go_wp2
  go_loopw [3] (fun q wr => q = .int .i64 0 ∧ wr = w) (fun _ _ => 0)
  case atStart => exact ⟨rfl, rfl⟩
  case round =>
    obtain ⟨rfl, rfl⟩ := hrel
    go_wp2
    go_ret
    exact ⟨rfl, rfl⟩

end Go.Proofs.YtbelbhdhcgpcpaaGreatDoor.BkNil