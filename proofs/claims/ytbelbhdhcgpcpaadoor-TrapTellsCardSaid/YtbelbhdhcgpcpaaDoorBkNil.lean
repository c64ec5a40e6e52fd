/- The book's functions over kinds of lists of which it holds none. Printed by gen_booknil.py. -/
import Derived.Test.YtbelbhdhcgpcpaaDoorBkRows
import Derived.Test.YtbelbhdhcgpcpaaDoorProg
import Derived.Test.YtbelbhdhcgpcpaaDoorProg
namespace Go.Proofs.YtbelbhdhcgpcpaaDoor.BkNil
open Go.RowKit Go.Proofs.YtbelbhdhcgpcpaaDoor.Base Go.Proofs.YtbelbhdhcgpcpaaDoor.Bk
set_option linter.unusedVariables false
set_option linter.unusedSimpArgs false

theorem still_Texts {X k : Nat} {cs : Array Value} {A : Option Addr} {w : World} (hX : Blk w X 58 cs) (h : cs[0]? = some (.slice A 0 k)) :
    Calls Tryd.prog 52 #[.pointer (some ⟨X, 0, none⟩)] w fun e w' => e = .returned (.bool true) ∧ w' = w := by
  have x0 := (hX.cell 0).trans h
  have x1 := hX.lt
  clear hX h
  go_enter Tryd.func52, Tryd.ntmps52
  go_wp2
  go_loopw [3] (fun q wr => q = .int .i64 0 ∧ wr = w) (fun _ _ => 0)
  case atStart => exact ⟨rfl, rfl⟩
  case round =>
    obtain ⟨rfl, rfl⟩ := hrel
    go_wp2
    go_ret
    exact ⟨rfl, rfl⟩

theorem put_Texts {X k : Nat} {cs : Array Value} {A : Option Addr} {w : World} (hX : Blk w X 58 cs) (h : cs[0]? = some (.slice A 0 k)) :
    Calls Tryd.prog 59 #[.pointer (some ⟨X, 0, none⟩)] w fun e w' => e = .returned (.tuple #[]) ∧ w' = w := by
  have x0 := (hX.cell 0).trans h
  have x1 := hX.lt
  clear hX h
  go_enter Tryd.func59, Tryd.ntmps59
  go_wp2
  go_loopw [2] (fun q wr => q = .int .i64 0 ∧ wr = w) (fun _ _ => 0)
  case atStart => exact ⟨rfl, rfl⟩
  case round =>
    obtain ⟨rfl, rfl⟩ := hrel
    go_wp2
    go_end0
    exact ⟨rfl, rfl⟩

theorem grow_Texts {X k : Nat} {cs : Array Value} {A : Option Addr} {w : World} (hX : Blk w X 58 cs) (h : cs[0]? = some (.slice A 0 k)) :
    Calls Tryd.prog 64 #[.pointer (some ⟨X, 0, none⟩)] w fun e w' => e = .returned (.slice none 0 0) ∧ w' = w := by
  have x0 := (hX.cell 0).trans h
  have x1 := hX.lt
  clear hX h
  go_enter Tryd.func64, Tryd.ntmps64
  go_wp2
  go_loopw [3, 4] (fun o q wr => o = .slice none 0 0 ∧ q = .int .i64 0 ∧ wr = w) (fun _ _ _ => 0)
  case atStart => exact ⟨rfl, rfl, rfl⟩
  case round =>
    obtain ⟨rfl, rfl, rfl⟩ := hrel
    go_wp2
    go_ret
    exact ⟨rfl, rfl⟩

theorem marked_Texts {k : Nat} {A : Option Addr} {w : World} :
    Calls Tryd.prog 70 #[.slice A 0 k] w fun e w' => e = .returned (.bool true) ∧ w' = w := by
  go_enter Tryd.func70, Tryd.ntmps70
  go_wp2
  go_loopw [3] (fun q wr => q = .int .i64 0 ∧ wr = w) (fun _ _ => 0)
  case atStart => exact ⟨rfl, rfl⟩
  case round =>
    obtain ⟨rfl, rfl⟩ := hrel
    go_wp2
    go_ret
    exact ⟨rfl, rfl⟩

theorem still_Ints {X k : Nat} {cs : Array Value} {A : Option Addr} {w : World} (hX : Blk w X 58 cs) (h : cs[2]? = some (.slice A 0 k)) :
    Calls Tryd.prog 53 #[.pointer (some ⟨X, 0, none⟩)] w fun e w' => e = .returned (.bool true) ∧ w' = w := by
  have x0 := (hX.cell 2).trans h
  have x1 := hX.lt
  clear hX h
  go_enter Tryd.func53, Tryd.ntmps53
  go_wp2
  go_loopw [3] (fun q wr => q = .int .i64 0 ∧ wr = w) (fun _ _ => 0)
  case atStart => exact ⟨rfl, rfl⟩
  case round =>
    obtain ⟨rfl, rfl⟩ := hrel
    go_wp2
    go_ret
    exact ⟨rfl, rfl⟩

theorem put_Ints {X k : Nat} {cs : Array Value} {A : Option Addr} {w : World} (hX : Blk w X 58 cs) (h : cs[2]? = some (.slice A 0 k)) :
    Calls Tryd.prog 60 #[.pointer (some ⟨X, 0, none⟩)] w fun e w' => e = .returned (.tuple #[]) ∧ w' = w := by
  have x0 := (hX.cell 2).trans h
  have x1 := hX.lt
  clear hX h
  go_enter Tryd.func60, Tryd.ntmps60
  go_wp2
  go_loopw [2] (fun q wr => q = .int .i64 0 ∧ wr = w) (fun _ _ => 0)
  case atStart => exact ⟨rfl, rfl⟩
  case round =>
    obtain ⟨rfl, rfl⟩ := hrel
    go_wp2
    go_end0
    exact ⟨rfl, rfl⟩

theorem grow_Ints {X k : Nat} {cs : Array Value} {A : Option Addr} {w : World} (hX : Blk w X 58 cs) (h : cs[2]? = some (.slice A 0 k)) :
    Calls Tryd.prog 65 #[.pointer (some ⟨X, 0, none⟩)] w fun e w' => e = .returned (.slice none 0 0) ∧ w' = w := by
  have x0 := (hX.cell 2).trans h
  have x1 := hX.lt
  clear hX h
  go_enter Tryd.func65, Tryd.ntmps65
  go_wp2
  go_loopw [3, 4] (fun o q wr => o = .slice none 0 0 ∧ q = .int .i64 0 ∧ wr = w) (fun _ _ _ => 0)
  case atStart => exact ⟨rfl, rfl, rfl⟩
  case round =>
    obtain ⟨rfl, rfl, rfl⟩ := hrel
    go_wp2
    go_ret
    exact ⟨rfl, rfl⟩

theorem marked_Ints {k : Nat} {A : Option Addr} {w : World} :
    Calls Tryd.prog 71 #[.slice A 0 k] w fun e w' => e = .returned (.bool true) ∧ w' = w := by
  go_enter Tryd.func71, Tryd.ntmps71
  go_wp2
  go_loopw [3] (fun q wr => q = .int .i64 0 ∧ wr = w) (fun _ _ => 0)
  case atStart => exact ⟨rfl, rfl⟩
  case round =>
    obtain ⟨rfl, rfl⟩ := hrel
    go_wp2
    go_ret
    exact ⟨rfl, rfl⟩

theorem still_Changes {X k : Nat} {cs : Array Value} {A : Option Addr} {w : World} (hX : Blk w X 58 cs) (h : cs[4]? = some (.slice A 0 k)) :
    Calls Tryd.prog 54 #[.pointer (some ⟨X, 0, none⟩)] w fun e w' => e = .returned (.bool true) ∧ w' = w := by
  have x0 := (hX.cell 4).trans h
  have x1 := hX.lt
  clear hX h
  go_enter Tryd.func54, Tryd.ntmps54
  go_wp2
  go_loopw [3] (fun q wr => q = .int .i64 0 ∧ wr = w) (fun _ _ => 0)
  case atStart => exact ⟨rfl, rfl⟩
  case round =>
    obtain ⟨rfl, rfl⟩ := hrel
    go_wp2
    go_ret
    exact ⟨rfl, rfl⟩

theorem put_Changes {X k : Nat} {cs : Array Value} {A : Option Addr} {w : World} (hX : Blk w X 58 cs) (h : cs[4]? = some (.slice A 0 k)) :
    Calls Tryd.prog 61 #[.pointer (some ⟨X, 0, none⟩)] w fun e w' => e = .returned (.tuple #[]) ∧ w' = w := by
  have x0 := (hX.cell 4).trans h
  have x1 := hX.lt
  clear hX h
  go_enter Tryd.func61, Tryd.ntmps61
  go_wp2
  go_loopw [2] (fun q wr => q = .int .i64 0 ∧ wr = w) (fun _ _ => 0)
  case atStart => exact ⟨rfl, rfl⟩
  case round =>
    obtain ⟨rfl, rfl⟩ := hrel
    go_wp2
    go_end0
    exact ⟨rfl, rfl⟩

theorem grow_Changes {X k : Nat} {cs : Array Value} {A : Option Addr} {w : World} (hX : Blk w X 58 cs) (h : cs[4]? = some (.slice A 0 k)) :
    Calls Tryd.prog 66 #[.pointer (some ⟨X, 0, none⟩)] w fun e w' => e = .returned (.slice none 0 0) ∧ w' = w := by
  have x0 := (hX.cell 4).trans h
  have x1 := hX.lt
  clear hX h
  go_enter Tryd.func66, Tryd.ntmps66
  go_wp2
  go_loopw [3, 4] (fun o q wr => o = .slice none 0 0 ∧ q = .int .i64 0 ∧ wr = w) (fun _ _ _ => 0)
  case atStart => exact ⟨rfl, rfl, rfl⟩
  case round =>
    obtain ⟨rfl, rfl, rfl⟩ := hrel
    go_wp2
    go_ret
    exact ⟨rfl, rfl⟩

theorem marked_Changes {k : Nat} {A : Option Addr} {w : World} :
    Calls Tryd.prog 72 #[.slice A 0 k] w fun e w' => e = .returned (.bool true) ∧ w' = w := by
  go_enter Tryd.func72, Tryd.ntmps72
  go_wp2
  go_loopw [3] (fun q wr => q = .int .i64 0 ∧ wr = w) (fun _ _ => 0)
  case atStart => exact ⟨rfl, rfl⟩
  case round =>
    obtain ⟨rfl, rfl⟩ := hrel
    go_wp2
    go_ret
    exact ⟨rfl, rfl⟩

theorem still_Entries {X k : Nat} {cs : Array Value} {A : Option Addr} {w : World} (hX : Blk w X 58 cs) (h : cs[6]? = some (.slice A 0 k)) :
    Calls Tryd.prog 55 #[.pointer (some ⟨X, 0, none⟩)] w fun e w' => e = .returned (.bool true) ∧ w' = w := by
  have x0 := (hX.cell 6).trans h
  have x1 := hX.lt
  clear hX h
  go_enter Tryd.func55, Tryd.ntmps55
  go_wp2
  go_loopw [3] (fun q wr => q = .int .i64 0 ∧ wr = w) (fun _ _ => 0)
  case atStart => exact ⟨rfl, rfl⟩
  case round =>
    obtain ⟨rfl, rfl⟩ := hrel
    go_wp2
    go_ret
    exact ⟨rfl, rfl⟩

theorem put_Entries {X k : Nat} {cs : Array Value} {A : Option Addr} {w : World} (hX : Blk w X 58 cs) (h : cs[6]? = some (.slice A 0 k)) :
    Calls Tryd.prog 62 #[.pointer (some ⟨X, 0, none⟩)] w fun e w' => e = .returned (.tuple #[]) ∧ w' = w := by
  have x0 := (hX.cell 6).trans h
  have x1 := hX.lt
  clear hX h
  go_enter Tryd.func62, Tryd.ntmps62
  go_wp2
  go_loopw [2] (fun q wr => q = .int .i64 0 ∧ wr = w) (fun _ _ => 0)
  case atStart => exact ⟨rfl, rfl⟩
  case round =>
    obtain ⟨rfl, rfl⟩ := hrel
    go_wp2
    go_end0
    exact ⟨rfl, rfl⟩

theorem grow_Entries {X k : Nat} {cs : Array Value} {A : Option Addr} {w : World} (hX : Blk w X 58 cs) (h : cs[6]? = some (.slice A 0 k)) :
    Calls Tryd.prog 67 #[.pointer (some ⟨X, 0, none⟩)] w fun e w' => e = .returned (.slice none 0 0) ∧ w' = w := by
  have x0 := (hX.cell 6).trans h
  have x1 := hX.lt
  clear hX h
  go_enter Tryd.func67, Tryd.ntmps67
  go_wp2
  go_loopw [3, 4] (fun o q wr => o = .slice none 0 0 ∧ q = .int .i64 0 ∧ wr = w) (fun _ _ _ => 0)
  case atStart => exact ⟨rfl, rfl, rfl⟩
  case round =>
    obtain ⟨rfl, rfl, rfl⟩ := hrel
    go_wp2
    go_ret
    exact ⟨rfl, rfl⟩

theorem marked_Entries {k : Nat} {A : Option Addr} {w : World} :
    Calls Tryd.prog 73 #[.slice A 0 k] w fun e w' => e = .returned (.bool true) ∧ w' = w := by
  go_enter Tryd.func73, Tryd.ntmps73
  go_wp2
  go_loopw [3] (fun q wr => q = .int .i64 0 ∧ wr = w) (fun _ _ => 0)
  case atStart => exact ⟨rfl, rfl⟩
  case round =>
    obtain ⟨rfl, rfl⟩ := hrel
    go_wp2
    go_ret
    exact ⟨rfl, rfl⟩

theorem still_Codes {X k : Nat} {cs : Array Value} {A : Option Addr} {w : World} (hX : Blk w X 58 cs) (h : cs[8]? = some (.slice A 0 k)) :
    Calls Tryd.prog 56 #[.pointer (some ⟨X, 0, none⟩)] w fun e w' => e = .returned (.bool true) ∧ w' = w := by
  have x0 := (hX.cell 8).trans h
  have x1 := hX.lt
  clear hX h
  go_enter Tryd.func56, Tryd.ntmps56
  go_wp2
  go_loopw [3] (fun q wr => q = .int .i64 0 ∧ wr = w) (fun _ _ => 0)
  case atStart => exact ⟨rfl, rfl⟩
  case round =>
    obtain ⟨rfl, rfl⟩ := hrel
    go_wp2
    go_ret
    exact ⟨rfl, rfl⟩

theorem put_Codes {X k : Nat} {cs : Array Value} {A : Option Addr} {w : World} (hX : Blk w X 58 cs) (h : cs[8]? = some (.slice A 0 k)) :
    Calls Tryd.prog 63 #[.pointer (some ⟨X, 0, none⟩)] w fun e w' => e = .returned (.tuple #[]) ∧ w' = w := by
  have x0 := (hX.cell 8).trans h
  have x1 := hX.lt
  clear hX h
  go_enter Tryd.func63, Tryd.ntmps63
  go_wp2
  go_loopw [2] (fun q wr => q = .int .i64 0 ∧ wr = w) (fun _ _ => 0)
  case atStart => exact ⟨rfl, rfl⟩
  case round =>
    obtain ⟨rfl, rfl⟩ := hrel
    go_wp2
    go_end0
    exact ⟨rfl, rfl⟩

theorem grow_Codes {X k : Nat} {cs : Array Value} {A : Option Addr} {w : World} (hX : Blk w X 58 cs) (h : cs[8]? = some (.slice A 0 k)) :
    Calls Tryd.prog 68 #[.pointer (some ⟨X, 0, none⟩)] w fun e w' => e = .returned (.slice none 0 0) ∧ w' = w := by
  have x0 := (hX.cell 8).trans h
  have x1 := hX.lt
  clear hX h
  go_enter Tryd.func68, Tryd.ntmps68
  go_wp2
  go_loopw [3, 4] (fun o q wr => o = .slice none 0 0 ∧ q = .int .i64 0 ∧ wr = w) (fun _ _ _ => 0)
  case atStart => exact ⟨rfl, rfl, rfl⟩
  case round =>
    obtain ⟨rfl, rfl, rfl⟩ := hrel
    go_wp2
    go_ret
    exact ⟨rfl, rfl⟩

theorem marked_Codes {k : Nat} {A : Option Addr} {w : World} :
    Calls Tryd.prog 74 #[.slice A 0 k] w fun e w' => e = .returned (.bool true) ∧ w' = w := by
  go_enter Tryd.func74, Tryd.ntmps74
  go_wp2
  go_loopw [3] (fun q wr => q = .int .i64 0 ∧ wr = w) (fun _ _ => 0)
  case atStart => exact ⟨rfl, rfl⟩
  case round =>
    obtain ⟨rfl, rfl⟩ := hrel
    go_wp2
    go_ret
    exact ⟨rfl, rfl⟩

theorem still_Nodes {X k : Nat} {cs : Array Value} {A : Option Addr} {w : World} (hX : Blk w X 58 cs) (h : cs[10]? = some (.slice A 0 k)) :
    Calls Tryd.prog 57 #[.pointer (some ⟨X, 0, none⟩)] w fun e w' => e = .returned (.bool true) ∧ w' = w := by
  have x0 := (hX.cell 10).trans h
  have x1 := hX.lt
  clear hX h
  go_enter Tryd.func57, Tryd.ntmps57
  go_wp2
  go_loopw [3] (fun q wr => q = .int .i64 0 ∧ wr = w) (fun _ _ => 0)
  case atStart => exact ⟨rfl, rfl⟩
  case round =>
    obtain ⟨rfl, rfl⟩ := hrel
    go_wp2
    go_ret
    exact ⟨rfl, rfl⟩

theorem put_Nodes {X k : Nat} {cs : Array Value} {A : Option Addr} {w : World} (hX : Blk w X 58 cs) (h : cs[10]? = some (.slice A 0 k)) :
    Calls Tryd.prog 58 #[.pointer (some ⟨X, 0, none⟩)] w fun e w' => e = .returned (.tuple #[]) ∧ w' = w := by
  have x0 := (hX.cell 10).trans h
  have x1 := hX.lt
  clear hX h
  go_enter Tryd.func58, Tryd.ntmps58
  go_wp2
  go_loopw [2] (fun q wr => q = .int .i64 0 ∧ wr = w) (fun _ _ => 0)
  case atStart => exact ⟨rfl, rfl⟩
  case round =>
    obtain ⟨rfl, rfl⟩ := hrel
    go_wp2
    go_end0
    exact ⟨rfl, rfl⟩

theorem grow_Nodes {X k : Nat} {cs : Array Value} {A : Option Addr} {w : World} (hX : Blk w X 58 cs) (h : cs[10]? = some (.slice A 0 k)) :
    Calls Tryd.prog 69 #[.pointer (some ⟨X, 0, none⟩)] w fun e w' => e = .returned (.slice none 0 0) ∧ w' = w := by
  have x0 := (hX.cell 10).trans h
  have x1 := hX.lt
  clear hX h
  go_enter Tryd.func69, Tryd.ntmps69
  go_wp2
  go_loopw [3, 4] (fun o q wr => o = .slice none 0 0 ∧ q = .int .i64 0 ∧ wr = w) (fun _ _ _ => 0)
  case atStart => exact ⟨rfl, rfl, rfl⟩
  case round =>
    obtain ⟨rfl, rfl, rfl⟩ := hrel
    go_wp2
    go_ret
    exact ⟨rfl, rfl⟩

theorem marked_Nodes {k : Nat} {A : Option Addr} {w : World} :
    Calls Tryd.prog 75 #[.slice A 0 k] w fun e w' => e = .returned (.bool true) ∧ w' = w := by
  go_enter Tryd.func75, Tryd.ntmps75
  go_wp2
  go_loopw [3] (fun q wr => q = .int .i64 0 ∧ wr = w) (fun _ _ => 0)
  case atStart => exact ⟨rfl, rfl⟩
  case round =>
    obtain ⟨rfl, rfl⟩ := hrel
    go_wp2
    go_ret
    exact ⟨rfl, rfl⟩

end Go.Proofs.YtbelbhdhcgpcpaaDoor.BkNil