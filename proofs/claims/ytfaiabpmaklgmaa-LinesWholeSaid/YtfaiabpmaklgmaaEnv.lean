/-
  The types of the program, for the engine.
-/
import Derived.Test.YtfaiabpmaklgmaaProg
import Derived.Test.YtfaiabpmaklgmaaExA
import Derived.Test.YtfaiabpmaklgmaaExB
import Derived.KernelRfl
namespace Go.Ex
open Go.Proofs
set_option linter.unusedSimpArgs false

def ty : Nat → Option TyI
  | 2 => some ⟨1, 8, false, [.int .i64 0], .int .i64⟩
  | 3 => some ⟨1, 8, false, [.int .i64 0], .int .i64⟩
  | 4 => some ⟨1, 1, false, [.bool false], .bool⟩
  | 5 => some ⟨1, 1, false, [.int .u8 0], .int .u8⟩
  | 6 => some ⟨1, 1, false, [.int .u8 0], .int .u8⟩
  | 7 => some ⟨4, 24, true, [.int .i64 0, .int .i64 0, .bool false, .int .u8 0], .struct [(0, none), (1, none), (2, none), (3, none)]⟩
  | 8 => some ⟨4, 24, true, [.int .i64 0, .int .i64 0, .bool false, .int .u8 0], .struct [(0, none), (1, none), (2, none), (3, none)]⟩
  | 9 => some ⟨1, 16, false, [.string ⟨#[]⟩], .str⟩
  | 10 => some ⟨1, 16, false, [.string ⟨#[]⟩], .str⟩
  | 11 => some ⟨1, 16, false, [.string ⟨#[]⟩], .str⟩
  | 12 => some ⟨1, 8, false, [.int .u64 0], .int .u64⟩
  | 13 => some ⟨2, 24, true, [.string ⟨#[]⟩, .int .u64 0], .struct [(0, none), (1, none)]⟩
  | 14 => some ⟨2, 24, true, [.string ⟨#[]⟩, .int .u64 0], .struct [(0, none), (1, none)]⟩
  | 15 => some ⟨1, 8, false, [.pointer none], .ptr⟩
  | 16 => some ⟨1, 8, false, [.pointer none], .ptr⟩
  | 17 => some ⟨1, 8, false, [.pointer none], .ptr⟩
  | 18 => some ⟨1, 8, true, [.pointer none], .struct [(0, none)]⟩
  | 19 => some ⟨1, 8, true, [.pointer none], .struct [(0, none)]⟩
  | 21 => some ⟨1, 4, false, [.int .i32 0], .int .i32⟩
  | 22 => some ⟨1, 24, false, [.slice none 0 0], .slice 3⟩
  | 28 => some ⟨1, 8, false, [.int .i64 0], .int .i64⟩
  | 32 => some ⟨2, 16, true, [.int .i64 0, .int .i64 0], .struct [(0, none), (1, none)]⟩
  | 33 => some ⟨2, 16, true, [.int .i64 0, .int .i64 0], .struct [(0, none), (1, none)]⟩
  | 47 => some ⟨1, 8, false, [.int .u64 0], .int .u64⟩
  | 49 => some ⟨1, 4, false, [.int .u32 0], .int .u32⟩
  | 53 => some ⟨4, 40, true, [.pointer none, .pointer none, .pointer none, .string ⟨#[]⟩], .struct [(0, none), (1, none), (2, none), (3, none)]⟩
  | 54 => some ⟨4, 40, true, [.pointer none, .pointer none, .pointer none, .string ⟨#[]⟩], .struct [(0, none), (1, none), (2, none), (3, none)]⟩
  | 59 => some ⟨1, 1, false, [.int .u8 0], .int .u8⟩
  | 60 => some ⟨1, 1, false, [.int .u8 0], .int .u8⟩
  | 62 => some ⟨1, 8, false, [.pointer none], .ptr⟩
  | 63 => some ⟨1, 4, false, [.int .i32 0], .int .i32⟩
  | 64 => some ⟨1, 4, false, [.int .i32 0], .int .i32⟩
  | _ => none
theorem tyOk2 : TyOk Try.prog 2 ⟨1, 8, false, [.int .i64 0], .int .i64⟩ :=
  ⟨by kernel_rfl, fun w => by simp [isAgg, underlying, Try.underlying2], Try.underlying2, rfl, rfl, (fun h => by first | rfl | exact absurd h (by decide)), by rw [Try.underlying2]; rfl⟩
theorem tyOk3 : TyOk Try.prog 3 ⟨1, 8, false, [.int .i64 0], .int .i64⟩ :=
  ⟨by kernel_rfl, fun w => by simp [isAgg, underlying, Try.underlying3], Try.underlying3, rfl, rfl, (fun h => by first | rfl | exact absurd h (by decide)), by rw [Try.underlying3]; rfl⟩
theorem tyOk4 : TyOk Try.prog 4 ⟨1, 1, false, [.bool false], .bool⟩ :=
  ⟨by kernel_rfl, fun w => by simp [isAgg, underlying, Try.underlying4], Try.underlying4, rfl, rfl, (fun h => by first | rfl | exact absurd h (by decide)), by rw [Try.underlying4]; rfl⟩
theorem tyOk5 : TyOk Try.prog 5 ⟨1, 1, false, [.int .u8 0], .int .u8⟩ :=
  ⟨by kernel_rfl, fun w => by simp [isAgg, underlying, Try.underlying5], Try.underlying5, rfl, rfl, (fun h => by first | rfl | exact absurd h (by decide)), by rw [Try.underlying5]; rfl⟩
theorem tyOk6 : TyOk Try.prog 6 ⟨1, 1, false, [.int .u8 0], .int .u8⟩ :=
  ⟨by kernel_rfl, fun w => by simp [isAgg, underlying, Try.underlying6], Try.underlying6, rfl, rfl, (fun h => by first | rfl | exact absurd h (by decide)), by rw [Try.underlying6]; rfl⟩
theorem tyOk7 : TyOk Try.prog 7 ⟨4, 24, true, [.int .i64 0, .int .i64 0, .bool false, .int .u8 0], .struct [(0, none), (1, none), (2, none), (3, none)]⟩ :=
  ⟨by kernel_rfl, fun w => by simp [isAgg, underlying, Try.underlying7], ⟨_, Try.underlying7, ⟨⟨rfl, fun w => tyOk2.agg w, fun w => tyOk2.size w, by simp⟩, ⟨rfl, fun w => tyOk3.agg w, fun w => tyOk3.size w, by simp⟩, ⟨rfl, fun w => tyOk4.agg w, fun w => tyOk4.size w, by simp⟩, ⟨rfl, fun w => tyOk6.agg w, fun w => tyOk6.size w, by simp⟩, trivial⟩⟩, rfl, rfl, (fun h => by first | rfl | exact absurd h (by decide)), by rw [Try.underlying7]; rfl⟩
theorem tyOk8 : TyOk Try.prog 8 ⟨4, 24, true, [.int .i64 0, .int .i64 0, .bool false, .int .u8 0], .struct [(0, none), (1, none), (2, none), (3, none)]⟩ :=
  ⟨by kernel_rfl, fun w => by simp [isAgg, underlying, Try.underlying8], ⟨_, Try.underlying8, ⟨⟨rfl, fun w => tyOk2.agg w, fun w => tyOk2.size w, by simp⟩, ⟨rfl, fun w => tyOk3.agg w, fun w => tyOk3.size w, by simp⟩, ⟨rfl, fun w => tyOk4.agg w, fun w => tyOk4.size w, by simp⟩, ⟨rfl, fun w => tyOk6.agg w, fun w => tyOk6.size w, by simp⟩, trivial⟩⟩, rfl, rfl, (fun h => by first | rfl | exact absurd h (by decide)), by rw [Try.underlying8]; rfl⟩
theorem tyOk9 : TyOk Try.prog 9 ⟨1, 16, false, [.string ⟨#[]⟩], .str⟩ :=
  ⟨by kernel_rfl, fun w => by simp [isAgg, underlying, Try.underlying9], Try.underlying9, rfl, rfl, (fun h => by first | rfl | exact absurd h (by decide)), by rw [Try.underlying9]; rfl⟩
theorem tyOk10 : TyOk Try.prog 10 ⟨1, 16, false, [.string ⟨#[]⟩], .str⟩ :=
  ⟨by kernel_rfl, fun w => by simp [isAgg, underlying, Try.underlying10], Try.underlying10, rfl, rfl, (fun h => by first | rfl | exact absurd h (by decide)), by rw [Try.underlying10]; rfl⟩
theorem tyOk11 : TyOk Try.prog 11 ⟨1, 16, false, [.string ⟨#[]⟩], .str⟩ :=
  ⟨by kernel_rfl, fun w => by simp [isAgg, underlying, Try.underlying11], Try.underlying11, rfl, rfl, (fun h => by first | rfl | exact absurd h (by decide)), by rw [Try.underlying11]; rfl⟩
theorem tyOk12 : TyOk Try.prog 12 ⟨1, 8, false, [.int .u64 0], .int .u64⟩ :=
  ⟨by kernel_rfl, fun w => by simp [isAgg, underlying, Try.underlying12], Try.underlying12, rfl, rfl, (fun h => by first | rfl | exact absurd h (by decide)), by rw [Try.underlying12]; rfl⟩
theorem tyOk13 : TyOk Try.prog 13 ⟨2, 24, true, [.string ⟨#[]⟩, .int .u64 0], .struct [(0, none), (1, none)]⟩ :=
  ⟨by kernel_rfl, fun w => by simp [isAgg, underlying, Try.underlying13], ⟨_, Try.underlying13, ⟨⟨rfl, fun w => tyOk9.agg w, fun w => tyOk9.size w, by simp⟩, ⟨rfl, fun w => tyOk12.agg w, fun w => tyOk12.size w, by simp⟩, trivial⟩⟩, rfl, rfl, (fun h => by first | rfl | exact absurd h (by decide)), by rw [Try.underlying13]; rfl⟩
theorem tyOk14 : TyOk Try.prog 14 ⟨2, 24, true, [.string ⟨#[]⟩, .int .u64 0], .struct [(0, none), (1, none)]⟩ :=
  ⟨by kernel_rfl, fun w => by simp [isAgg, underlying, Try.underlying14], ⟨_, Try.underlying14, ⟨⟨rfl, fun w => tyOk9.agg w, fun w => tyOk9.size w, by simp⟩, ⟨rfl, fun w => tyOk12.agg w, fun w => tyOk12.size w, by simp⟩, trivial⟩⟩, rfl, rfl, (fun h => by first | rfl | exact absurd h (by decide)), by rw [Try.underlying14]; rfl⟩
theorem tyOk15 : TyOk Try.prog 15 ⟨1, 8, false, [.pointer none], .ptr⟩ :=
  ⟨by kernel_rfl, fun w => by simp [isAgg, underlying, Try.underlying15], ⟨_, Try.underlying15⟩, rfl, rfl, (fun h => by first | rfl | exact absurd h (by decide)), by rw [Try.underlying15]; rfl⟩
theorem tyOk16 : TyOk Try.prog 16 ⟨1, 8, false, [.pointer none], .ptr⟩ :=
  ⟨by kernel_rfl, fun w => by simp [isAgg, underlying, Try.underlying16], ⟨_, Try.underlying16⟩, rfl, rfl, (fun h => by first | rfl | exact absurd h (by decide)), by rw [Try.underlying16]; rfl⟩
theorem tyOk17 : TyOk Try.prog 17 ⟨1, 8, false, [.pointer none], .ptr⟩ :=
  ⟨by kernel_rfl, fun w => by simp [isAgg, underlying, Try.underlying17], ⟨_, Try.underlying17⟩, rfl, rfl, (fun h => by first | rfl | exact absurd h (by decide)), by rw [Try.underlying17]; rfl⟩
theorem tyOk18 : TyOk Try.prog 18 ⟨1, 8, true, [.pointer none], .struct [(0, none)]⟩ :=
  ⟨by kernel_rfl, fun w => by simp [isAgg, underlying, Try.underlying18], ⟨_, Try.underlying18, ⟨⟨rfl, fun w => tyOk17.agg w, fun w => tyOk17.size w, by simp⟩, trivial⟩⟩, rfl, rfl, (fun h => by first | rfl | exact absurd h (by decide)), by rw [Try.underlying18]; rfl⟩
theorem tyOk19 : TyOk Try.prog 19 ⟨1, 8, true, [.pointer none], .struct [(0, none)]⟩ :=
  ⟨by kernel_rfl, fun w => by simp [isAgg, underlying, Try.underlying19], ⟨_, Try.underlying19, ⟨⟨rfl, fun w => tyOk17.agg w, fun w => tyOk17.size w, by simp⟩, trivial⟩⟩, rfl, rfl, (fun h => by first | rfl | exact absurd h (by decide)), by rw [Try.underlying19]; rfl⟩
theorem tyOk21 : TyOk Try.prog 21 ⟨1, 4, false, [.int .i32 0], .int .i32⟩ :=
  ⟨by kernel_rfl, fun w => by simp [isAgg, underlying, Try.underlying21], Try.underlying21, rfl, rfl, (fun h => by first | rfl | exact absurd h (by decide)), by rw [Try.underlying21]; rfl⟩
theorem tyOk22 : TyOk Try.prog 22 ⟨1, 24, false, [.slice none 0 0], .slice 3⟩ :=
  ⟨by kernel_rfl, fun w => by simp [isAgg, underlying, Try.underlying22], Try.underlying22, rfl, rfl, (fun h => by first | rfl | exact absurd h (by decide)), by rw [Try.underlying22]; rfl⟩
theorem tyOk28 : TyOk Try.prog 28 ⟨1, 8, false, [.int .i64 0], .int .i64⟩ :=
  ⟨by kernel_rfl, fun w => by simp [isAgg, underlying, Try.underlying28], Try.underlying28, rfl, rfl, (fun h => by first | rfl | exact absurd h (by decide)), by rw [Try.underlying28]; rfl⟩
theorem tyOk32 : TyOk Try.prog 32 ⟨2, 16, true, [.int .i64 0, .int .i64 0], .struct [(0, none), (1, none)]⟩ :=
  ⟨by kernel_rfl, fun w => by simp [isAgg, underlying, Try.underlying32], ⟨_, Try.underlying32, ⟨⟨rfl, fun w => tyOk3.agg w, fun w => tyOk3.size w, by simp⟩, ⟨rfl, fun w => tyOk3.agg w, fun w => tyOk3.size w, by simp⟩, trivial⟩⟩, rfl, rfl, (fun h => by first | rfl | exact absurd h (by decide)), by rw [Try.underlying32]; rfl⟩
theorem tyOk33 : TyOk Try.prog 33 ⟨2, 16, true, [.int .i64 0, .int .i64 0], .struct [(0, none), (1, none)]⟩ :=
  ⟨by kernel_rfl, fun w => by simp [isAgg, underlying, Try.underlying33], ⟨_, Try.underlying33, ⟨⟨rfl, fun w => tyOk3.agg w, fun w => tyOk3.size w, by simp⟩, ⟨rfl, fun w => tyOk3.agg w, fun w => tyOk3.size w, by simp⟩, trivial⟩⟩, rfl, rfl, (fun h => by first | rfl | exact absurd h (by decide)), by rw [Try.underlying33]; rfl⟩
theorem tyOk47 : TyOk Try.prog 47 ⟨1, 8, false, [.int .u64 0], .int .u64⟩ :=
  ⟨by kernel_rfl, fun w => by simp [isAgg, underlying, Try.underlying47], Try.underlying47, rfl, rfl, (fun h => by first | rfl | exact absurd h (by decide)), by rw [Try.underlying47]; rfl⟩
theorem tyOk49 : TyOk Try.prog 49 ⟨1, 4, false, [.int .u32 0], .int .u32⟩ :=
  ⟨by kernel_rfl, fun w => by simp [isAgg, underlying, Try.underlying49], Try.underlying49, rfl, rfl, (fun h => by first | rfl | exact absurd h (by decide)), by rw [Try.underlying49]; rfl⟩
theorem tyOk53 : TyOk Try.prog 53 ⟨4, 40, true, [.pointer none, .pointer none, .pointer none, .string ⟨#[]⟩], .struct [(0, none), (1, none), (2, none), (3, none)]⟩ :=
  ⟨by kernel_rfl, fun w => by simp [isAgg, underlying, Try.underlying53], ⟨_, Try.underlying53, ⟨⟨rfl, fun w => tyOk17.agg w, fun w => tyOk17.size w, by simp⟩, ⟨rfl, fun w => tyOk17.agg w, fun w => tyOk17.size w, by simp⟩, ⟨rfl, fun w => tyOk17.agg w, fun w => tyOk17.size w, by simp⟩, ⟨rfl, fun w => tyOk9.agg w, fun w => tyOk9.size w, by simp⟩, trivial⟩⟩, rfl, rfl, (fun h => by first | rfl | exact absurd h (by decide)), by rw [Try.underlying53]; rfl⟩
theorem tyOk54 : TyOk Try.prog 54 ⟨4, 40, true, [.pointer none, .pointer none, .pointer none, .string ⟨#[]⟩], .struct [(0, none), (1, none), (2, none), (3, none)]⟩ :=
  ⟨by kernel_rfl, fun w => by simp [isAgg, underlying, Try.underlying54], ⟨_, Try.underlying54, ⟨⟨rfl, fun w => tyOk17.agg w, fun w => tyOk17.size w, by simp⟩, ⟨rfl, fun w => tyOk17.agg w, fun w => tyOk17.size w, by simp⟩, ⟨rfl, fun w => tyOk17.agg w, fun w => tyOk17.size w, by simp⟩, ⟨rfl, fun w => tyOk9.agg w, fun w => tyOk9.size w, by simp⟩, trivial⟩⟩, rfl, rfl, (fun h => by first | rfl | exact absurd h (by decide)), by rw [Try.underlying54]; rfl⟩
theorem tyOk59 : TyOk Try.prog 59 ⟨1, 1, false, [.int .u8 0], .int .u8⟩ :=
  ⟨by kernel_rfl, fun w => by simp [isAgg, underlying, Try.underlying59], Try.underlying59, rfl, rfl, (fun h => by first | rfl | exact absurd h (by decide)), by rw [Try.underlying59]; rfl⟩
theorem tyOk60 : TyOk Try.prog 60 ⟨1, 1, false, [.int .u8 0], .int .u8⟩ :=
  ⟨by kernel_rfl, fun w => by simp [isAgg, underlying, Try.underlying60], Try.underlying60, rfl, rfl, (fun h => by first | rfl | exact absurd h (by decide)), by rw [Try.underlying60]; rfl⟩
theorem tyOk62 : TyOk Try.prog 62 ⟨1, 8, false, [.pointer none], .ptr⟩ :=
  ⟨by kernel_rfl, fun w => by simp [isAgg, underlying, Try.underlying62], ⟨_, Try.underlying62⟩, rfl, rfl, (fun h => by first | rfl | exact absurd h (by decide)), by rw [Try.underlying62]; rfl⟩
theorem tyOk63 : TyOk Try.prog 63 ⟨1, 4, false, [.int .i32 0], .int .i32⟩ :=
  ⟨by kernel_rfl, fun w => by simp [isAgg, underlying, Try.underlying63], Try.underlying63, rfl, rfl, (fun h => by first | rfl | exact absurd h (by decide)), by rw [Try.underlying63]; rfl⟩
theorem tyOk64 : TyOk Try.prog 64 ⟨1, 4, false, [.int .i32 0], .int .i32⟩ :=
  ⟨by kernel_rfl, fun w => by simp [isAgg, underlying, Try.underlying64], Try.underlying64, rfl, rfl, (fun h => by first | rfl | exact absurd h (by decide)), by rw [Try.underlying64]; rfl⟩
theorem tysOk : TysOk Try.prog ty := by
  intro t i h
  unfold ty at h
  split at h
  · cases h; exact tyOk2
  · cases h; exact tyOk3
  · cases h; exact tyOk4
  · cases h; exact tyOk5
  · cases h; exact tyOk6
  · cases h; exact tyOk7
  · cases h; exact tyOk8
  · cases h; exact tyOk9
  · cases h; exact tyOk10
  · cases h; exact tyOk11
  · cases h; exact tyOk12
  · cases h; exact tyOk13
  · cases h; exact tyOk14
  · cases h; exact tyOk15
  · cases h; exact tyOk16
  · cases h; exact tyOk17
  · cases h; exact tyOk18
  · cases h; exact tyOk19
  · cases h; exact tyOk21
  · cases h; exact tyOk22
  · cases h; exact tyOk28
  · cases h; exact tyOk32
  · cases h; exact tyOk33
  · cases h; exact tyOk47
  · cases h; exact tyOk49
  · cases h; exact tyOk53
  · cases h; exact tyOk54
  · cases h; exact tyOk59
  · cases h; exact tyOk60
  · cases h; exact tyOk62
  · cases h; exact tyOk63
  · cases h; exact tyOk64
  · cases h
theorem mixed : Try.prog.follows .mixedOrders = true := by kernel_rfl
end Go.Ex
