/-
  The types of the program, for the engine.
-/
import Derived.Test.YtinelelkjbdaiaaProg
import Derived.Test.YtinelelkjbdaiaaExA
import Derived.Test.YtinelelkjbdaiaaExB
import Derived.KernelRfl
namespace Go.Ex
open Go.Proofs
set_option linter.unusedSimpArgs false

def ty : Nat → Option TyI
  | 2 => some ⟨1, 8, false, [.int .i64 0], .int .i64⟩
  | 3 => some ⟨1, 8, false, [.int .i64 0], .int .i64⟩
  | 4 => some ⟨1, 1, false, [.bool false], .bool⟩
  | 5 => some ⟨1, 1, false, [.int .u8 0], .int .u8⟩
  | 6 => some ⟨1, 1, false, [.int .u8 0], .int .u8⟩
  | 7 => some ⟨4, 24, true, [.int .i64 0, .int .i64 0, .bool false, .int .u8 0], .struct [(0, none), (1, none), (2, none), (3, none)]⟩
  | 8 => some ⟨4, 24, true, [.int .i64 0, .int .i64 0, .bool false, .int .u8 0], .struct [(0, none), (1, none), (2, none), (3, none)]⟩
  | 9 => some ⟨1, 16, false, [.string ⟨#[]⟩], .str⟩
  | 10 => some ⟨1, 16, false, [.string ⟨#[]⟩], .str⟩
  | 11 => some ⟨1, 16, false, [.string ⟨#[]⟩], .str⟩
  | 12 => some ⟨1, 8, false, [.int .u64 0], .int .u64⟩
  | 13 => some ⟨2, 24, true, [.string ⟨#[]⟩, .int .u64 0], .struct [(0, none), (1, none)]⟩
  | 14 => some ⟨2, 24, true, [.string ⟨#[]⟩, .int .u64 0], .struct [(0, none), (1, none)]⟩
  | 15 => some ⟨1, 8, false, [.pointer none], .ptr⟩
  | 16 => some ⟨1, 8, false, [.pointer none], .ptr⟩
  | 17 => some ⟨1, 8, false, [.pointer none], .ptr⟩
  | 18 => some ⟨1, 8, true, [.pointer none], .struct [(0, none)]⟩
  | 19 => some ⟨1, 8, true, [.pointer none], .struct [(0, none)]⟩
  | 21 => some ⟨1, 4, false, [.int .i32 0], .int .i32⟩
  | 22 => some ⟨1, 24, false, [.slice none 0 0], .slice 42⟩
  | 23 => some ⟨1, 24, false, [.slice none 0 0], .slice 33⟩
  | 26 => some ⟨1, 8, false, [.int .i64 0], .int .i64⟩
  | 31 => some ⟨1, 24, false, [.slice none 0 0], .slice 40⟩
  | 32 => some ⟨3, 40, true, [.int .i64 0, .int .i64 0, .slice none 0 0], .struct [(0, none), (1, none), (2, none)]⟩
  | 33 => some ⟨3, 40, true, [.int .i64 0, .int .i64 0, .slice none 0 0], .struct [(0, none), (1, none), (2, none)]⟩
  | 35 => some ⟨1, 24, false, [.slice none 0 0], .slice 36⟩
  | 36 => some ⟨1, 2, false, [.int .u16 0], .int .u16⟩
  | 39 => some ⟨3, 32, true, [.string ⟨#[]⟩, .int .i64 0, .int .i64 0], .struct [(0, none), (1, none), (2, none)]⟩
  | 40 => some ⟨3, 32, true, [.string ⟨#[]⟩, .int .i64 0, .int .i64 0], .struct [(0, none), (1, none), (2, none)]⟩
  | 41 => some ⟨3, 32, true, [.int .u8 0, .int .i64 0, .string ⟨#[]⟩], .struct [(0, none), (1, none), (2, none)]⟩
  | 42 => some ⟨3, 32, true, [.int .u8 0, .int .i64 0, .string ⟨#[]⟩], .struct [(0, none), (1, none), (2, none)]⟩
  | 43 => some ⟨1, 8, false, [.pointer none], .ptr⟩
  | 44 => some ⟨1, 24, false, [.slice none 0 0], .slice 48⟩
  | 45 => some ⟨1, 24, false, [.slice none 0 0], .slice 48⟩
  | 47 => some ⟨4, 48, true, [.int .i64 0, .int .i64 0, .slice none 0 0, .int .i64 0], .struct [(0, some 3), (3, none)]⟩
  | 48 => some ⟨4, 48, true, [.int .i64 0, .int .i64 0, .slice none 0 0, .int .i64 0], .struct [(0, some 3), (3, none)]⟩
  | 49 => some ⟨1, 8, false, [.pointer none], .ptr⟩
  | 50 => some ⟨1, 24, false, [.slice none 0 0], .slice 3⟩
  | 52 => some ⟨3, 56, true, [.slice none 0 0, .slice none 0 0, .int .i64 0], .struct [(0, none), (1, none), (2, none)]⟩
  | 53 => some ⟨3, 56, true, [.slice none 0 0, .slice none 0 0, .int .i64 0], .struct [(0, none), (1, none), (2, none)]⟩
  | 74 => some ⟨4, 40, true, [.pointer none, .pointer none, .pointer none, .string ⟨#[]⟩], .struct [(0, none), (1, none), (2, none), (3, none)]⟩
  | 75 => some ⟨4, 40, true, [.pointer none, .pointer none, .pointer none, .string ⟨#[]⟩], .struct [(0, none), (1, none), (2, none), (3, none)]⟩
  | 79 => some ⟨1, 4, false, [.int .u32 0], .int .u32⟩
  | 80 => some ⟨1, 1, false, [.int .u8 0], .int .u8⟩
  | 81 => some ⟨1, 1, false, [.int .u8 0], .int .u8⟩
  | 83 => some ⟨1, 8, false, [.pointer none], .ptr⟩
  | 84 => some ⟨1, 4, false, [.int .i32 0], .int .i32⟩
  | 85 => some ⟨1, 4, false, [.int .i32 0], .int .i32⟩
  | _ => none
theorem tyOk2 : TyOk Try.prog 2 ⟨1, 8, false, [.int .i64 0], .int .i64⟩ :=
  ⟨by kernel_rfl, fun w => by simp [isAgg, underlying, Try.underlying2], Try.underlying2, rfl, rfl, (fun h => by first | rfl | exact absurd h (by decide)), by rw [Try.underlying2]; rfl⟩
theorem tyOk3 : TyOk Try.prog 3 ⟨1, 8, false, [.int .i64 0], .int .i64⟩ :=
  ⟨by kernel_rfl, fun w => by simp [isAgg, underlying, Try.underlying3], Try.underlying3, rfl, rfl, (fun h => by first | rfl | exact absurd h (by decide)), by rw [Try.underlying3]; rfl⟩
theorem tyOk4 : TyOk Try.prog 4 ⟨1, 1, false, [.bool false], .bool⟩ :=
  ⟨by kernel_rfl, fun w => by simp [isAgg, underlying, Try.underlying4], Try.underlying4, rfl, rfl, (fun h => by first | rfl | exact absurd h (by decide)), by rw [Try.underlying4]; rfl⟩
theorem tyOk5 : TyOk Try.prog 5 ⟨1, 1, false, [.int .u8 0], .int .u8⟩ :=
  ⟨by kernel_rfl, fun w => by simp [isAgg, underlying, Try.underlying5], Try.underlying5, rfl, rfl, (fun h => by first | rfl | exact absurd h (by decide)), by rw [Try.underlying5]; rfl⟩
theorem tyOk6 : TyOk Try.prog 6 ⟨1, 1, false, [.int .u8 0], .int .u8⟩ :=
  ⟨by kernel_rfl, fun w => by simp [isAgg, underlying, Try.underlying6], Try.underlying6, rfl, rfl, (fun h => by first | rfl | exact absurd h (by decide)), by rw [Try.underlying6]; rfl⟩
theorem tyOk7 : TyOk Try.prog 7 ⟨4, 24, true, [.int .i64 0, .int .i64 0, .bool false, .int .u8 0], .struct [(0, none), (1, none), (2, none), (3, none)]⟩ :=
  ⟨by kernel_rfl, fun w => by simp [isAgg, underlying, Try.underlying7], ⟨_, Try.underlying7, ⟨⟨rfl, fun w => tyOk2.agg w, fun w => tyOk2.size w, by simp⟩, ⟨rfl, fun w => tyOk3.agg w, fun w => tyOk3.size w, by simp⟩, ⟨rfl, fun w => tyOk4.agg w, fun w => tyOk4.size w, by simp⟩, ⟨rfl, fun w => tyOk6.agg w, fun w => tyOk6.size w, by simp⟩, trivial⟩⟩, rfl, rfl, (fun h => by first | rfl | exact absurd h (by decide)), by rw [Try.underlying7]; rfl⟩
theorem tyOk8 : TyOk Try.prog 8 ⟨4, 24, true, [.int .i64 0, .int .i64 0, .bool false, .int .u8 0], .struct [(0, none), (1, none), (2, none), (3, none)]⟩ :=
  ⟨by kernel_rfl, fun w => by simp [isAgg, underlying, Try.underlying8], ⟨_, Try.underlying8, ⟨⟨rfl, fun w => tyOk2.agg w, fun w => tyOk2.size w, by simp⟩, ⟨rfl, fun w => tyOk3.agg w, fun w => tyOk3.size w, by simp⟩, ⟨rfl, fun w => tyOk4.agg w, fun w => tyOk4.size w, by simp⟩, ⟨rfl, fun w => tyOk6.agg w, fun w => tyOk6.size w, by simp⟩, trivial⟩⟩, rfl, rfl, (fun h => by first | rfl | exact absurd h (by decide)), by rw [Try.underlying8]; rfl⟩
theorem tyOk9 : TyOk Try.prog 9 ⟨1, 16, false, [.string ⟨#[]⟩], .str⟩ :=
  ⟨by kernel_rfl, fun w => by simp [isAgg, underlying, Try.underlying9], Try.underlying9, rfl, rfl, (fun h => by first | rfl | exact absurd h (by decide)), by rw [Try.underlying9]; rfl⟩
theorem tyOk10 : TyOk Try.prog 10 ⟨1, 16, false, [.string ⟨#[]⟩], .str⟩ :=
  ⟨by kernel_rfl, fun w => by simp [isAgg, underlying, Try.underlying10], Try.underlying10, rfl, rfl, (fun h => by first | rfl | exact absurd h (by decide)), by rw [Try.underlying10]; rfl⟩
theorem tyOk11 : TyOk Try.prog 11 ⟨1, 16, false, [.string ⟨#[]⟩], .str⟩ :=
  ⟨by kernel_rfl, fun w => by simp [isAgg, underlying, Try.underlying11], Try.underlying11, rfl, rfl, (fun h => by first | rfl | exact absurd h (by decide)), by rw [Try.underlying11]; rfl⟩
theorem tyOk12 : TyOk Try.prog 12 ⟨1, 8, false, [.int .u64 0], .int .u64⟩ :=
  ⟨by kernel_rfl, fun w => by simp [isAgg, underlying, Try.underlying12], Try.underlying12, rfl, rfl, (fun h => by first | rfl | exact absurd h (by decide)), by rw [Try.underlying12]; rfl⟩
theorem tyOk13 : TyOk Try.prog 13 ⟨2, 24, true, [.string ⟨#[]⟩, .int .u64 0], .struct [(0, none), (1, none)]⟩ :=
  ⟨by kernel_rfl, fun w => by simp [isAgg, underlying, Try.underlying13], ⟨_, Try.underlying13, ⟨⟨rfl, fun w => tyOk9.agg w, fun w => tyOk9.size w, by simp⟩, ⟨rfl, fun w => tyOk12.agg w, fun w => tyOk12.size w, by simp⟩, trivial⟩⟩, rfl, rfl, (fun h => by first | rfl | exact absurd h (by decide)), by rw [Try.underlying13]; rfl⟩
theorem tyOk14 : TyOk Try.prog 14 ⟨2, 24, true, [.string ⟨#[]⟩, .int .u64 0], .struct [(0, none), (1, none)]⟩ :=
  ⟨by kernel_rfl, fun w => by simp [isAgg, underlying, Try.underlying14], ⟨_, Try.underlying14, ⟨⟨rfl, fun w => tyOk9.agg w, fun w => tyOk9.size w, by simp⟩, ⟨rfl, fun w => tyOk12.agg w, fun w => tyOk12.size w, by simp⟩, trivial⟩⟩, rfl, rfl, (fun h => by first | rfl | exact absurd h (by decide)), by rw [Try.underlying14]; rfl⟩
theorem tyOk15 : TyOk Try.prog 15 ⟨1, 8, false, [.pointer none], .ptr⟩ :=
  ⟨by kernel_rfl, fun w => by simp [isAgg, underlying, Try.underlying15], ⟨_, Try.underlying15⟩, rfl, rfl, (fun h => by first | rfl | exact absurd h (by decide)), by rw [Try.underlying15]; rfl⟩
theorem tyOk16 : TyOk Try.prog 16 ⟨1, 8, false, [.pointer none], .ptr⟩ :=
  ⟨by kernel_rfl, fun w => by simp [isAgg, underlying, Try.underlying16], ⟨_, Try.underlying16⟩, rfl, rfl, (fun h => by first | rfl | exact absurd h (by decide)), by rw [Try.underlying16]; rfl⟩
theorem tyOk17 : TyOk Try.prog 17 ⟨1, 8, false, [.pointer none], .ptr⟩ :=
  ⟨by kernel_rfl, fun w => by simp [isAgg, underlying, Try.underlying17], ⟨_, Try.underlying17⟩, rfl, rfl, (fun h => by first | rfl | exact absurd h (by decide)), by rw [Try.underlying17]; rfl⟩
theorem tyOk18 : TyOk Try.prog 18 ⟨1, 8, true, [.pointer none], .struct [(0, none)]⟩ :=
  ⟨by kernel_rfl, fun w => by simp [isAgg, underlying, Try.underlying18], ⟨_, Try.underlying18, ⟨⟨rfl, fun w => tyOk17.agg w, fun w => tyOk17.size w, by simp⟩, trivial⟩⟩, rfl, rfl, (fun h => by first | rfl | exact absurd h (by decide)), by rw [Try.underlying18]; rfl⟩
theorem tyOk19 : TyOk Try.prog 19 ⟨1, 8, true, [.pointer none], .struct [(0, none)]⟩ :=
  ⟨by kernel_rfl, fun w => by simp [isAgg, underlying, Try.underlying19], ⟨_, Try.underlying19, ⟨⟨rfl, fun w => tyOk17.agg w, fun w => tyOk17.size w, by simp⟩, trivial⟩⟩, rfl, rfl, (fun h => by first | rfl | exact absurd h (by decide)), by rw [Try.underlying19]; rfl⟩
theorem tyOk21 : TyOk Try.prog 21 ⟨1, 4, false, [.int .i32 0], .int .i32⟩ :=
  ⟨by kernel_rfl, fun w => by simp [isAgg, underlying, Try.underlying21], Try.underlying21, rfl, rfl, (fun h => by first | rfl | exact absurd h (by decide)), by rw [Try.underlying21]; rfl⟩
theorem tyOk22 : TyOk Try.prog 22 ⟨1, 24, false, [.slice none 0 0], .slice 42⟩ :=
  ⟨by kernel_rfl, fun w => by simp [isAgg, underlying, Try.underlying22], Try.underlying22, rfl, rfl, (fun h => by first | rfl | exact absurd h (by decide)), by rw [Try.underlying22]; rfl⟩
theorem tyOk23 : TyOk Try.prog 23 ⟨1, 24, false, [.slice none 0 0], .slice 33⟩ :=
  ⟨by kernel_rfl, fun w => by simp [isAgg, underlying, Try.underlying23], Try.underlying23, rfl, rfl, (fun h => by first | rfl | exact absurd h (by decide)), by rw [Try.underlying23]; rfl⟩
theorem tyOk26 : TyOk Try.prog 26 ⟨1, 8, false, [.int .i64 0], .int .i64⟩ :=
  ⟨by kernel_rfl, fun w => by simp [isAgg, underlying, Try.underlying26], Try.underlying26, rfl, rfl, (fun h => by first | rfl | exact absurd h (by decide)), by rw [Try.underlying26]; rfl⟩
theorem tyOk31 : TyOk Try.prog 31 ⟨1, 24, false, [.slice none 0 0], .slice 40⟩ :=
  ⟨by kernel_rfl, fun w => by simp [isAgg, underlying, Try.underlying31], Try.underlying31, rfl, rfl, (fun h => by first | rfl | exact absurd h (by decide)), by rw [Try.underlying31]; rfl⟩
theorem tyOk32 : TyOk Try.prog 32 ⟨3, 40, true, [.int .i64 0, .int .i64 0, .slice none 0 0], .struct [(0, none), (1, none), (2, none)]⟩ :=
  ⟨by kernel_rfl, fun w => by simp [isAgg, underlying, Try.underlying32], ⟨_, Try.underlying32, ⟨⟨rfl, fun w => tyOk3.agg w, fun w => tyOk3.size w, by simp⟩, ⟨rfl, fun w => tyOk3.agg w, fun w => tyOk3.size w, by simp⟩, ⟨rfl, fun w => tyOk31.agg w, fun w => tyOk31.size w, by simp⟩, trivial⟩⟩, rfl, rfl, (fun h => by first | rfl | exact absurd h (by decide)), by rw [Try.underlying32]; rfl⟩
theorem tyOk33 : TyOk Try.prog 33 ⟨3, 40, true, [.int .i64 0, .int .i64 0, .slice none 0 0], .struct [(0, none), (1, none), (2, none)]⟩ :=
  ⟨by kernel_rfl, fun w => by simp [isAgg, underlying, Try.underlying33], ⟨_, Try.underlying33, ⟨⟨rfl, fun w => tyOk3.agg w, fun w => tyOk3.size w, by simp⟩, ⟨rfl, fun w => tyOk3.agg w, fun w => tyOk3.size w, by simp⟩, ⟨rfl, fun w => tyOk31.agg w, fun w => tyOk31.size w, by simp⟩, trivial⟩⟩, rfl, rfl, (fun h => by first | rfl | exact absurd h (by decide)), by rw [Try.underlying33]; rfl⟩
theorem tyOk35 : TyOk Try.prog 35 ⟨1, 24, false, [.slice none 0 0], .slice 36⟩ :=
  ⟨by kernel_rfl, fun w => by simp [isAgg, underlying, Try.underlying35], Try.underlying35, rfl, rfl, (fun h => by first | rfl | exact absurd h (by decide)), by rw [Try.underlying35]; rfl⟩
theorem tyOk36 : TyOk Try.prog 36 ⟨1, 2, false, [.int .u16 0], .int .u16⟩ :=
  ⟨by kernel_rfl, fun w => by simp [isAgg, underlying, Try.underlying36], Try.underlying36, rfl, rfl, (fun h => by first | rfl | exact absurd h (by decide)), by rw [Try.underlying36]; rfl⟩
theorem tyOk39 : TyOk Try.prog 39 ⟨3, 32, true, [.string ⟨#[]⟩, .int .i64 0, .int .i64 0], .struct [(0, none), (1, none), (2, none)]⟩ :=
  ⟨by kernel_rfl, fun w => by simp [isAgg, underlying, Try.underlying39], ⟨_, Try.underlying39, ⟨⟨rfl, fun w => tyOk9.agg w, fun w => tyOk9.size w, by simp⟩, ⟨rfl, fun w => tyOk3.agg w, fun w => tyOk3.size w, by simp⟩, ⟨rfl, fun w => tyOk3.agg w, fun w => tyOk3.size w, by simp⟩, trivial⟩⟩, rfl, rfl, (fun h => by first | rfl | exact absurd h (by decide)), by rw [Try.underlying39]; rfl⟩
theorem tyOk40 : TyOk Try.prog 40 ⟨3, 32, true, [.string ⟨#[]⟩, .int .i64 0, .int .i64 0], .struct [(0, none), (1, none), (2, none)]⟩ :=
  ⟨by kernel_rfl, fun w => by simp [isAgg, underlying, Try.underlying40], ⟨_, Try.underlying40, ⟨⟨rfl, fun w => tyOk9.agg w, fun w => tyOk9.size w, by simp⟩, ⟨rfl, fun w => tyOk3.agg w, fun w => tyOk3.size w, by simp⟩, ⟨rfl, fun w => tyOk3.agg w, fun w => tyOk3.size w, by simp⟩, trivial⟩⟩, rfl, rfl, (fun h => by first | rfl | exact absurd h (by decide)), by rw [Try.underlying40]; rfl⟩
theorem tyOk41 : TyOk Try.prog 41 ⟨3, 32, true, [.int .u8 0, .int .i64 0, .string ⟨#[]⟩], .struct [(0, none), (1, none), (2, none)]⟩ :=
  ⟨by kernel_rfl, fun w => by simp [isAgg, underlying, Try.underlying41], ⟨_, Try.underlying41, ⟨⟨rfl, fun w => tyOk5.agg w, fun w => tyOk5.size w, by simp⟩, ⟨rfl, fun w => tyOk3.agg w, fun w => tyOk3.size w, by simp⟩, ⟨rfl, fun w => tyOk9.agg w, fun w => tyOk9.size w, by simp⟩, trivial⟩⟩, rfl, rfl, (fun h => by first | rfl | exact absurd h (by decide)), by rw [Try.underlying41]; rfl⟩
theorem tyOk42 : TyOk Try.prog 42 ⟨3, 32, true, [.int .u8 0, .int .i64 0, .string ⟨#[]⟩], .struct [(0, none), (1, none), (2, none)]⟩ :=
  ⟨by kernel_rfl, fun w => by simp [isAgg, underlying, Try.underlying42], ⟨_, Try.underlying42, ⟨⟨rfl, fun w => tyOk5.agg w, fun w => tyOk5.size w, by simp⟩, ⟨rfl, fun w => tyOk3.agg w, fun w => tyOk3.size w, by simp⟩, ⟨rfl, fun w => tyOk9.agg w, fun w => tyOk9.size w, by simp⟩, trivial⟩⟩, rfl, rfl, (fun h => by first | rfl | exact absurd h (by decide)), by rw [Try.underlying42]; rfl⟩
theorem tyOk43 : TyOk Try.prog 43 ⟨1, 8, false, [.pointer none], .ptr⟩ :=
  ⟨by kernel_rfl, fun w => by simp [isAgg, underlying, Try.underlying43], ⟨_, Try.underlying43⟩, rfl, rfl, (fun h => by first | rfl | exact absurd h (by decide)), by rw [Try.underlying43]; rfl⟩
theorem tyOk44 : TyOk Try.prog 44 ⟨1, 24, false, [.slice none 0 0], .slice 48⟩ :=
  ⟨by kernel_rfl, fun w => by simp [isAgg, underlying, Try.underlying44], Try.underlying44, rfl, rfl, (fun h => by first | rfl | exact absurd h (by decide)), by rw [Try.underlying44]; rfl⟩
theorem tyOk45 : TyOk Try.prog 45 ⟨1, 24, false, [.slice none 0 0], .slice 48⟩ :=
  ⟨by kernel_rfl, fun w => by simp [isAgg, underlying, Try.underlying45], Try.underlying45, rfl, rfl, (fun h => by first | rfl | exact absurd h (by decide)), by rw [Try.underlying45]; rfl⟩
theorem tyOk47 : TyOk Try.prog 47 ⟨4, 48, true, [.int .i64 0, .int .i64 0, .slice none 0 0, .int .i64 0], .struct [(0, some 3), (3, none)]⟩ :=
  ⟨by kernel_rfl, fun w => by simp [isAgg, underlying, Try.underlying47], ⟨_, Try.underlying47, ⟨⟨rfl, fun w => tyOk33.agg w, fun w => tyOk33.size w, by simp⟩, ⟨rfl, fun w => tyOk3.agg w, fun w => tyOk3.size w, by simp⟩, trivial⟩⟩, rfl, rfl, (fun h => by first | rfl | exact absurd h (by decide)), by rw [Try.underlying47]; rfl⟩
theorem tyOk48 : TyOk Try.prog 48 ⟨4, 48, true, [.int .i64 0, .int .i64 0, .slice none 0 0, .int .i64 0], .struct [(0, some 3), (3, none)]⟩ :=
  ⟨by kernel_rfl, fun w => by simp [isAgg, underlying, Try.underlying48], ⟨_, Try.underlying48, ⟨⟨rfl, fun w => tyOk33.agg w, fun w => tyOk33.size w, by simp⟩, ⟨rfl, fun w => tyOk3.agg w, fun w => tyOk3.size w, by simp⟩, trivial⟩⟩, rfl, rfl, (fun h => by first | rfl | exact absurd h (by decide)), by rw [Try.underlying48]; rfl⟩
theorem tyOk49 : TyOk Try.prog 49 ⟨1, 8, false, [.pointer none], .ptr⟩ :=
  ⟨by kernel_rfl, fun w => by simp [isAgg, underlying, Try.underlying49], ⟨_, Try.underlying49⟩, rfl, rfl, (fun h => by first | rfl | exact absurd h (by decide)), by rw [Try.underlying49]; rfl⟩
theorem tyOk50 : TyOk Try.prog 50 ⟨1, 24, false, [.slice none 0 0], .slice 3⟩ :=
  ⟨by kernel_rfl, fun w => by simp [isAgg, underlying, Try.underlying50], Try.underlying50, rfl, rfl, (fun h => by first | rfl | exact absurd h (by decide)), by rw [Try.underlying50]; rfl⟩
theorem tyOk52 : TyOk Try.prog 52 ⟨3, 56, true, [.slice none 0 0, .slice none 0 0, .int .i64 0], .struct [(0, none), (1, none), (2, none)]⟩ :=
  ⟨by kernel_rfl, fun w => by simp [isAgg, underlying, Try.underlying52], ⟨_, Try.underlying52, ⟨⟨rfl, fun w => tyOk50.agg w, fun w => tyOk50.size w, by simp⟩, ⟨rfl, fun w => tyOk23.agg w, fun w => tyOk23.size w, by simp⟩, ⟨rfl, fun w => tyOk3.agg w, fun w => tyOk3.size w, by simp⟩, trivial⟩⟩, rfl, rfl, (fun h => by first | rfl | exact absurd h (by decide)), by rw [Try.underlying52]; rfl⟩
theorem tyOk53 : TyOk Try.prog 53 ⟨3, 56, true, [.slice none 0 0, .slice none 0 0, .int .i64 0], .struct [(0, none), (1, none), (2, none)]⟩ :=
  ⟨by kernel_rfl, fun w => by simp [isAgg, underlying, Try.underlying53], ⟨_, Try.underlying53, ⟨⟨rfl, fun w => tyOk50.agg w, fun w => tyOk50.size w, by simp⟩, ⟨rfl, fun w => tyOk23.agg w, fun w => tyOk23.size w, by simp⟩, ⟨rfl, fun w => tyOk3.agg w, fun w => tyOk3.size w, by simp⟩, trivial⟩⟩, rfl, rfl, (fun h => by first | rfl | exact absurd h (by decide)), by rw [Try.underlying53]; rfl⟩
theorem tyOk74 : TyOk Try.prog 74 ⟨4, 40, true, [.pointer none, .pointer none, .pointer none, .string ⟨#[]⟩], .struct [(0, none), (1, none), (2, none), (3, none)]⟩ :=
  ⟨by kernel_rfl, fun w => by simp [isAgg, underlying, Try.underlying74], ⟨_, Try.underlying74, ⟨⟨rfl, fun w => tyOk17.agg w, fun w => tyOk17.size w, by simp⟩, ⟨rfl, fun w => tyOk17.agg w, fun w => tyOk17.size w, by simp⟩, ⟨rfl, fun w => tyOk17.agg w, fun w => tyOk17.size w, by simp⟩, ⟨rfl, fun w => tyOk9.agg w, fun w => tyOk9.size w, by simp⟩, trivial⟩⟩, rfl, rfl, (fun h => by first | rfl | exact absurd h (by decide)), by rw [Try.underlying74]; rfl⟩
theorem tyOk75 : TyOk Try.prog 75 ⟨4, 40, true, [.pointer none, .pointer none, .pointer none, .string ⟨#[]⟩], .struct [(0, none), (1, none), (2, none), (3, none)]⟩ :=
  ⟨by kernel_rfl, fun w => by simp [isAgg, underlying, Try.underlying75], ⟨_, Try.underlying75, ⟨⟨rfl, fun w => tyOk17.agg w, fun w => tyOk17.size w, by simp⟩, ⟨rfl, fun w => tyOk17.agg w, fun w => tyOk17.size w, by simp⟩, ⟨rfl, fun w => tyOk17.agg w, fun w => tyOk17.size w, by simp⟩, ⟨rfl, fun w => tyOk9.agg w, fun w => tyOk9.size w, by simp⟩, trivial⟩⟩, rfl, rfl, (fun h => by first | rfl | exact absurd h (by decide)), by rw [Try.underlying75]; rfl⟩
theorem tyOk79 : TyOk Try.prog 79 ⟨1, 4, false, [.int .u32 0], .int .u32⟩ :=
  ⟨by kernel_rfl, fun w => by simp [isAgg, underlying, Try.underlying79], Try.underlying79, rfl, rfl, (fun h => by first | rfl | exact absurd h (by decide)), by rw [Try.underlying79]; rfl⟩
theorem tyOk80 : TyOk Try.prog 80 ⟨1, 1, false, [.int .u8 0], .int .u8⟩ :=
  ⟨by kernel_rfl, fun w => by simp [isAgg, underlying, Try.underlying80], Try.underlying80, rfl, rfl, (fun h => by first | rfl | exact absurd h (by decide)), by rw [Try.underlying80]; rfl⟩
theorem tyOk81 : TyOk Try.prog 81 ⟨1, 1, false, [.int .u8 0], .int .u8⟩ :=
  ⟨by kernel_rfl, fun w => by simp [isAgg, underlying, Try.underlying81], Try.underlying81, rfl, rfl, (fun h => by first | rfl | exact absurd h (by decide)), by rw [Try.underlying81]; rfl⟩
theorem tyOk83 : TyOk Try.prog 83 ⟨1, 8, false, [.pointer none], .ptr⟩ :=
  ⟨by kernel_rfl, fun w => by simp [isAgg, underlying, Try.underlying83], ⟨_, Try.underlying83⟩, rfl, rfl, (fun h => by first | rfl | exact absurd h (by decide)), by rw [Try.underlying83]; rfl⟩
theorem tyOk84 : TyOk Try.prog 84 ⟨1, 4, false, [.int .i32 0], .int .i32⟩ :=
  ⟨by kernel_rfl, fun w => by simp [isAgg, underlying, Try.underlying84], Try.underlying84, rfl, rfl, (fun h => by first | rfl | exact absurd h (by decide)), by rw [Try.underlying84]; rfl⟩
theorem tyOk85 : TyOk Try.prog 85 ⟨1, 4, false, [.int .i32 0], .int .i32⟩ :=
  ⟨by kernel_rfl, fun w => by simp [isAgg, underlying, Try.underlying85], Try.underlying85, rfl, rfl, (fun h => by first | rfl | exact absurd h (by decide)), by rw [Try.underlying85]; rfl⟩
theorem tysOk : TysOk Try.prog ty := by
  intro t i h
  unfold ty at h
  split at h
  · cases h; exact tyOk2
  · cases h; exact tyOk3
  · cases h; exact tyOk4
  · cases h; exact tyOk5
  · cases h; exact tyOk6
  · cases h; exact tyOk7
  · cases h; exact tyOk8
  · cases h; exact tyOk9
  · cases h; exact tyOk10
  · cases h; exact tyOk11
  · cases h; exact tyOk12
  · cases h; exact tyOk13
  · cases h; exact tyOk14
  · cases h; exact tyOk15
  · cases h; exact tyOk16
  · cases h; exact tyOk17
  · cases h; exact tyOk18
  · cases h; exact tyOk19
  · cases h; exact tyOk21
  · cases h; exact tyOk22
  · cases h; exact tyOk23
  · cases h; exact tyOk26
  · cases h; exact tyOk31
  · cases h; exact tyOk32
  · cases h; exact tyOk33
  · cases h; exact tyOk35
  · cases h; exact tyOk36
  · cases h; exact tyOk39
  · cases h; exact tyOk40
  · cases h; exact tyOk41
  · cases h; exact tyOk42
  · cases h; exact tyOk43
  · cases h; exact tyOk44
  · cases h; exact tyOk45
  · cases h; exact tyOk47
  · cases h; exact tyOk48
  · cases h; exact tyOk49
  · cases h; exact tyOk50
  · cases h; exact tyOk52
  · cases h; exact tyOk53
  · cases h; exact tyOk74
  · cases h; exact tyOk75
  · cases h; exact tyOk79
  · cases h; exact tyOk80
  · cases h; exact tyOk81
  · cases h; exact tyOk83
  · cases h; exact tyOk84
  · cases h; exact tyOk85
  · cases h
theorem mixed : Try.prog.follows .mixedOrders = true := by kernel_rfl
end Go.Ex
