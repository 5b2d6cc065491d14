/-
  Top: TopDeep: whatever the input, the law answers true (part 10)
-/
import Derived.Test.YtpjdgifhhnjclaaGreatDoorProg
import Derived.KernelRfl
import Derived.Test.YtpjdgifhhnjclaaGreatDoorM01
set_option linter.unusedVariables false
set_option linter.unusedSimpArgs false
set_option maxHeartbeats 4000000
set_option maxRecDepth 10000
namespace Go.Ex
open Go.Proofs
def ty:Nat→Option TyI
 |2=>some ⟨1,8,false,[.int .i64 0],.int .i64⟩
 |3=>some ⟨1,8,false,[.int .i64 0],.int .i64⟩
 |4=>some ⟨1,1,false,[.bool false],.bool⟩
 |5=>some ⟨1,1,false,[.int .u8 0],.int .u8⟩
 |6=>some ⟨1,1,false,[.int .u8 0],.int .u8⟩
 |7=>some ⟨4,24,true,[.int .i64 0,.int .i64 0,.bool false,.int .u8 0],.struct [(0,none),(1,none),(2,none),(3,none)]⟩
 |8=>some ⟨4,24,true,[.int .i64 0,.int .i64 0,.bool false,.int .u8 0],.struct [(0,none),(1,none),(2,none),(3,none)]⟩
 |9=>some ⟨1,16,false,[.string ⟨#[]⟩],.str⟩
 |10=>some ⟨1,16,false,[.string ⟨#[]⟩],.str⟩
 |11=>some ⟨1,16,false,[.string ⟨#[]⟩],.str⟩
 |12=>some ⟨1,8,false,[.int .u64 0],.int .u64⟩
 |13=>some ⟨2,24,true,[.string ⟨#[]⟩,.int .u64 0],.struct [(0,none),(1,none)]⟩
 |14=>some ⟨2,24,true,[.string ⟨#[]⟩,.int .u64 0],.struct [(0,none),(1,none)]⟩
 |15=>some ⟨1,8,false,[.pointer none],.ptr⟩
 |16=>some ⟨1,8,false,[.pointer none],.ptr⟩
 |17=>some ⟨1,8,false,[.pointer none],.ptr⟩
 |18=>some ⟨1,8,true,[.pointer none],.struct [(0,none)]⟩
 |19=>some ⟨1,8,true,[.pointer none],.struct [(0,none)]⟩
 |21=>some ⟨1,4,false,[.int .i32 0],.int .i32⟩
 |22=>some ⟨1,24,false,[.slice none 0 0],.slice 40⟩
 |23=>some ⟨1,24,false,[.slice none 0 0],.slice 45⟩
 |24=>some ⟨2,48,true,[.slice none 0 0,.slice none 0 0],.struct [(0,none),(1,none)]⟩
 |25=>some ⟨2,48,true,[.slice none 0 0,.slice none 0 0],.struct [(0,none),(1,none)]⟩
 |26=>some ⟨1,8,false,[.int .i64 0],.int .i64⟩
 |27=>some ⟨2,16,true,[.int .i64 0,.int .i64 0],.struct [(0,none),(1,none)]⟩
 |28=>some ⟨2,16,true,[.int .i64 0,.int .i64 0],.struct [(0,none),(1,none)]⟩
 |32=>some ⟨1,24,false,[.slice none 0 0],.slice 3⟩
 |39=>some ⟨3,24,true,[.int .u8 0,.int .i64 0,.int .i64 0],.struct [(0,none),(1,none),(2,none)]⟩
 |40=>some ⟨3,24,true,[.int .u8 0,.int .i64 0,.int .i64 0],.struct [(0,none),(1,none),(2,none)]⟩
 |44=>some ⟨5,40,true,[.int .u8 0,.int .i64 0,.int .i64 0,.int .i64 0,.int .i64 0],.struct [(0,none),(1,none),(2,none),(3,none),(4,none)]⟩
 |45=>some ⟨5,40,true,[.int .u8 0,.int .i64 0,.int .i64 0,.int .i64 0,.int .i64 0],.struct [(0,none),(1,none),(2,none),(3,none),(4,none)]⟩
 |46=>some ⟨1,24,false,[.slice none 0 0],.slice 51⟩
 |50=>some ⟨3,32,true,[.int .u8 0,.int .i64 0,.string ⟨#[]⟩],.struct [(0,none),(1,none),(2,none)]⟩
 |51=>some ⟨3,32,true,[.int .u8 0,.int .i64 0,.string ⟨#[]⟩],.struct [(0,none),(1,none),(2,none)]⟩
 |53=>some ⟨1,2,false,[.int .u16 0],.int .u16⟩
 |54=>some ⟨1,24,false,[.slice none 0 0],.slice 9⟩
 |55=>some ⟨1,24,false,[.slice none 0 0],.slice 5⟩
 |57=>some ⟨1,24,false,[.slice none 0 0],.slice 90⟩
 |63=>some ⟨1,8,false,[.pointer none],.ptr⟩
 |66=>some ⟨1,8,false,[.nilFunc],.other⟩
 |67=>some ⟨1,24,false,[.slice none 0 0],.slice 63⟩
 |68=>some ⟨5,56,true,[.int .u8 0,.int .i64 0,.int .i64 0,.int .i64 0,.slice none 0 0],.struct [(0,none),(1,none),(2,none),(3,none),(4,none)]⟩
 |69=>some ⟨5,56,true,[.int .u8 0,.int .i64 0,.int .i64 0,.int .i64 0,.slice none 0 0],.struct [(0,none),(1,none),(2,none),(3,none),(4,none)]⟩
 |78=>some ⟨1,8,false,[.pointer none],.ptr⟩
 |79=>some ⟨5,80,true,[.string ⟨#[]⟩,.slice none 0 0,.slice none 0 0,.int .i64 0,.bool false],.struct [(0,none),(1,none),(2,none),(3,none),(4,none)]⟩
 |80=>some ⟨5,80,true,[.string ⟨#[]⟩,.slice none 0 0,.slice none 0 0,.int .i64 0,.bool false],.struct [(0,none),(1,none),(2,none),(3,none),(4,none)]⟩
 |89=>some ⟨2,16,true,[.int .u8 0,.int .i64 0],.struct [(0,none),(1,none)]⟩
 |90=>some ⟨2,16,true,[.int .u8 0,.int .i64 0],.struct [(0,none),(1,none)]⟩
 |93=>some ⟨100,800,true,[.int .i64 0,.int .i64 0,.int .i64 0,.int .i64 0,.int .i64 0,.int .i64 0,.int .i64 0,.int .i64 0,.int .i64 0,.int .i64 0,.int .i64 0,.int .i64 0,.int .i64 0,.int .i64 0,.int .i64 0,.int .i64 0,.int .i64 0,.int .i64 0,.int .i64 0,.int .i64 0,.int .i64 0,.int .i64 0,.int .i64 0,.int .i64 0,.int .i64 0,.int .i64 0,.int .i64 0,.int .i64 0,.int .i64 0,.int .i64 0,.int .i64 0,.int .i64 0,.int .i64 0,.int .i64 0,.int .i64 0,.int .i64 0,.int .i64 0,.int .i64 0,.int .i64 0,.int .i64 0,.int .i64 0,.int .i64 0,.int .i64 0,.int .i64 0,.int .i64 0,.int .i64 0,.int .i64 0,.int .i64 0,.int .i64 0,.int .i64 0,.int .i64 0,.int .i64 0,.int .i64 0,.int .i64 0,.int .i64 0,.int .i64 0,.int .i64 0,.int .i64 0,.int .i64 0,.int .i64 0,.int .i64 0,.int .i64 0,.int .i64 0,.int .i64 0,.int .i64 0,.int .i64 0,.int .i64 0,.int .i64 0,.int .i64 0,.int .i64 0,.int .i64 0,.int .i64 0,.int .i64 0,.int .i64 0,.int .i64 0,.int .i64 0,.int .i64 0,.int .i64 0,.int .i64 0,.int .i64 0,.int .i64 0,.int .i64 0,.int .i64 0,.int .i64 0,.int .i64 0,.int .i64 0,.int .i64 0,.int .i64 0,.int .i64 0,.int .i64 0,.int .i64 0,.int .i64 0,.int .i64 0,.int .i64 0,.int .i64 0,.int .i64 0,.int .i64 0,.int .i64 0,.int .i64 0,.int .i64 0],.arr 100 3⟩
 |96=>some ⟨1,24,false,[.slice none 0 0],.slice 99⟩
 |97=>some ⟨1,8,false,[.pointer none],.ptr⟩
 |98=>some ⟨3,24,true,[.int .i64 0,.int .i64 0,.int .i64 0],.struct [(0,none),(1,none),(2,none)]⟩
 |99=>some ⟨3,24,true,[.int .i64 0,.int .i64 0,.int .i64 0],.struct [(0,none),(1,none),(2,none)]⟩
 |108=>some ⟨1,24,false,[.slice none 0 0],.slice 115⟩
 |110=>some ⟨1,24,false,[.slice none 0 0],.slice 112⟩
 |112=>some ⟨1,8,false,[.pointer none],.ptr⟩
 |113=>some ⟨1,8,false,[.nilFunc],.other⟩
 |114=>some ⟨2,16,true,[.int .u8 0,.nilFunc],.struct [(0,none),(1,none)]⟩
 |115=>some ⟨2,16,true,[.int .u8 0,.nilFunc],.struct [(0,none),(1,none)]⟩
 |116=>some ⟨7,80,true,[.int .u8 0,.int .i64 0,.string ⟨#[]⟩,.int .i64 0,.pointer none,.int .i64 0,.slice none 0 0],.struct [(0,some 3),(3,none),(4,none),(5,none),(6,none)]⟩
 |117=>some ⟨7,80,true,[.int .u8 0,.int .i64 0,.string ⟨#[]⟩,.int .i64 0,.pointer none,.int .i64 0,.slice none 0 0],.struct [(0,some 3),(3,none),(4,none),(5,none),(6,none)]⟩
 |118=>some ⟨1,8,false,[.int .i64 0],.int .i64⟩
 |119=>some ⟨1,8,false,[.nilFunc],.other⟩
 |148=>some ⟨1,8,false,[.pointer none],.ptr⟩
 |149=>some ⟨2,8,true,[.int .i32 0,.int .i32 0],.struct [(0,none),(1,none)]⟩
 |150=>some ⟨2,8,true,[.int .i32 0,.int .i32 0],.struct [(0,none),(1,none)]⟩
 |151=>some ⟨66,264,true,[.int .i32 0,.int .i32 0,.int .i32 0,.int .i32 0,.int .i32 0,.int .i32 0,.int .i32 0,.int .i32 0,.int .i32 0,.int .i32 0,.int .i32 0,.int .i32 0,.int .i32 0,.int .i32 0,.int .i32 0,.int .i32 0,.int .i32 0,.int .i32 0,.int .i32 0,.int .i32 0,.int .i32 0,.int .i32 0,.int .i32 0,.int .i32 0,.int .i32 0,.int .i32 0,.int .i32 0,.int .i32 0,.int .i32 0,.int .i32 0,.int .i32 0,.int .i32 0,.int .i32 0,.int .i32 0,.int .i32 0,.int .i32 0,.int .i32 0,.int .i32 0,.int .i32 0,.int .i32 0,.int .i32 0,.int .i32 0,.int .i32 0,.int .i32 0,.int .i32 0,.int .i32 0,.int .i32 0,.int .i32 0,.int .i32 0,.int .i32 0,.int .i32 0,.int .i32 0,.int .i32 0,.int .i32 0,.int .i32 0,.int .i32 0,.int .i32 0,.int .i32 0,.int .i32 0,.int .i32 0,.int .i32 0,.int .i32 0,.int .i32 0,.int .i32 0,.int .i32 0,.int .i32 0],.arr 33 150⟩
 |156=>some ⟨1,8,false,[.int .u64 0],.int .u64⟩
 |157=>some ⟨5,20,true,[.int .i32 0,.int .i32 0,.int .i32 0,.int .i32 0,.int .i32 0],.arr 5 21⟩
 |159=>some ⟨1,8,false,[.pointer none],.ptr⟩
 |160=>some ⟨5,64,true,[.string ⟨#[]⟩,.int .i64 0,.int .u8 0,.slice none 0 0,.bool false],.struct [(0,none),(1,none),(2,none),(3,none),(4,none)]⟩
 |161=>some ⟨5,64,true,[.string ⟨#[]⟩,.int .i64 0,.int .u8 0,.slice none 0 0,.bool false],.struct [(0,none),(1,none),(2,none),(3,none),(4,none)]⟩
 |171=>some ⟨1,4,false,[.int .u32 0],.int .u32⟩
 |182=>some ⟨2,2,true,[.int .u8 0,.int .u8 0],.struct [(0,none),(1,none)]⟩
 |183=>some ⟨2,2,true,[.int .u8 0,.int .u8 0],.struct [(0,none),(1,none)]⟩
 |184=>some ⟨32,32,true,[.int .u8 0,.int .u8 0,.int .u8 0,.int .u8 0,.int .u8 0,.int .u8 0,.int .u8 0,.int .u8 0,.int .u8 0,.int .u8 0,.int .u8 0,.int .u8 0,.int .u8 0,.int .u8 0,.int .u8 0,.int .u8 0,.int .u8 0,.int .u8 0,.int .u8 0,.int .u8 0,.int .u8 0,.int .u8 0,.int .u8 0,.int .u8 0,.int .u8 0,.int .u8 0,.int .u8 0,.int .u8 0,.int .u8 0,.int .u8 0,.int .u8 0,.int .u8 0],.arr 16 183⟩
 |186=>some ⟨1,8,false,[.pointer none],.ptr⟩
 |187=>some ⟨2,32,true,[.pointer none,.slice none 0 0],.struct [(0,none),(1,none)]⟩
 |188=>some ⟨2,32,true,[.pointer none,.slice none 0 0],.struct [(0,none),(1,none)]⟩
 |198=>some ⟨1,8,false,[.pointer none],.ptr⟩
 |207=>some ⟨4,40,true,[.pointer none,.pointer none,.pointer none,.string ⟨#[]⟩],.struct [(0,none),(1,none),(2,none),(3,none)]⟩
 |208=>some ⟨4,40,true,[.pointer none,.pointer none,.pointer none,.string ⟨#[]⟩],.struct [(0,none),(1,none),(2,none),(3,none)]⟩
 |213=>some ⟨1,1,false,[.int .u8 0],.int .u8⟩
 |214=>some ⟨1,1,false,[.int .u8 0],.int .u8⟩
 |216=>some ⟨1,4,false,[.int .i32 0],.int .i32⟩
 |217=>some ⟨1,4,false,[.int .i32 0],.int .i32⟩
 |_=>none
theorem tyOk2:TyOk Tryz.prog 2 ⟨1,8,false,[.int .i64 0],.int .i64⟩:=
 ⟨by kernel_rfl,fun w=>by simp [isAgg,underlying,Tryz.underlying2],Tryz.underlying2,rfl,rfl,(fun h=>by first|rfl|exact absurd h (by decide)),by rw [Tryz.underlying2];rfl⟩
theorem tyOk3:TyOk Tryz.prog 3 ⟨1,8,false,[.int .i64 0],.int .i64⟩:=
 ⟨by kernel_rfl,fun w=>by simp [isAgg,underlying,Tryz.underlying3],Tryz.underlying3,rfl,rfl,(fun h=>by first|rfl|exact absurd h (by decide)),by rw [Tryz.underlying3];rfl⟩
theorem tyOk4:TyOk Tryz.prog 4 ⟨1,1,false,[.bool false],.bool⟩:=
 ⟨by kernel_rfl,fun w=>by simp [isAgg,underlying,Tryz.underlying4],Tryz.underlying4,rfl,rfl,(fun h=>by first|rfl|exact absurd h (by decide)),by rw [Tryz.underlying4];rfl⟩
theorem tyOk5:TyOk Tryz.prog 5 ⟨1,1,false,[.int .u8 0],.int .u8⟩:=
 ⟨by kernel_rfl,fun w=>by simp [isAgg,underlying,Tryz.underlying5],Tryz.underlying5,rfl,rfl,(fun h=>by first|rfl|exact absurd h (by decide)),by rw [Tryz.underlying5];rfl⟩
theorem tyOk6:TyOk Tryz.prog 6 ⟨1,1,false,[.int .u8 0],.int .u8⟩:=
 ⟨by kernel_rfl,fun w=>by simp [isAgg,underlying,Tryz.underlying6],Tryz.underlying6,rfl,rfl,(fun h=>by first|rfl|exact absurd h (by decide)),by rw [Tryz.underlying6];rfl⟩
theorem tyOk7:TyOk Tryz.prog 7 ⟨4,24,true,[.int .i64 0,.int .i64 0,.bool false,.int .u8 0],.struct [(0,none),(1,none),(2,none),(3,none)]⟩:=
 ⟨by kernel_rfl,fun w=>by simp [isAgg,underlying,Tryz.underlying7],⟨_,Tryz.underlying7,⟨⟨rfl,fun w=>tyOk2.agg w,fun w=>tyOk2.size w,by simp⟩,⟨rfl,fun w=>tyOk3.agg w,fun w=>tyOk3.size w,by simp⟩,⟨rfl,fun w=>tyOk4.agg w,fun w=>tyOk4.size w,by simp⟩,⟨rfl,fun w=>tyOk6.agg w,fun w=>tyOk6.size w,by simp⟩,trivial⟩⟩,rfl,rfl,(fun h=>by first|rfl|exact absurd h (by decide)),by rw [Tryz.underlying7];rfl⟩
theorem tyOk8:TyOk Tryz.prog 8 ⟨4,24,true,[.int .i64 0,.int .i64 0,.bool false,.int .u8 0],.struct [(0,none),(1,none),(2,none),(3,none)]⟩:=
 ⟨by kernel_rfl,fun w=>by simp [isAgg,underlying,Tryz.underlying8],⟨_,Tryz.underlying8,⟨⟨rfl,fun w=>tyOk2.agg w,fun w=>tyOk2.size w,by simp⟩,⟨rfl,fun w=>tyOk3.agg w,fun w=>tyOk3.size w,by simp⟩,⟨rfl,fun w=>tyOk4.agg w,fun w=>tyOk4.size w,by simp⟩,⟨rfl,fun w=>tyOk6.agg w,fun w=>tyOk6.size w,by simp⟩,trivial⟩⟩,rfl,rfl,(fun h=>by first|rfl|exact absurd h (by decide)),by rw [Tryz.underlying8];rfl⟩
theorem tyOk9:TyOk Tryz.prog 9 ⟨1,16,false,[.string ⟨#[]⟩],.str⟩:=
 ⟨by kernel_rfl,fun w=>by simp [isAgg,underlying,Tryz.underlying9],Tryz.underlying9,rfl,rfl,(fun h=>by first|rfl|exact absurd h (by decide)),by rw [Tryz.underlying9];rfl⟩
theorem tyOk10:TyOk Tryz.prog 10 ⟨1,16,false,[.string ⟨#[]⟩],.str⟩:=
 ⟨by kernel_rfl,fun w=>by simp [isAgg,underlying,Tryz.underlying10],Tryz.underlying10,rfl,rfl,(fun h=>by first|rfl|exact absurd h (by decide)),by rw [Tryz.underlying10];rfl⟩
theorem tyOk11:TyOk Tryz.prog 11 ⟨1,16,false,[.string ⟨#[]⟩],.str⟩:=
 ⟨by kernel_rfl,fun w=>by simp [isAgg,underlying,Tryz.underlying11],Tryz.underlying11,rfl,rfl,(fun h=>by first|rfl|exact absurd h (by decide)),by rw [Tryz.underlying11];rfl⟩
theorem tyOk12:TyOk Tryz.prog 12 ⟨1,8,false,[.int .u64 0],.int .u64⟩:=
 ⟨by kernel_rfl,fun w=>by simp [isAgg,underlying,Tryz.underlying12],Tryz.underlying12,rfl,rfl,(fun h=>by first|rfl|exact absurd h (by decide)),by rw [Tryz.underlying12];rfl⟩
theorem tyOk13:TyOk Tryz.prog 13 ⟨2,24,true,[.string ⟨#[]⟩,.int .u64 0],.struct [(0,none),(1,none)]⟩:=
 ⟨by kernel_rfl,fun w=>by simp [isAgg,underlying,Tryz.underlying13],⟨_,Tryz.underlying13,⟨⟨rfl,fun w=>tyOk9.agg w,fun w=>tyOk9.size w,by simp⟩,⟨rfl,fun w=>tyOk12.agg w,fun w=>tyOk12.size w,by simp⟩,trivial⟩⟩,rfl,rfl,(fun h=>by first|rfl|exact absurd h (by decide)),by rw [Tryz.underlying13];rfl⟩
theorem tyOk14:TyOk Tryz.prog 14 ⟨2,24,true,[.string ⟨#[]⟩,.int .u64 0],.struct [(0,none),(1,none)]⟩:=
 ⟨by kernel_rfl,fun w=>by simp [isAgg,underlying,Tryz.underlying14],⟨_,Tryz.underlying14,⟨⟨rfl,fun w=>tyOk9.agg w,fun w=>tyOk9.size w,by simp⟩,⟨rfl,fun w=>tyOk12.agg w,fun w=>tyOk12.size w,by simp⟩,trivial⟩⟩,rfl,rfl,(fun h=>by first|rfl|exact absurd h (by decide)),by rw [Tryz.underlying14];rfl⟩
theorem tyOk15:TyOk Tryz.prog 15 ⟨1,8,false,[.pointer none],.ptr⟩:=
 ⟨by kernel_rfl,fun w=>by simp [isAgg,underlying,Tryz.underlying15],⟨_,Tryz.underlying15⟩,rfl,rfl,(fun h=>by first|rfl|exact absurd h (by decide)),by rw [Tryz.underlying15];rfl⟩
theorem tyOk16:TyOk Tryz.prog 16 ⟨1,8,false,[.pointer none],.ptr⟩:=
 ⟨by kernel_rfl,fun w=>by simp [isAgg,underlying,Tryz.underlying16],⟨_,Tryz.underlying16⟩,rfl,rfl,(fun h=>by first|rfl|exact absurd h (by decide)),by rw [Tryz.underlying16];rfl⟩
theorem tyOk17:TyOk Tryz.prog 17 ⟨1,8,false,[.pointer none],.ptr⟩:=
 ⟨by kernel_rfl,fun w=>by simp [isAgg,underlying,Tryz.underlying17],⟨_,Tryz.underlying17⟩,rfl,rfl,(fun h=>by first|rfl|exact absurd h (by decide)),by rw [Tryz.underlying17];rfl⟩
theorem tyOk18:TyOk Tryz.prog 18 ⟨1,8,true,[.pointer none],.struct [(0,none)]⟩:=
 ⟨by kernel_rfl,fun w=>by simp [isAgg,underlying,Tryz.underlying18],⟨_,Tryz.underlying18,⟨⟨rfl,fun w=>tyOk17.agg w,fun w=>tyOk17.size w,by simp⟩,trivial⟩⟩,rfl,rfl,(fun h=>by first|rfl|exact absurd h (by decide)),by rw [Tryz.underlying18];rfl⟩
theorem tyOk19:TyOk Tryz.prog 19 ⟨1,8,true,[.pointer none],.struct [(0,none)]⟩:=
 ⟨by kernel_rfl,fun w=>by simp [isAgg,underlying,Tryz.underlying19],⟨_,Tryz.underlying19,⟨⟨rfl,fun w=>tyOk17.agg w,fun w=>tyOk17.size w,by simp⟩,trivial⟩⟩,rfl,rfl,(fun h=>by first|rfl|exact absurd h (by decide)),by rw [Tryz.underlying19];rfl⟩
theorem tyOk21:TyOk Tryz.prog 21 ⟨1,4,false,[.int .i32 0],.int .i32⟩:=
 ⟨by kernel_rfl,fun w=>by simp [isAgg,underlying,Tryz.underlying21],Tryz.underlying21,rfl,rfl,(fun h=>by first|rfl|exact absurd h (by decide)),by rw [Tryz.underlying21];rfl⟩
theorem tyOk22:TyOk Tryz.prog 22 ⟨1,24,false,[.slice none 0 0],.slice 40⟩:=
 ⟨by kernel_rfl,fun w=>by simp [isAgg,underlying,Tryz.underlying22],Tryz.underlying22,rfl,rfl,(fun h=>by first|rfl|exact absurd h (by decide)),by rw [Tryz.underlying22];rfl⟩
theorem tyOk23:TyOk Tryz.prog 23 ⟨1,24,false,[.slice none 0 0],.slice 45⟩:=
 ⟨by kernel_rfl,fun w=>by simp [isAgg,underlying,Tryz.underlying23],Tryz.underlying23,rfl,rfl,(fun h=>by first|rfl|exact absurd h (by decide)),by rw [Tryz.underlying23];rfl⟩
theorem tyOk24:TyOk Tryz.prog 24 ⟨2,48,true,[.slice none 0 0,.slice none 0 0],.struct [(0,none),(1,none)]⟩:=
 ⟨by kernel_rfl,fun w=>by simp [isAgg,underlying,Tryz.underlying24],⟨_,Tryz.underlying24,⟨⟨rfl,fun w=>tyOk22.agg w,fun w=>tyOk22.size w,by simp⟩,⟨rfl,fun w=>tyOk23.agg w,fun w=>tyOk23.size w,by simp⟩,trivial⟩⟩,rfl,rfl,(fun h=>by first|rfl|exact absurd h (by decide)),by rw [Tryz.underlying24];rfl⟩
theorem tyOk25:TyOk Tryz.prog 25 ⟨2,48,true,[.slice none 0 0,.slice none 0 0],.struct [(0,none),(1,none)]⟩:=
 ⟨by kernel_rfl,fun w=>by simp [isAgg,underlying,Tryz.underlying25],⟨_,Tryz.underlying25,⟨⟨rfl,fun w=>tyOk22.agg w,fun w=>tyOk22.size w,by simp⟩,⟨rfl,fun w=>tyOk23.agg w,fun w=>tyOk23.size w,by simp⟩,trivial⟩⟩,rfl,rfl,(fun h=>by first|rfl|exact absurd h (by decide)),by rw [Tryz.underlying25];rfl⟩
theorem tyOk26:TyOk Tryz.prog 26 ⟨1,8,false,[.int .i64 0],.int .i64⟩:=
 ⟨by kernel_rfl,fun w=>by simp [isAgg,underlying,Tryz.underlying26],Tryz.underlying26,rfl,rfl,(fun h=>by first|rfl|exact absurd h (by decide)),by rw [Tryz.underlying26];rfl⟩
theorem tyOk27:TyOk Tryz.prog 27 ⟨2,16,true,[.int .i64 0,.int .i64 0],.struct [(0,none),(1,none)]⟩:=
 ⟨by kernel_rfl,fun w=>by simp [isAgg,underlying,Tryz.underlying27],⟨_,Tryz.underlying27,⟨⟨rfl,fun w=>tyOk26.agg w,fun w=>tyOk26.size w,by simp⟩,⟨rfl,fun w=>tyOk3.agg w,fun w=>tyOk3.size w,by simp⟩,trivial⟩⟩,rfl,rfl,(fun h=>by first|rfl|exact absurd h (by decide)),by rw [Tryz.underlying27];rfl⟩
theorem tyOk28:TyOk Tryz.prog 28 ⟨2,16,true,[.int .i64 0,.int .i64 0],.struct [(0,none),(1,none)]⟩:=
 ⟨by kernel_rfl,fun w=>by simp [isAgg,underlying,Tryz.underlying28],⟨_,Tryz.underlying28,⟨⟨rfl,fun w=>tyOk26.agg w,fun w=>tyOk26.size w,by simp⟩,⟨rfl,fun w=>tyOk3.agg w,fun w=>tyOk3.size w,by simp⟩,trivial⟩⟩,rfl,rfl,(fun h=>by first|rfl|exact absurd h (by decide)),by rw [Tryz.underlying28];rfl⟩
theorem tyOk32:TyOk Tryz.prog 32 ⟨1,24,false,[.slice none 0 0],.slice 3⟩:=
 ⟨by kernel_rfl,fun w=>by simp [isAgg,underlying,Tryz.underlying32],Tryz.underlying32,rfl,rfl,(fun h=>by first|rfl|exact absurd h (by decide)),by rw [Tryz.underlying32];rfl⟩
theorem tyOk39:TyOk Tryz.prog 39 ⟨3,24,true,[.int .u8 0,.int .i64 0,.int .i64 0],.struct [(0,none),(1,none),(2,none)]⟩:=
 ⟨by kernel_rfl,fun w=>by simp [isAgg,underlying,Tryz.underlying39],⟨_,Tryz.underlying39,⟨⟨rfl,fun w=>tyOk5.agg w,fun w=>tyOk5.size w,by simp⟩,⟨rfl,fun w=>tyOk3.agg w,fun w=>tyOk3.size w,by simp⟩,⟨rfl,fun w=>tyOk3.agg w,fun w=>tyOk3.size w,by simp⟩,trivial⟩⟩,rfl,rfl,(fun h=>by first|rfl|exact absurd h (by decide)),by rw [Tryz.underlying39];rfl⟩
theorem tyOk40:TyOk Tryz.prog 40 ⟨3,24,true,[.int .u8 0,.int .i64 0,.int .i64 0],.struct [(0,none),(1,none),(2,none)]⟩:=
 ⟨by kernel_rfl,fun w=>by simp [isAgg,underlying,Tryz.underlying40],⟨_,Tryz.underlying40,⟨⟨rfl,fun w=>tyOk5.agg w,fun w=>tyOk5.size w,by simp⟩,⟨rfl,fun w=>tyOk3.agg w,fun w=>tyOk3.size w,by simp⟩,⟨rfl,fun w=>tyOk3.agg w,fun w=>tyOk3.size w,by simp⟩,trivial⟩⟩,rfl,rfl,(fun h=>by first|rfl|exact absurd h (by decide)),by rw [Tryz.underlying40];rfl⟩
theorem tyOk44:TyOk Tryz.prog 44 ⟨5,40,true,[.int .u8 0,.int .i64 0,.int .i64 0,.int .i64 0,.int .i64 0],.struct [(0,none),(1,none),(2,none),(3,none),(4,none)]⟩:=
 ⟨by kernel_rfl,fun w=>by simp [isAgg,underlying,Tryz.underlying44],⟨_,Tryz.underlying44,⟨⟨rfl,fun w=>tyOk5.agg w,fun w=>tyOk5.size w,by simp⟩,⟨rfl,fun w=>tyOk3.agg w,fun w=>tyOk3.size w,by simp⟩,⟨rfl,fun w=>tyOk3.agg w,fun w=>tyOk3.size w,by simp⟩,⟨rfl,fun w=>tyOk3.agg w,fun w=>tyOk3.size w,by simp⟩,⟨rfl,fun w=>tyOk3.agg w,fun w=>tyOk3.size w,by simp⟩,trivial⟩⟩,rfl,rfl,(fun h=>by first|rfl|exact absurd h (by decide)),by rw [Tryz.underlying44];rfl⟩
theorem tyOk45:TyOk Tryz.prog 45 ⟨5,40,true,[.int .u8 0,.int .i64 0,.int .i64 0,.int .i64 0,.int .i64 0],.struct [(0,none),(1,none),(2,none),(3,none),(4,none)]⟩:=
 ⟨by kernel_rfl,fun w=>by simp [isAgg,underlying,Tryz.underlying45],⟨_,Tryz.underlying45,⟨⟨rfl,fun w=>tyOk5.agg w,fun w=>tyOk5.size w,by simp⟩,⟨rfl,fun w=>tyOk3.agg w,fun w=>tyOk3.size w,by simp⟩,⟨rfl,fun w=>tyOk3.agg w,fun w=>tyOk3.size w,by simp⟩,⟨rfl,fun w=>tyOk3.agg w,fun w=>tyOk3.size w,by simp⟩,⟨rfl,fun w=>tyOk3.agg w,fun w=>tyOk3.size w,by simp⟩,trivial⟩⟩,rfl,rfl,(fun h=>by first|rfl|exact absurd h (by decide)),by rw [Tryz.underlying45];rfl⟩
theorem tyOk46:TyOk Tryz.prog 46 ⟨1,24,false,[.slice none 0 0],.slice 51⟩:=
 ⟨by kernel_rfl,fun w=>by simp [isAgg,underlying,Tryz.underlying46],Tryz.underlying46,rfl,rfl,(fun h=>by first|rfl|exact absurd h (by decide)),by rw [Tryz.underlying46];rfl⟩
theorem tyOk50:TyOk Tryz.prog 50 ⟨3,32,true,[.int .u8 0,.int .i64 0,.string ⟨#[]⟩],.struct [(0,none),(1,none),(2,none)]⟩:=
 ⟨by kernel_rfl,fun w=>by simp [isAgg,underlying,Tryz.underlying50],⟨_,Tryz.underlying50,⟨⟨rfl,fun w=>tyOk5.agg w,fun w=>tyOk5.size w,by simp⟩,⟨rfl,fun w=>tyOk3.agg w,fun w=>tyOk3.size w,by simp⟩,⟨rfl,fun w=>tyOk9.agg w,fun w=>tyOk9.size w,by simp⟩,trivial⟩⟩,rfl,rfl,(fun h=>by first|rfl|exact absurd h (by decide)),by rw [Tryz.underlying50];rfl⟩
theorem tyOk51:TyOk Tryz.prog 51 ⟨3,32,true,[.int .u8 0,.int .i64 0,.string ⟨#[]⟩],.struct [(0,none),(1,none),(2,none)]⟩:=
 ⟨by kernel_rfl,fun w=>by simp [isAgg,underlying,Tryz.underlying51],⟨_,Tryz.underlying51,⟨⟨rfl,fun w=>tyOk5.agg w,fun w=>tyOk5.size w,by simp⟩,⟨rfl,fun w=>tyOk3.agg w,fun w=>tyOk3.size w,by simp⟩,⟨rfl,fun w=>tyOk9.agg w,fun w=>tyOk9.size w,by simp⟩,trivial⟩⟩,rfl,rfl,(fun h=>by first|rfl|exact absurd h (by decide)),by rw [Tryz.underlying51];rfl⟩
theorem tyOk53:TyOk Tryz.prog 53 ⟨1,2,false,[.int .u16 0],.int .u16⟩:=
 ⟨by kernel_rfl,fun w=>by simp [isAgg,underlying,Tryz.underlying53],Tryz.underlying53,rfl,rfl,(fun h=>by first|rfl|exact absurd h (by decide)),by rw [Tryz.underlying53];rfl⟩
theorem tyOk54:TyOk Tryz.prog 54 ⟨1,24,false,[.slice none 0 0],.slice 9⟩:=
 ⟨by kernel_rfl,fun w=>by simp [isAgg,underlying,Tryz.underlying54],Tryz.underlying54,rfl,rfl,(fun h=>by first|rfl|exact absurd h (by decide)),by rw [Tryz.underlying54];rfl⟩
theorem tyOk55:TyOk Tryz.prog 55 ⟨1,24,false,[.slice none 0 0],.slice 5⟩:=
 ⟨by kernel_rfl,fun w=>by simp [isAgg,underlying,Tryz.underlying55],Tryz.underlying55,rfl,rfl,(fun h=>by first|rfl|exact absurd h (by decide)),by rw [Tryz.underlying55];rfl⟩
theorem tyOk57:TyOk Tryz.prog 57 ⟨1,24,false,[.slice none 0 0],.slice 90⟩:=
 ⟨by kernel_rfl,fun w=>by simp [isAgg,underlying,Tryz.underlying57],Tryz.underlying57,rfl,rfl,(fun h=>by first|rfl|exact absurd h (by decide)),by rw [Tryz.underlying57];rfl⟩
theorem tyOk63:TyOk Tryz.prog 63 ⟨1,8,false,[.pointer none],.ptr⟩:=
 ⟨by kernel_rfl,fun w=>by simp [isAgg,underlying,Tryz.underlying63],⟨_,Tryz.underlying63⟩,rfl,rfl,(fun h=>by first|rfl|exact absurd h (by decide)),by rw [Tryz.underlying63];rfl⟩
theorem tyOk66:TyOk Tryz.prog 66 ⟨1,8,false,[.nilFunc],.other⟩:=
 ⟨by kernel_rfl,fun w=>by simp [isAgg,underlying,Tryz.underlying66],trivial,rfl,rfl,(fun h=>by first|rfl|exact absurd h (by decide)),by rw [Tryz.underlying66];rfl⟩
theorem tyOk67:TyOk Tryz.prog 67 ⟨1,24,false,[.slice none 0 0],.slice 63⟩:=
 ⟨by kernel_rfl,fun w=>by simp [isAgg,underlying,Tryz.underlying67],Tryz.underlying67,rfl,rfl,(fun h=>by first|rfl|exact absurd h (by decide)),by rw [Tryz.underlying67];rfl⟩
theorem tyOk68:TyOk Tryz.prog 68 ⟨5,56,true,[.int .u8 0,.int .i64 0,.int .i64 0,.int .i64 0,.slice none 0 0],.struct [(0,none),(1,none),(2,none),(3,none),(4,none)]⟩:=
 ⟨by kernel_rfl,fun w=>by simp [isAgg,underlying,Tryz.underlying68],⟨_,Tryz.underlying68,⟨⟨rfl,fun w=>tyOk5.agg w,fun w=>tyOk5.size w,by simp⟩,⟨rfl,fun w=>tyOk3.agg w,fun w=>tyOk3.size w,by simp⟩,⟨rfl,fun w=>tyOk3.agg w,fun w=>tyOk3.size w,by simp⟩,⟨rfl,fun w=>tyOk3.agg w,fun w=>tyOk3.size w,by simp⟩,⟨rfl,fun w=>tyOk67.agg w,fun w=>tyOk67.size w,by simp⟩,trivial⟩⟩,rfl,rfl,(fun h=>by first|rfl|exact absurd h (by decide)),by rw [Tryz.underlying68];rfl⟩
theorem tyOk69:TyOk Tryz.prog 69 ⟨5,56,true,[.int .u8 0,.int .i64 0,.int .i64 0,.int .i64 0,.slice none 0 0],.struct [(0,none),(1,none),(2,none),(3,none),(4,none)]⟩:=
 ⟨by kernel_rfl,fun w=>by simp [isAgg,underlying,Tryz.underlying69],⟨_,Tryz.underlying69,⟨⟨rfl,fun w=>tyOk5.agg w,fun w=>tyOk5.size w,by simp⟩,⟨rfl,fun w=>tyOk3.agg w,fun w=>tyOk3.size w,by simp⟩,⟨rfl,fun w=>tyOk3.agg w,fun w=>tyOk3.size w,by simp⟩,⟨rfl,fun w=>tyOk3.agg w,fun w=>tyOk3.size w,by simp⟩,⟨rfl,fun w=>tyOk67.agg w,fun w=>tyOk67.size w,by simp⟩,trivial⟩⟩,rfl,rfl,(fun h=>by first|rfl|exact absurd h (by decide)),by rw [Tryz.underlying69];rfl⟩
theorem tyOk78:TyOk Tryz.prog 78 ⟨1,8,false,[.pointer none],.ptr⟩:=
 ⟨by kernel_rfl,fun w=>by simp [isAgg,underlying,Tryz.underlying78],⟨_,Tryz.underlying78⟩,rfl,rfl,(fun h=>by first|rfl|exact absurd h (by decide)),by rw [Tryz.underlying78];rfl⟩
theorem tyOk79:TyOk Tryz.prog 79 ⟨5,80,true,[.string ⟨#[]⟩,.slice none 0 0,.slice none 0 0,.int .i64 0,.bool false],.struct [(0,none),(1,none),(2,none),(3,none),(4,none)]⟩:=
 ⟨by kernel_rfl,fun w=>by simp [isAgg,underlying,Tryz.underlying79],⟨_,Tryz.underlying79,⟨⟨rfl,fun w=>tyOk9.agg w,fun w=>tyOk9.size w,by simp⟩,⟨rfl,fun w=>tyOk22.agg w,fun w=>tyOk22.size w,by simp⟩,⟨rfl,fun w=>tyOk32.agg w,fun w=>tyOk32.size w,by simp⟩,⟨rfl,fun w=>tyOk3.agg w,fun w=>tyOk3.size w,by simp⟩,⟨rfl,fun w=>tyOk4.agg w,fun w=>tyOk4.size w,by simp⟩,trivial⟩⟩,rfl,rfl,(fun h=>by first|rfl|exact absurd h (by decide)),by rw [Tryz.underlying79];rfl⟩
theorem tyOk80:TyOk Tryz.prog 80 ⟨5,80,true,[.string ⟨#[]⟩,.slice none 0 0,.slice none 0 0,.int .i64 0,.bool false],.struct [(0,none),(1,none),(2,none),(3,none),(4,none)]⟩:=
 ⟨by kernel_rfl,fun w=>by simp [isAgg,underlying,Tryz.underlying80],⟨_,Tryz.underlying80,⟨⟨rfl,fun w=>tyOk9.agg w,fun w=>tyOk9.size w,by simp⟩,⟨rfl,fun w=>tyOk22.agg w,fun w=>tyOk22.size w,by simp⟩,⟨rfl,fun w=>tyOk32.agg w,fun w=>tyOk32.size w,by simp⟩,⟨rfl,fun w=>tyOk3.agg w,fun w=>tyOk3.size w,by simp⟩,⟨rfl,fun w=>tyOk4.agg w,fun w=>tyOk4.size w,by simp⟩,trivial⟩⟩,rfl,rfl,(fun h=>by first|rfl|exact absurd h (by decide)),by rw [Tryz.underlying80];rfl⟩
theorem tyOk89:TyOk Tryz.prog 89 ⟨2,16,true,[.int .u8 0,.int .i64 0],.struct [(0,none),(1,none)]⟩:=
 ⟨by kernel_rfl,fun w=>by simp [isAgg,underlying,Tryz.underlying89],⟨_,Tryz.underlying89,⟨⟨rfl,fun w=>tyOk5.agg w,fun w=>tyOk5.size w,by simp⟩,⟨rfl,fun w=>tyOk3.agg w,fun w=>tyOk3.size w,by simp⟩,trivial⟩⟩,rfl,rfl,(fun h=>by first|rfl|exact absurd h (by decide)),by rw [Tryz.underlying89];rfl⟩
theorem tyOk90:TyOk Tryz.prog 90 ⟨2,16,true,[.int .u8 0,.int .i64 0],.struct [(0,none),(1,none)]⟩:=
 ⟨by kernel_rfl,fun w=>by simp [isAgg,underlying,Tryz.underlying90],⟨_,Tryz.underlying90,⟨⟨rfl,fun w=>tyOk5.agg w,fun w=>tyOk5.size w,by simp⟩,⟨rfl,fun w=>tyOk3.agg w,fun w=>tyOk3.size w,by simp⟩,trivial⟩⟩,rfl,rfl,(fun h=>by first|rfl|exact absurd h (by decide)),by rw [Tryz.underlying90];rfl⟩
theorem tyOk93:TyOk Tryz.prog 93 ⟨100,800,true,[.int .i64 0,.int .i64 0,.int .i64 0,.int .i64 0,.int .i64 0,.int .i64 0,.int .i64 0,.int .i64 0,.int .i64 0,.int .i64 0,.int .i64 0,.int .i64 0,.int .i64 0,.int .i64 0,.int .i64 0,.int .i64 0,.int .i64 0,.int .i64 0,.int .i64 0,.int .i64 0,.int .i64 0,.int .i64 0,.int .i64 0,.int .i64 0,.int .i64 0,.int .i64 0,.int .i64 0,.int .i64 0,.int .i64 0,.int .i64 0,.int .i64 0,.int .i64 0,.int .i64 0,.int .i64 0,.int .i64 0,.int .i64 0,.int .i64 0,.int .i64 0,.int .i64 0,.int .i64 0,.int .i64 0,.int .i64 0,.int .i64 0,.int .i64 0,.int .i64 0,.int .i64 0,.int .i64 0,.int .i64 0,.int .i64 0,.int .i64 0,.int .i64 0,.int .i64 0,.int .i64 0,.int .i64 0,.int .i64 0,.int .i64 0,.int .i64 0,.int .i64 0,.int .i64 0,.int .i64 0,.int .i64 0,.int .i64 0,.int .i64 0,.int .i64 0,.int .i64 0,.int .i64 0,.int .i64 0,.int .i64 0,.int .i64 0,.int .i64 0,.int .i64 0,.int .i64 0,.int .i64 0,.int .i64 0,.int .i64 0,.int .i64 0,.int .i64 0,.int .i64 0,.int .i64 0,.int .i64 0,.int .i64 0,.int .i64 0,.int .i64 0,.int .i64 0,.int .i64 0,.int .i64 0,.int .i64 0,.int .i64 0,.int .i64 0,.int .i64 0,.int .i64 0,.int .i64 0,.int .i64 0,.int .i64 0,.int .i64 0,.int .i64 0,.int .i64 0,.int .i64 0,.int .i64 0,.int .i64 0],.arr 100 3⟩:=
 ⟨by kernel_rfl,fun w=>by simp [isAgg,underlying,Tryz.underlying93],Tryz.underlying93,rfl,rfl,(fun h=>by first|rfl|exact absurd h (by decide)),by rw [Tryz.underlying93];rfl⟩
theorem tyOk96:TyOk Tryz.prog 96 ⟨1,24,false,[.slice none 0 0],.slice 99⟩:=
 ⟨by kernel_rfl,fun w=>by simp [isAgg,underlying,Tryz.underlying96],Tryz.underlying96,rfl,rfl,(fun h=>by first|rfl|exact absurd h (by decide)),by rw [Tryz.underlying96];rfl⟩
theorem tyOk97:TyOk Tryz.prog 97 ⟨1,8,false,[.pointer none],.ptr⟩:=
 ⟨by kernel_rfl,fun w=>by simp [isAgg,underlying,Tryz.underlying97],⟨_,Tryz.underlying97⟩,rfl,rfl,(fun h=>by first|rfl|exact absurd h (by decide)),by rw [Tryz.underlying97];rfl⟩
theorem tyOk98:TyOk Tryz.prog 98 ⟨3,24,true,[.int .i64 0,.int .i64 0,.int .i64 0],.struct [(0,none),(1,none),(2,none)]⟩:=
 ⟨by kernel_rfl,fun w=>by simp [isAgg,underlying,Tryz.underlying98],⟨_,Tryz.underlying98,⟨⟨rfl,fun w=>tyOk3.agg w,fun w=>tyOk3.size w,by simp⟩,⟨rfl,fun w=>tyOk3.agg w,fun w=>tyOk3.size w,by simp⟩,⟨rfl,fun w=>tyOk3.agg w,fun w=>tyOk3.size w,by simp⟩,trivial⟩⟩,rfl,rfl,(fun h=>by first|rfl|exact absurd h (by decide)),by rw [Tryz.underlying98];rfl⟩
theorem tyOk99:TyOk Tryz.prog 99 ⟨3,24,true,[.int .i64 0,.int .i64 0,.int .i64 0],.struct [(0,none),(1,none),(2,none)]⟩:=
 ⟨by kernel_rfl,fun w=>by simp [isAgg,underlying,Tryz.underlying99],⟨_,Tryz.underlying99,⟨⟨rfl,fun w=>tyOk3.agg w,fun w=>tyOk3.size w,by simp⟩,⟨rfl,fun w=>tyOk3.agg w,fun w=>tyOk3.size w,by simp⟩,⟨rfl,fun w=>tyOk3.agg w,fun w=>tyOk3.size w,by simp⟩,trivial⟩⟩,rfl,rfl,(fun h=>by first|rfl|exact absurd h (by decide)),by rw [Tryz.underlying99];rfl⟩
theorem tyOk108:TyOk Tryz.prog 108 ⟨1,24,false,[.slice none 0 0],.slice 115⟩:=
 ⟨by kernel_rfl,fun w=>by simp [isAgg,underlying,Tryz.underlying108],Tryz.underlying108,rfl,rfl,(fun h=>by first|rfl|exact absurd h (by decide)),by rw [Tryz.underlying108];rfl⟩
theorem tyOk110:TyOk Tryz.prog 110 ⟨1,24,false,[.slice none 0 0],.slice 112⟩:=
 ⟨by kernel_rfl,fun w=>by simp [isAgg,underlying,Tryz.underlying110],Tryz.underlying110,rfl,rfl,(fun h=>by first|rfl|exact absurd h (by decide)),by rw [Tryz.underlying110];rfl⟩
theorem tyOk112:TyOk Tryz.prog 112 ⟨1,8,false,[.pointer none],.ptr⟩:=
 ⟨by kernel_rfl,fun w=>by simp [isAgg,underlying,Tryz.underlying112],⟨_,Tryz.underlying112⟩,rfl,rfl,(fun h=>by first|rfl|exact absurd h (by decide)),by rw [Tryz.underlying112];rfl⟩
theorem tyOk113:TyOk Tryz.prog 113 ⟨1,8,false,[.nilFunc],.other⟩:=
 ⟨by kernel_rfl,fun w=>by simp [isAgg,underlying,Tryz.underlying113],trivial,rfl,rfl,(fun h=>by first|rfl|exact absurd h (by decide)),by rw [Tryz.underlying113];rfl⟩
theorem tyOk114:TyOk Tryz.prog 114 ⟨2,16,true,[.int .u8 0,.nilFunc],.struct [(0,none),(1,none)]⟩:=
 ⟨by kernel_rfl,fun w=>by simp [isAgg,underlying,Tryz.underlying114],⟨_,Tryz.underlying114,⟨⟨rfl,fun w=>tyOk5.agg w,fun w=>tyOk5.size w,by simp⟩,⟨rfl,fun w=>tyOk113.agg w,fun w=>tyOk113.size w,by simp⟩,trivial⟩⟩,rfl,rfl,(fun h=>by first|rfl|exact absurd h (by decide)),by rw [Tryz.underlying114];rfl⟩
theorem tyOk115:TyOk Tryz.prog 115 ⟨2,16,true,[.int .u8 0,.nilFunc],.struct [(0,none),(1,none)]⟩:=
 ⟨by kernel_rfl,fun w=>by simp [isAgg,underlying,Tryz.underlying115],⟨_,Tryz.underlying115,⟨⟨rfl,fun w=>tyOk5.agg w,fun w=>tyOk5.size w,by simp⟩,⟨rfl,fun w=>tyOk113.agg w,fun w=>tyOk113.size w,by simp⟩,trivial⟩⟩,rfl,rfl,(fun h=>by first|rfl|exact absurd h (by decide)),by rw [Tryz.underlying115];rfl⟩
theorem tyOk116:TyOk Tryz.prog 116 ⟨7,80,true,[.int .u8 0,.int .i64 0,.string ⟨#[]⟩,.int .i64 0,.pointer none,.int .i64 0,.slice none 0 0],.struct [(0,some 3),(3,none),(4,none),(5,none),(6,none)]⟩:=
 ⟨by kernel_rfl,fun w=>by simp [isAgg,underlying,Tryz.underlying116],⟨_,Tryz.underlying116,⟨⟨rfl,fun w=>tyOk51.agg w,fun w=>tyOk51.size w,by simp⟩,⟨rfl,fun w=>tyOk3.agg w,fun w=>tyOk3.size w,by simp⟩,⟨rfl,fun w=>tyOk112.agg w,fun w=>tyOk112.size w,by simp⟩,⟨rfl,fun w=>tyOk3.agg w,fun w=>tyOk3.size w,by simp⟩,⟨rfl,fun w=>tyOk110.agg w,fun w=>tyOk110.size w,by simp⟩,trivial⟩⟩,rfl,rfl,(fun h=>by first|rfl|exact absurd h (by decide)),by rw [Tryz.underlying116];rfl⟩
theorem tyOk117:TyOk Tryz.prog 117 ⟨7,80,true,[.int .u8 0,.int .i64 0,.string ⟨#[]⟩,.int .i64 0,.pointer none,.int .i64 0,.slice none 0 0],.struct [(0,some 3),(3,none),(4,none),(5,none),(6,none)]⟩:=
 ⟨by kernel_rfl,fun w=>by simp [isAgg,underlying,Tryz.underlying117],⟨_,Tryz.underlying117,⟨⟨rfl,fun w=>tyOk51.agg w,fun w=>tyOk51.size w,by simp⟩,⟨rfl,fun w=>tyOk3.agg w,fun w=>tyOk3.size w,by simp⟩,⟨rfl,fun w=>tyOk112.agg w,fun w=>tyOk112.size w,by simp⟩,⟨rfl,fun w=>tyOk3.agg w,fun w=>tyOk3.size w,by simp⟩,⟨rfl,fun w=>tyOk110.agg w,fun w=>tyOk110.size w,by simp⟩,trivial⟩⟩,rfl,rfl,(fun h=>by first|rfl|exact absurd h (by decide)),by rw [Tryz.underlying117];rfl⟩
theorem tyOk118:TyOk Tryz.prog 118 ⟨1,8,false,[.int .i64 0],.int .i64⟩:=
 ⟨by kernel_rfl,fun w=>by simp [isAgg,underlying,Tryz.underlying118],Tryz.underlying118,rfl,rfl,(fun h=>by first|rfl|exact absurd h (by decide)),by rw [Tryz.underlying118];rfl⟩
theorem tyOk119:TyOk Tryz.prog 119 ⟨1,8,false,[.nilFunc],.other⟩:=
 ⟨by kernel_rfl,fun w=>by simp [isAgg,underlying,Tryz.underlying119],trivial,rfl,rfl,(fun h=>by first|rfl|exact absurd h (by decide)),by rw [Tryz.underlying119];rfl⟩
theorem tyOk148:TyOk Tryz.prog 148 ⟨1,8,false,[.pointer none],.ptr⟩:=
 ⟨by kernel_rfl,fun w=>by simp [isAgg,underlying,Tryz.underlying148],⟨_,Tryz.underlying148⟩,rfl,rfl,(fun h=>by first|rfl|exact absurd h (by decide)),by rw [Tryz.underlying148];rfl⟩
theorem tyOk149:TyOk Tryz.prog 149 ⟨2,8,true,[.int .i32 0,.int .i32 0],.struct [(0,none),(1,none)]⟩:=
 ⟨by kernel_rfl,fun w=>by simp [isAgg,underlying,Tryz.underlying149],⟨_,Tryz.underlying149,⟨⟨rfl,fun w=>tyOk21.agg w,fun w=>tyOk21.size w,by simp⟩,⟨rfl,fun w=>tyOk21.agg w,fun w=>tyOk21.size w,by simp⟩,trivial⟩⟩,rfl,rfl,(fun h=>by first|rfl|exact absurd h (by decide)),by rw [Tryz.underlying149];rfl⟩
theorem tyOk150:TyOk Tryz.prog 150 ⟨2,8,true,[.int .i32 0,.int .i32 0],.struct [(0,none),(1,none)]⟩:=
 ⟨by kernel_rfl,fun w=>by simp [isAgg,underlying,Tryz.underlying150],⟨_,Tryz.underlying150,⟨⟨rfl,fun w=>tyOk21.agg w,fun w=>tyOk21.size w,by simp⟩,⟨rfl,fun w=>tyOk21.agg w,fun w=>tyOk21.size w,by simp⟩,trivial⟩⟩,rfl,rfl,(fun h=>by first|rfl|exact absurd h (by decide)),by rw [Tryz.underlying150];rfl⟩
theorem tyOk151:TyOk Tryz.prog 151 ⟨66,264,true,[.int .i32 0,.int .i32 0,.int .i32 0,.int .i32 0,.int .i32 0,.int .i32 0,.int .i32 0,.int .i32 0,.int .i32 0,.int .i32 0,.int .i32 0,.int .i32 0,.int .i32 0,.int .i32 0,.int .i32 0,.int .i32 0,.int .i32 0,.int .i32 0,.int .i32 0,.int .i32 0,.int .i32 0,.int .i32 0,.int .i32 0,.int .i32 0,.int .i32 0,.int .i32 0,.int .i32 0,.int .i32 0,.int .i32 0,.int .i32 0,.int .i32 0,.int .i32 0,.int .i32 0,.int .i32 0,.int .i32 0,.int .i32 0,.int .i32 0,.int .i32 0,.int .i32 0,.int .i32 0,.int .i32 0,.int .i32 0,.int .i32 0,.int .i32 0,.int .i32 0,.int .i32 0,.int .i32 0,.int .i32 0,.int .i32 0,.int .i32 0,.int .i32 0,.int .i32 0,.int .i32 0,.int .i32 0,.int .i32 0,.int .i32 0,.int .i32 0,.int .i32 0,.int .i32 0,.int .i32 0,.int .i32 0,.int .i32 0,.int .i32 0,.int .i32 0,.int .i32 0,.int .i32 0],.arr 33 150⟩:=
 ⟨by kernel_rfl,fun w=>by simp [isAgg,underlying,Tryz.underlying151],Tryz.underlying151,rfl,rfl,(fun h=>by first|rfl|exact absurd h (by decide)),by rw [Tryz.underlying151];rfl⟩
theorem tyOk156:TyOk Tryz.prog 156 ⟨1,8,false,[.int .u64 0],.int .u64⟩:=
 ⟨by kernel_rfl,fun w=>by simp [isAgg,underlying,Tryz.underlying156],Tryz.underlying156,rfl,rfl,(fun h=>by first|rfl|exact absurd h (by decide)),by rw [Tryz.underlying156];rfl⟩
theorem tyOk157:TyOk Tryz.prog 157 ⟨5,20,true,[.int .i32 0,.int .i32 0,.int .i32 0,.int .i32 0,.int .i32 0],.arr 5 21⟩:=
 ⟨by kernel_rfl,fun w=>by simp [isAgg,underlying,Tryz.underlying157],Tryz.underlying157,rfl,rfl,(fun h=>by first|rfl|exact absurd h (by decide)),by rw [Tryz.underlying157];rfl⟩
theorem tyOk159:TyOk Tryz.prog 159 ⟨1,8,false,[.pointer none],.ptr⟩:=
 ⟨by kernel_rfl,fun w=>by simp [isAgg,underlying,Tryz.underlying159],⟨_,Tryz.underlying159⟩,rfl,rfl,(fun h=>by first|rfl|exact absurd h (by decide)),by rw [Tryz.underlying159];rfl⟩
theorem tyOk160:TyOk Tryz.prog 160 ⟨5,64,true,[.string ⟨#[]⟩,.int .i64 0,.int .u8 0,.slice none 0 0,.bool false],.struct [(0,none),(1,none),(2,none),(3,none),(4,none)]⟩:=
 ⟨by kernel_rfl,fun w=>by simp [isAgg,underlying,Tryz.underlying160],⟨_,Tryz.underlying160,⟨⟨rfl,fun w=>tyOk9.agg w,fun w=>tyOk9.size w,by simp⟩,⟨rfl,fun w=>tyOk3.agg w,fun w=>tyOk3.size w,by simp⟩,⟨rfl,fun w=>tyOk5.agg w,fun w=>tyOk5.size w,by simp⟩,⟨rfl,fun w=>tyOk55.agg w,fun w=>tyOk55.size w,by simp⟩,⟨rfl,fun w=>tyOk4.agg w,fun w=>tyOk4.size w,by simp⟩,trivial⟩⟩,rfl,rfl,(fun h=>by first|rfl|exact absurd h (by decide)),by rw [Tryz.underlying160];rfl⟩
theorem tyOk161:TyOk Tryz.prog 161 ⟨5,64,true,[.string ⟨#[]⟩,.int .i64 0,.int .u8 0,.slice none 0 0,.bool false],.struct [(0,none),(1,none),(2,none),(3,none),(4,none)]⟩:=
 ⟨by kernel_rfl,fun w=>by simp [isAgg,underlying,Tryz.underlying161],⟨_,Tryz.underlying161,⟨⟨rfl,fun w=>tyOk9.agg w,fun w=>tyOk9.size w,by simp⟩,⟨rfl,fun w=>tyOk3.agg w,fun w=>tyOk3.size w,by simp⟩,⟨rfl,fun w=>tyOk5.agg w,fun w=>tyOk5.size w,by simp⟩,⟨rfl,fun w=>tyOk55.agg w,fun w=>tyOk55.size w,by simp⟩,⟨rfl,fun w=>tyOk4.agg w,fun w=>tyOk4.size w,by simp⟩,trivial⟩⟩,rfl,rfl,(fun h=>by first|rfl|exact absurd h (by decide)),by rw [Tryz.underlying161];rfl⟩
theorem tyOk171:TyOk Tryz.prog 171 ⟨1,4,false,[.int .u32 0],.int .u32⟩:=
 ⟨by kernel_rfl,fun w=>by simp [isAgg,underlying,Tryz.underlying171],Tryz.underlying171,rfl,rfl,(fun h=>by first|rfl|exact absurd h (by decide)),by rw [Tryz.underlying171];rfl⟩
theorem tyOk182:TyOk Tryz.prog 182 ⟨2,2,true,[.int .u8 0,.int .u8 0],.struct [(0,none),(1,none)]⟩:=
 ⟨by kernel_rfl,fun w=>by simp [isAgg,underlying,Tryz.underlying182],⟨_,Tryz.underlying182,⟨⟨rfl,fun w=>tyOk5.agg w,fun w=>tyOk5.size w,by simp⟩,⟨rfl,fun w=>tyOk5.agg w,fun w=>tyOk5.size w,by simp⟩,trivial⟩⟩,rfl,rfl,(fun h=>by first|rfl|exact absurd h (by decide)),by rw [Tryz.underlying182];rfl⟩
theorem tyOk183:TyOk Tryz.prog 183 ⟨2,2,true,[.int .u8 0,.int .u8 0],.struct [(0,none),(1,none)]⟩:=
 ⟨by kernel_rfl,fun w=>by simp [isAgg,underlying,Tryz.underlying183],⟨_,Tryz.underlying183,⟨⟨rfl,fun w=>tyOk5.agg w,fun w=>tyOk5.size w,by simp⟩,⟨rfl,fun w=>tyOk5.agg w,fun w=>tyOk5.size w,by simp⟩,trivial⟩⟩,rfl,rfl,(fun h=>by first|rfl|exact absurd h (by decide)),by rw [Tryz.underlying183];rfl⟩
theorem tyOk184:TyOk Tryz.prog 184 ⟨32,32,true,[.int .u8 0,.int .u8 0,.int .u8 0,.int .u8 0,.int .u8 0,.int .u8 0,.int .u8 0,.int .u8 0,.int .u8 0,.int .u8 0,.int .u8 0,.int .u8 0,.int .u8 0,.int .u8 0,.int .u8 0,.int .u8 0,.int .u8 0,.int .u8 0,.int .u8 0,.int .u8 0,.int .u8 0,.int .u8 0,.int .u8 0,.int .u8 0,.int .u8 0,.int .u8 0,.int .u8 0,.int .u8 0,.int .u8 0,.int .u8 0,.int .u8 0,.int .u8 0],.arr 16 183⟩:=
 ⟨by kernel_rfl,fun w=>by simp [isAgg,underlying,Tryz.underlying184],Tryz.underlying184,rfl,rfl,(fun h=>by first|rfl|exact absurd h (by decide)),by rw [Tryz.underlying184];rfl⟩
theorem tyOk186:TyOk Tryz.prog 186 ⟨1,8,false,[.pointer none],.ptr⟩:=
 ⟨by kernel_rfl,fun w=>by simp [isAgg,underlying,Tryz.underlying186],⟨_,Tryz.underlying186⟩,rfl,rfl,(fun h=>by first|rfl|exact absurd h (by decide)),by rw [Tryz.underlying186];rfl⟩
theorem tyOk187:TyOk Tryz.prog 187 ⟨2,32,true,[.pointer none,.slice none 0 0],.struct [(0,none),(1,none)]⟩:=
 ⟨by kernel_rfl,fun w=>by simp [isAgg,underlying,Tryz.underlying187],⟨_,Tryz.underlying187,⟨⟨rfl,fun w=>tyOk186.agg w,fun w=>tyOk186.size w,by simp⟩,⟨rfl,fun w=>tyOk55.agg w,fun w=>tyOk55.size w,by simp⟩,trivial⟩⟩,rfl,rfl,(fun h=>by first|rfl|exact absurd h (by decide)),by rw [Tryz.underlying187];rfl⟩
theorem tyOk188:TyOk Tryz.prog 188 ⟨2,32,true,[.pointer none,.slice none 0 0],.struct [(0,none),(1,none)]⟩:=
 ⟨by kernel_rfl,fun w=>by simp [isAgg,underlying,Tryz.underlying188],⟨_,Tryz.underlying188,⟨⟨rfl,fun w=>tyOk186.agg w,fun w=>tyOk186.size w,by simp⟩,⟨rfl,fun w=>tyOk55.agg w,fun w=>tyOk55.size w,by simp⟩,trivial⟩⟩,rfl,rfl,(fun h=>by first|rfl|exact absurd h (by decide)),by rw [Tryz.underlying188];rfl⟩
theorem tyOk198:TyOk Tryz.prog 198 ⟨1,8,false,[.pointer none],.ptr⟩:=
 ⟨by kernel_rfl,fun w=>by simp [isAgg,underlying,Tryz.underlying198],⟨_,Tryz.underlying198⟩,rfl,rfl,(fun h=>by first|rfl|exact absurd h (by decide)),by rw [Tryz.underlying198];rfl⟩
theorem tyOk207:TyOk Tryz.prog 207 ⟨4,40,true,[.pointer none,.pointer none,.pointer none,.string ⟨#[]⟩],.struct [(0,none),(1,none),(2,none),(3,none)]⟩:=
 ⟨by kernel_rfl,fun w=>by simp [isAgg,underlying,Tryz.underlying207],⟨_,Tryz.underlying207,⟨⟨rfl,fun w=>tyOk17.agg w,fun w=>tyOk17.size w,by simp⟩,⟨rfl,fun w=>tyOk17.agg w,fun w=>tyOk17.size w,by simp⟩,⟨rfl,fun w=>tyOk17.agg w,fun w=>tyOk17.size w,by simp⟩,⟨rfl,fun w=>tyOk9.agg w,fun w=>tyOk9.size w,by simp⟩,trivial⟩⟩,rfl,rfl,(fun h=>by first|rfl|exact absurd h (by decide)),by rw [Tryz.underlying207];rfl⟩
theorem tyOk208:TyOk Tryz.prog 208 ⟨4,40,true,[.pointer none,.pointer none,.pointer none,.string ⟨#[]⟩],.struct [(0,none),(1,none),(2,none),(3,none)]⟩:=
 ⟨by kernel_rfl,fun w=>by simp [isAgg,underlying,Tryz.underlying208],⟨_,Tryz.underlying208,⟨⟨rfl,fun w=>tyOk17.agg w,fun w=>tyOk17.size w,by simp⟩,⟨rfl,fun w=>tyOk17.agg w,fun w=>tyOk17.size w,by simp⟩,⟨rfl,fun w=>tyOk17.agg w,fun w=>tyOk17.size w,by simp⟩,⟨rfl,fun w=>tyOk9.agg w,fun w=>tyOk9.size w,by simp⟩,trivial⟩⟩,rfl,rfl,(fun h=>by first|rfl|exact absurd h (by decide)),by rw [Tryz.underlying208];rfl⟩
theorem tyOk213:TyOk Tryz.prog 213 ⟨1,1,false,[.int .u8 0],.int .u8⟩:=
 ⟨by kernel_rfl,fun w=>by simp [isAgg,underlying,Tryz.underlying213],Tryz.underlying213,rfl,rfl,(fun h=>by first|rfl|exact absurd h (by decide)),by rw [Tryz.underlying213];rfl⟩
theorem tyOk214:TyOk Tryz.prog 214 ⟨1,1,false,[.int .u8 0],.int .u8⟩:=
 ⟨by kernel_rfl,fun w=>by simp [isAgg,underlying,Tryz.underlying214],Tryz.underlying214,rfl,rfl,(fun h=>by first|rfl|exact absurd h (by decide)),by rw [Tryz.underlying214];rfl⟩
theorem tyOk216:TyOk Tryz.prog 216 ⟨1,4,false,[.int .i32 0],.int .i32⟩:=
 ⟨by kernel_rfl,fun w=>by simp [isAgg,underlying,Tryz.underlying216],Tryz.underlying216,rfl,rfl,(fun h=>by first|rfl|exact absurd h (by decide)),by rw [Tryz.underlying216];rfl⟩
theorem tyOk217:TyOk Tryz.prog 217 ⟨1,4,false,[.int .i32 0],.int .i32⟩:=
 ⟨by kernel_rfl,fun w=>by simp [isAgg,underlying,Tryz.underlying217],Tryz.underlying217,rfl,rfl,(fun h=>by first|rfl|exact absurd h (by decide)),by rw [Tryz.underlying217];rfl⟩
theorem tO:TysOk Tryz.prog ty:=by
 intro t i h
 unfold ty at h
 split at h
 ·cases h;exact tyOk2
 ·cases h;exact tyOk3
 ·cases h;exact tyOk4
 ·cases h;exact tyOk5
 ·cases h;exact tyOk6
 ·cases h;exact tyOk7
 ·cases h;exact tyOk8
 ·cases h;exact tyOk9
 ·cases h;exact tyOk10
 ·cases h;exact tyOk11
 ·cases h;exact tyOk12
 ·cases h;exact tyOk13
 ·cases h;exact tyOk14
 ·cases h;exact tyOk15
 ·cases h;exact tyOk16
 ·cases h;exact tyOk17
 ·cases h;exact tyOk18
 ·cases h;exact tyOk19
 ·cases h;exact tyOk21
 ·cases h;exact tyOk22
 ·cases h;exact tyOk23
 ·cases h;exact tyOk24
 ·cases h;exact tyOk25
 ·cases h;exact tyOk26
 ·cases h;exact tyOk27
 ·cases h;exact tyOk28
 ·cases h;exact tyOk32
 ·cases h;exact tyOk39
 ·cases h;exact tyOk40
 ·cases h;exact tyOk44
 ·cases h;exact tyOk45
 ·cases h;exact tyOk46
 ·cases h;exact tyOk50
 ·cases h;exact tyOk51
 ·cases h;exact tyOk53
 ·cases h;exact tyOk54
 ·cases h;exact tyOk55
 ·cases h;exact tyOk57
 ·cases h;exact tyOk63
 ·cases h;exact tyOk66
 ·cases h;exact tyOk67
 ·cases h;exact tyOk68
 ·cases h;exact tyOk69
 ·cases h;exact tyOk78
 ·cases h;exact tyOk79
 ·cases h;exact tyOk80
 ·cases h;exact tyOk89
 ·cases h;exact tyOk90
 ·cases h;exact tyOk93
 ·cases h;exact tyOk96
 ·cases h;exact tyOk97
 ·cases h;exact tyOk98
 ·cases h;exact tyOk99
 ·cases h;exact tyOk108
 ·cases h;exact tyOk110
 ·cases h;exact tyOk112
 ·cases h;exact tyOk113
 ·cases h;exact tyOk114
 ·cases h;exact tyOk115
 ·cases h;exact tyOk116
 ·cases h;exact tyOk117
 ·cases h;exact tyOk118
 ·cases h;exact tyOk119
 ·cases h;exact tyOk148
 ·cases h;exact tyOk149
 ·cases h;exact tyOk150
 ·cases h;exact tyOk151
 ·cases h;exact tyOk156
 ·cases h;exact tyOk157
 ·cases h;exact tyOk159
 ·cases h;exact tyOk160
 ·cases h;exact tyOk161
 ·cases h;exact tyOk171
 ·cases h;exact tyOk182
 ·cases h;exact tyOk183
 ·cases h;exact tyOk184
 ·cases h;exact tyOk186
 ·cases h;exact tyOk187
 ·cases h;exact tyOk188
 ·cases h;exact tyOk198
 ·cases h;exact tyOk207
 ·cases h;exact tyOk208
 ·cases h;exact tyOk213
 ·cases h;exact tyOk214
 ·cases h;exact tyOk216
 ·cases h;exact tyOk217
 ·cases h
theorem mixed:Tryz.prog.follows .mixedOrders=true:=by kernel_rfl
end Go.Ex
