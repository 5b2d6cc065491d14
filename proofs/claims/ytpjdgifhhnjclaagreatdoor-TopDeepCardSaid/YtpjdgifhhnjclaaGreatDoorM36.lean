/-
  Top: TopDeep: whatever the input, the law answers true (part 36)
-/
import Derived.Test.YtpjdgifhhnjclaaGreatDoorM29
import Derived.Test.YtpjdgifhhnjclaaGreatDoorM35
set_option linter.unusedVariables false
set_option linter.unusedSimpArgs false
set_option maxHeartbeats 4000000
set_option maxRecDepth 10000
namespace Go.Ex
open Go.Proofs
attribute [local irreducible] CH CsP word kindT
theorem name_sure{I:In}{n:Int}(h:kindT I n=1):nameS I n = .ok (leafN 26 n) (n+1):=by rw [nameS,if_pos h]
section
variable {I:In}{M:Loc}{g:Gt}{N:Int}{t:Bool}{n:Int}
theorem stmt_w0_con(ok:InOk I)(H:Hyp I M g N)(w0:word I n=(⟨#[99,111,110,115,116]⟩:ByteArray))(hn:0≤n∧n≤I.L)(hN:32*(I.L+1-n)+20≤N):Con I M 144 [] (stmtS I g t n) t n 1:=fun br h hs hB=>by
 refine eP (rep:=rep) (m:=1) (ex:=[0,2,3,4,5,6,7,15,34,50]) (cu:=[]) (args:=[.own 900 br 0]) tO Tryz.func144 rfl (by decide) (rs:=[.tmp 2]) rfl rfl rfl hs ?_
 have W:=Wd.start ok hB
 have hl:=ok.len
 have hv:((⟨#[99,111,110,115,116]⟩:ByteArray),fnv 198)∈rsL:=by simp [rsL]
 have hlt:=(word_lt (I:=I) (n:=n) (by rw [w0];decide)).2
 ((repeat' ((conv=>whnf);(first|(apply CK.pure;(case hh=>(intro h1 hs;first|exact next_e W.ok W.base hs rfl (by assumption))))|(refine CK.con W (H (.declared) _ _ (by simp only [need,rank];omega) ⟨by omega,by omega⟩ (by (simp only [fpre];omega))) rfl rfl (fun x hx=>?_) (fun x m bq h' hx hm1 hm2=>?_);rotate_left;(try dsimp only [fstr] at hm1);(conv=>whnf);intro W)|(refine CK.readers W rfl ?_;intro bm h' hM hbm W;(conv=>whnf))|(refine OpX.lookY rfl rfl rfl hM hbm hv ?_)|fail)));all_goals (try (conv=>whnf)))
 all_goals first|(refine⟨fun h' hs=>W.fin hs rfl (by repeat (first|exact List.Mem.head _|apply List.Mem.tail)) ?_ ⟨by omega,by omega⟩⟩;(simp [stmtS,bnd,want, *];done))|(simp [stmtS,bnd,want, *];done)|contradiction
theorem stmt_w1_con(ok:InOk I)(H:Hyp I M g N)(w1:word I n=(⟨#[118,97,114]⟩:ByteArray))(hn:0≤n∧n≤I.L)(hN:32*(I.L+1-n)+20≤N):Con I M 144 [] (stmtS I g t n) t n 1:=fun br h hs hB=>by
 refine eP (rep:=rep) (m:=1) (ex:=[0,2,3,4,5,6,7,15,34,50]) (cu:=[]) (args:=[.own 900 br 0]) tO Tryz.func144 rfl (by decide) (rs:=[.tmp 2]) rfl rfl rfl hs ?_
 have W:=Wd.start ok hB
 have hl:=ok.len
 have hv:((⟨#[118,97,114]⟩:ByteArray),fnv 198)∈rsL:=by simp [rsL]
 have hlt:=(word_lt (I:=I) (n:=n) (by rw [w1];decide)).2
 ((repeat' ((conv=>whnf);(first|(apply CK.pure;(case hh=>(intro h1 hs;first|exact next_e W.ok W.base hs rfl (by assumption))))|(refine CK.con W (H (.declared) _ _ (by simp only [need,rank];omega) ⟨by omega,by omega⟩ (by (simp only [fpre];omega))) rfl rfl (fun x hx=>?_) (fun x m bq h' hx hm1 hm2=>?_);rotate_left;(try dsimp only [fstr] at hm1);(conv=>whnf);intro W)|(refine CK.readers W rfl ?_;intro bm h' hM hbm W;(conv=>whnf))|(refine OpX.lookY rfl rfl rfl hM hbm hv ?_)|fail)));all_goals (try (conv=>whnf)))
 all_goals first|(refine⟨fun h' hs=>W.fin hs rfl (by repeat (first|exact List.Mem.head _|apply List.Mem.tail)) ?_ ⟨by omega,by omega⟩⟩;(simp [stmtS,bnd,want, *];done))|(simp [stmtS,bnd,want, *];done)|contradiction
theorem stmt_w2_con(ok:InOk I)(H:Hyp I M g N)(w2:word I n=(⟨#[116,121,112,101]⟩:ByteArray))(hn:0≤n∧n≤I.L)(hN:32*(I.L+1-n)+20≤N):Con I M 144 [] (stmtS I g t n) t n 1:=fun br h hs hB=>by
 refine eP (rep:=rep) (m:=1) (ex:=[0,2,3,4,5,6,7,15,34,50]) (cu:=[]) (args:=[.own 900 br 0]) tO Tryz.func144 rfl (by decide) (rs:=[.tmp 2]) rfl rfl rfl hs ?_
 have W:=Wd.start ok hB
 have hl:=ok.len
 have hv:((⟨#[116,121,112,101]⟩:ByteArray),fnv 198)∈rsL:=by simp [rsL]
 have hlt:=(word_lt (I:=I) (n:=n) (by rw [w2];decide)).2
 ((repeat' ((conv=>whnf);(first|(apply CK.pure;(case hh=>(intro h1 hs;first|exact next_e W.ok W.base hs rfl (by assumption))))|(refine CK.con W (H (.declared) _ _ (by simp only [need,rank];omega) ⟨by omega,by omega⟩ (by (simp only [fpre];omega))) rfl rfl (fun x hx=>?_) (fun x m bq h' hx hm1 hm2=>?_);rotate_left;(try dsimp only [fstr] at hm1);(conv=>whnf);intro W)|(refine CK.readers W rfl ?_;intro bm h' hM hbm W;(conv=>whnf))|(refine OpX.lookY rfl rfl rfl hM hbm hv ?_)|fail)));all_goals (try (conv=>whnf)))
 all_goals first|(refine⟨fun h' hs=>W.fin hs rfl (by repeat (first|exact List.Mem.head _|apply List.Mem.tail)) ?_ ⟨by omega,by omega⟩⟩;(simp [stmtS,bnd,want, *];done))|(simp [stmtS,bnd,want, *];done)|contradiction
theorem stmt_w3_con(ok:InOk I)(H:Hyp I M g N)(w3:word I n=(⟨#[103,111]⟩:ByteArray))(hn:0≤n∧n≤I.L)(hN:32*(I.L+1-n)+20≤N):Con I M 144 [] (stmtS I g t n) t n 1:=fun br h hs hB=>by
 refine eP (rep:=rep) (m:=1) (ex:=[0,2,3,4,5,6,7,15,34,50]) (cu:=[]) (args:=[.own 900 br 0]) tO Tryz.func144 rfl (by decide) (rs:=[.tmp 2]) rfl rfl rfl hs ?_
 have W:=Wd.start ok hB
 have hl:=ok.len
 have hv:((⟨#[103,111]⟩:ByteArray),fnv 199)∈rsL:=by simp [rsL]
 have hlt:=(word_lt (I:=I) (n:=n) (by rw [w3];decide)).2
 ((repeat' ((conv=>whnf);(first|(apply CK.pure;(case hh=>(intro h1 hs;first|exact next_e W.ok W.base hs rfl (by assumption))))|(refine CK.con W (H (.started) _ _ (by simp only [need,rank];omega) ⟨by omega,by omega⟩ (by (simp only [fpre];omega))) rfl rfl (fun x hx=>?_) (fun x m bq h' hx hm1 hm2=>?_);rotate_left;(try dsimp only [fstr] at hm1);(conv=>whnf);intro W)|(refine CK.readers W rfl ?_;intro bm h' hM hbm W;(conv=>whnf))|(refine OpX.lookY rfl rfl rfl hM hbm hv ?_)|fail)));all_goals (try (conv=>whnf)))
 all_goals first|(refine⟨fun h' hs=>W.fin hs rfl (by repeat (first|exact List.Mem.head _|apply List.Mem.tail)) ?_ ⟨by omega,by omega⟩⟩;(simp [stmtS,bnd,want, *];done))|(simp [stmtS,bnd,want, *];done)|contradiction
theorem stmt_w4_con(ok:InOk I)(H:Hyp I M g N)(w4:word I n=(⟨#[100,101,102,101,114]⟩:ByteArray))(hn:0≤n∧n≤I.L)(hN:32*(I.L+1-n)+20≤N):Con I M 144 [] (stmtS I g t n) t n 1:=fun br h hs hB=>by
 refine eP (rep:=rep) (m:=1) (ex:=[0,2,3,4,5,6,7,15,34,50]) (cu:=[]) (args:=[.own 900 br 0]) tO Tryz.func144 rfl (by decide) (rs:=[.tmp 2]) rfl rfl rfl hs ?_
 have W:=Wd.start ok hB
 have hl:=ok.len
 have hv:((⟨#[100,101,102,101,114]⟩:ByteArray),fnv 199)∈rsL:=by simp [rsL]
 have hlt:=(word_lt (I:=I) (n:=n) (by rw [w4];decide)).2
 ((repeat' ((conv=>whnf);(first|(apply CK.pure;(case hh=>(intro h1 hs;first|exact next_e W.ok W.base hs rfl (by assumption))))|(refine CK.con W (H (.started) _ _ (by simp only [need,rank];omega) ⟨by omega,by omega⟩ (by (simp only [fpre];omega))) rfl rfl (fun x hx=>?_) (fun x m bq h' hx hm1 hm2=>?_);rotate_left;(try dsimp only [fstr] at hm1);(conv=>whnf);intro W)|(refine CK.readers W rfl ?_;intro bm h' hM hbm W;(conv=>whnf))|(refine OpX.lookY rfl rfl rfl hM hbm hv ?_)|fail)));all_goals (try (conv=>whnf)))
 all_goals first|(refine⟨fun h' hs=>W.fin hs rfl (by repeat (first|exact List.Mem.head _|apply List.Mem.tail)) ?_ ⟨by omega,by omega⟩⟩;(simp [stmtS,bnd,want, *];done))|(simp [stmtS,bnd,want, *];done)|contradiction
theorem stmt_w5_con(ok:InOk I)(H:Hyp I M g N)(w5:word I n=(⟨#[114,101,116,117,114,110]⟩:ByteArray))(hn:0≤n∧n≤I.L)(hN:32*(I.L+1-n)+20≤N):Con I M 144 [] (stmtS I g t n) t n 1:=fun br h hs hB=>by
 refine eP (rep:=rep) (m:=1) (ex:=[0,2,3,4,5,6,7,15,34,50]) (cu:=[]) (args:=[.own 900 br 0]) tO Tryz.func144 rfl (by decide) (rs:=[.tmp 2]) rfl rfl rfl hs ?_
 have W:=Wd.start ok hB
 have hl:=ok.len
 have hv:((⟨#[114,101,116,117,114,110]⟩:ByteArray),fnv 200)∈rsL:=by simp [rsL]
 have hlt:=(word_lt (I:=I) (n:=n) (by rw [w5];decide)).2
 ((repeat' ((conv=>whnf);(first|(apply CK.pure;(case hh=>(intro h1 hs;first|exact next_e W.ok W.base hs rfl (by assumption))))|(refine CK.con W (H (.returned) _ _ (by simp only [need,rank];omega) ⟨by omega,by omega⟩ (by (simp only [fpre];omega))) rfl rfl (fun x hx=>?_) (fun x m bq h' hx hm1 hm2=>?_);rotate_left;(try dsimp only [fstr] at hm1);(conv=>whnf);intro W)|(refine CK.readers W rfl ?_;intro bm h' hM hbm W;(conv=>whnf))|(refine OpX.lookY rfl rfl rfl hM hbm hv ?_)|fail)));all_goals (try (conv=>whnf)))
 all_goals first|(refine⟨fun h' hs=>W.fin hs rfl (by repeat (first|exact List.Mem.head _|apply List.Mem.tail)) ?_ ⟨by omega,by omega⟩⟩;(simp [stmtS,bnd,want, *];done))|(simp [stmtS,bnd,want, *];done)|contradiction
theorem stmt_w6_con(ok:InOk I)(H:Hyp I M g N)(w6:word I n=(⟨#[98,114,101,97,107]⟩:ByteArray))(hn:0≤n∧n≤I.L)(hN:32*(I.L+1-n)+20≤N):Con I M 144 [] (stmtS I g t n) t n 1:=fun br h hs hB=>by
 refine eP (rep:=rep) (m:=1) (ex:=[0,2,3,4,5,6,7,15,34,50]) (cu:=[]) (args:=[.own 900 br 0]) tO Tryz.func144 rfl (by decide) (rs:=[.tmp 2]) rfl rfl rfl hs ?_
 have W:=Wd.start ok hB
 have hl:=ok.len
 have hv:((⟨#[98,114,101,97,107]⟩:ByteArray),fnv 201)∈rsL:=by simp [rsL]
 have hlt:=(word_lt (I:=I) (n:=n) (by rw [w6];decide)).2
 ((repeat' ((conv=>whnf);(first|(apply CK.pure;(case hh=>(intro h1 hs;first|exact next_e W.ok W.base hs rfl (by assumption))))|(refine CK.con W (H (.branch) _ _ (by simp only [need,rank];omega) ⟨by omega,by omega⟩ (by (simp only [fpre];omega))) rfl rfl (fun x hx=>?_) (fun x m bq h' hx hm1 hm2=>?_);rotate_left;(try dsimp only [fstr] at hm1);(conv=>whnf);intro W)|(refine CK.readers W rfl ?_;intro bm h' hM hbm W;(conv=>whnf))|(refine OpX.lookY rfl rfl rfl hM hbm hv ?_)|fail)));all_goals (try (conv=>whnf)))
 all_goals first|(refine⟨fun h' hs=>W.fin hs rfl (by repeat (first|exact List.Mem.head _|apply List.Mem.tail)) ?_ ⟨by omega,by omega⟩⟩;(simp [stmtS,bnd,want, *];done))|(simp [stmtS,bnd,want, *];done)|contradiction
theorem stmt_w7_con(ok:InOk I)(H:Hyp I M g N)(w7:word I n=(⟨#[99,111,110,116,105,110,117,101]⟩:ByteArray))(hn:0≤n∧n≤I.L)(hN:32*(I.L+1-n)+20≤N):Con I M 144 [] (stmtS I g t n) t n 1:=fun br h hs hB=>by
 refine eP (rep:=rep) (m:=1) (ex:=[0,2,3,4,5,6,7,15,34,50]) (cu:=[]) (args:=[.own 900 br 0]) tO Tryz.func144 rfl (by decide) (rs:=[.tmp 2]) rfl rfl rfl hs ?_
 have W:=Wd.start ok hB
 have hl:=ok.len
 have hv:((⟨#[99,111,110,116,105,110,117,101]⟩:ByteArray),fnv 201)∈rsL:=by simp [rsL]
 have hlt:=(word_lt (I:=I) (n:=n) (by rw [w7];decide)).2
 ((repeat' ((conv=>whnf);(first|(apply CK.pure;(case hh=>(intro h1 hs;first|exact next_e W.ok W.base hs rfl (by assumption))))|(refine CK.con W (H (.branch) _ _ (by simp only [need,rank];omega) ⟨by omega,by omega⟩ (by (simp only [fpre];omega))) rfl rfl (fun x hx=>?_) (fun x m bq h' hx hm1 hm2=>?_);rotate_left;(try dsimp only [fstr] at hm1);(conv=>whnf);intro W)|(refine CK.readers W rfl ?_;intro bm h' hM hbm W;(conv=>whnf))|(refine OpX.lookY rfl rfl rfl hM hbm hv ?_)|fail)));all_goals (try (conv=>whnf)))
 all_goals first|(refine⟨fun h' hs=>W.fin hs rfl (by repeat (first|exact List.Mem.head _|apply List.Mem.tail)) ?_ ⟨by omega,by omega⟩⟩;(simp [stmtS,bnd,want, *];done))|(simp [stmtS,bnd,want, *];done)|contradiction
theorem stmt_w8_con(ok:InOk I)(H:Hyp I M g N)(w8:word I n=(⟨#[103,111,116,111]⟩:ByteArray))(hn:0≤n∧n≤I.L)(hN:32*(I.L+1-n)+20≤N):Con I M 144 [] (stmtS I g t n) t n 1:=fun br h hs hB=>by
 refine eP (rep:=rep) (m:=1) (ex:=[0,2,3,4,5,6,7,15,34,50]) (cu:=[]) (args:=[.own 900 br 0]) tO Tryz.func144 rfl (by decide) (rs:=[.tmp 2]) rfl rfl rfl hs ?_
 have W:=Wd.start ok hB
 have hl:=ok.len
 have hv:((⟨#[103,111,116,111]⟩:ByteArray),fnv 201)∈rsL:=by simp [rsL]
 have hlt:=(word_lt (I:=I) (n:=n) (by rw [w8];decide)).2
 ((repeat' ((conv=>whnf);(first|(apply CK.pure;(case hh=>(intro h1 hs;first|exact next_e W.ok W.base hs rfl (by assumption))))|(refine CK.con W (H (.branch) _ _ (by simp only [need,rank];omega) ⟨by omega,by omega⟩ (by (simp only [fpre];omega))) rfl rfl (fun x hx=>?_) (fun x m bq h' hx hm1 hm2=>?_);rotate_left;(try dsimp only [fstr] at hm1);(conv=>whnf);intro W)|(refine CK.readers W rfl ?_;intro bm h' hM hbm W;(conv=>whnf))|(refine OpX.lookY rfl rfl rfl hM hbm hv ?_)|fail)));all_goals (try (conv=>whnf)))
 all_goals first|(refine⟨fun h' hs=>W.fin hs rfl (by repeat (first|exact List.Mem.head _|apply List.Mem.tail)) ?_ ⟨by omega,by omega⟩⟩;(simp [stmtS,bnd,want, *];done))|(simp [stmtS,bnd,want, *];done)|contradiction
theorem stmt_w9_con(ok:InOk I)(H:Hyp I M g N)(w9:word I n=(⟨#[102,97,108,108,116,104,114,111,117,103,104]⟩:ByteArray))(hn:0≤n∧n≤I.L)(hN:32*(I.L+1-n)+20≤N):Con I M 144 [] (stmtS I g t n) t n 1:=fun br h hs hB=>by
 refine eP (rep:=rep) (m:=1) (ex:=[0,2,3,4,5,6,7,15,34,50]) (cu:=[]) (args:=[.own 900 br 0]) tO Tryz.func144 rfl (by decide) (rs:=[.tmp 2]) rfl rfl rfl hs ?_
 have W:=Wd.start ok hB
 have hl:=ok.len
 have hv:((⟨#[102,97,108,108,116,104,114,111,117,103,104]⟩:ByteArray),fnv 201)∈rsL:=by simp [rsL]
 have hlt:=(word_lt (I:=I) (n:=n) (by rw [w9];decide)).2
 ((repeat' ((conv=>whnf);(first|(apply CK.pure;(case hh=>(intro h1 hs;first|exact next_e W.ok W.base hs rfl (by assumption))))|(refine CK.con W (H (.branch) _ _ (by simp only [need,rank];omega) ⟨by omega,by omega⟩ (by (simp only [fpre];omega))) rfl rfl (fun x hx=>?_) (fun x m bq h' hx hm1 hm2=>?_);rotate_left;(try dsimp only [fstr] at hm1);(conv=>whnf);intro W)|(refine CK.readers W rfl ?_;intro bm h' hM hbm W;(conv=>whnf))|(refine OpX.lookY rfl rfl rfl hM hbm hv ?_)|fail)));all_goals (try (conv=>whnf)))
 all_goals first|(refine⟨fun h' hs=>W.fin hs rfl (by repeat (first|exact List.Mem.head _|apply List.Mem.tail)) ?_ ⟨by omega,by omega⟩⟩;(simp [stmtS,bnd,want, *];done))|(simp [stmtS,bnd,want, *];done)|contradiction
theorem stmt_w10_con(ok:InOk I)(H:Hyp I M g N)(w10:word I n=(⟨#[123]⟩:ByteArray))(hn:0≤n∧n≤I.L)(hN:32*(I.L+1-n)+20≤N):Con I M 144 [] (stmtS I g t n) t n 1:=fun br h hs hB=>by
 refine eP (rep:=rep) (m:=1) (ex:=[0,2,3,4,5,6,7,15,34,50]) (cu:=[]) (args:=[.own 900 br 0]) tO Tryz.func144 rfl (by decide) (rs:=[.tmp 2]) rfl rfl rfl hs ?_
 have W:=Wd.start ok hB
 have hl:=ok.len
 have hv:((⟨#[123]⟩:ByteArray),fnv 153)∈rsL:=by simp [rsL]
 have hlt:=(word_lt (I:=I) (n:=n) (by rw [w10];decide)).2
 ((repeat' ((conv=>whnf);(first|(apply CK.pure;(case hh=>(intro h1 hs;first|exact next_e W.ok W.base hs rfl (by assumption))))|(refine CK.con W (H (.block) _ _ (by simp only [need,rank];omega) ⟨by omega,by omega⟩ (by exact trivial)) rfl rfl (fun x hx=>?_) (fun x m bq h' hx hm1 hm2=>?_);rotate_left;(try dsimp only [fstr] at hm1);(conv=>whnf);intro W)|(refine CK.readers W rfl ?_;intro bm h' hM hbm W;(conv=>whnf))|(refine OpX.lookY rfl rfl rfl hM hbm hv ?_)|fail)));all_goals (try (conv=>whnf)))
 all_goals first|(refine⟨fun h' hs=>W.fin hs rfl (by repeat (first|exact List.Mem.head _|apply List.Mem.tail)) ?_ ⟨by omega,by omega⟩⟩;(simp [stmtS,bnd,want, *];done))|(simp [stmtS,bnd,want, *];done)|contradiction
theorem stmt_w11_con(ok:InOk I)(H:Hyp I M g N)(w11:word I n=(⟨#[105,102]⟩:ByteArray))(hn:0≤n∧n≤I.L)(hN:32*(I.L+1-n)+20≤N):Con I M 144 [] (stmtS I g t n) t n 1:=fun br h hs hB=>by
 refine eP (rep:=rep) (m:=1) (ex:=[0,2,3,4,5,6,7,15,34,50]) (cu:=[]) (args:=[.own 900 br 0]) tO Tryz.func144 rfl (by decide) (rs:=[.tmp 2]) rfl rfl rfl hs ?_
 have W:=Wd.start ok hB
 have hl:=ok.len
 have hv:((⟨#[105,102]⟩:ByteArray),fnv 202)∈rsL:=by simp [rsL]
 have hlt:=(word_lt (I:=I) (n:=n) (by rw [w11];decide)).2
 ((repeat' ((conv=>whnf);(first|(apply CK.pure;(case hh=>(intro h1 hs;first|exact next_e W.ok W.base hs rfl (by assumption))))|(refine CK.con W (H (.ifs) _ _ (by simp only [need,rank];omega) ⟨by omega,by omega⟩ (by (simp only [fpre];omega))) rfl rfl (fun x hx=>?_) (fun x m bq h' hx hm1 hm2=>?_);rotate_left;(try dsimp only [fstr] at hm1);(conv=>whnf);intro W)|(refine CK.readers W rfl ?_;intro bm h' hM hbm W;(conv=>whnf))|(refine OpX.lookY rfl rfl rfl hM hbm hv ?_)|fail)));all_goals (try (conv=>whnf)))
 all_goals first|(refine⟨fun h' hs=>W.fin hs rfl (by repeat (first|exact List.Mem.head _|apply List.Mem.tail)) ?_ ⟨by omega,by omega⟩⟩;(simp [stmtS,bnd,want, *];done))|(simp [stmtS,bnd,want, *];done)|contradiction
theorem stmt_w12_con(ok:InOk I)(H:Hyp I M g N)(w12:word I n=(⟨#[115,119,105,116,99,104]⟩:ByteArray))(hn:0≤n∧n≤I.L)(hN:32*(I.L+1-n)+20≤N):Con I M 144 [] (stmtS I g t n) t n 1:=fun br h hs hB=>by
 refine eP (rep:=rep) (m:=1) (ex:=[0,2,3,4,5,6,7,15,34,50]) (cu:=[]) (args:=[.own 900 br 0]) tO Tryz.func144 rfl (by decide) (rs:=[.tmp 2]) rfl rfl rfl hs ?_
 have W:=Wd.start ok hB
 have hl:=ok.len
 have hv:((⟨#[115,119,105,116,99,104]⟩:ByteArray),fnv 203)∈rsL:=by simp [rsL]
 have hlt:=(word_lt (I:=I) (n:=n) (by rw [w12];decide)).2
 ((repeat' ((conv=>whnf);(first|(apply CK.pure;(case hh=>(intro h1 hs;first|exact next_e W.ok W.base hs rfl (by assumption))))|(refine CK.con W (H (.switches) _ _ (by simp only [need,rank];omega) ⟨by omega,by omega⟩ (by (simp only [fpre];omega))) rfl rfl (fun x hx=>?_) (fun x m bq h' hx hm1 hm2=>?_);rotate_left;(try dsimp only [fstr] at hm1);(conv=>whnf);intro W)|(refine CK.readers W rfl ?_;intro bm h' hM hbm W;(conv=>whnf))|(refine OpX.lookY rfl rfl rfl hM hbm hv ?_)|fail)));all_goals (try (conv=>whnf)))
 all_goals first|(refine⟨fun h' hs=>W.fin hs rfl (by repeat (first|exact List.Mem.head _|apply List.Mem.tail)) ?_ ⟨by omega,by omega⟩⟩;(simp [stmtS,bnd,want, *];done))|(simp [stmtS,bnd,want, *];done)|contradiction
theorem stmt_w13_con(ok:InOk I)(H:Hyp I M g N)(w13:word I n=(⟨#[115,101,108,101,99,116]⟩:ByteArray))(hn:0≤n∧n≤I.L)(hN:32*(I.L+1-n)+20≤N):Con I M 144 [] (stmtS I g t n) t n 1:=fun br h hs hB=>by
 refine eP (rep:=rep) (m:=1) (ex:=[0,2,3,4,5,6,7,15,34,50]) (cu:=[]) (args:=[.own 900 br 0]) tO Tryz.func144 rfl (by decide) (rs:=[.tmp 2]) rfl rfl rfl hs ?_
 have W:=Wd.start ok hB
 have hl:=ok.len
 have hv:((⟨#[115,101,108,101,99,116]⟩:ByteArray),fnv 204)∈rsL:=by simp [rsL]
 have hlt:=(word_lt (I:=I) (n:=n) (by rw [w13];decide)).2
 ((repeat' ((conv=>whnf);(first|(apply CK.pure;(case hh=>(intro h1 hs;first|exact next_e W.ok W.base hs rfl (by assumption))))|(refine CK.con W (H (.selects) _ _ (by simp only [need,rank];omega) ⟨by omega,by omega⟩ (by (simp only [fpre];omega))) rfl rfl (fun x hx=>?_) (fun x m bq h' hx hm1 hm2=>?_);rotate_left;(try dsimp only [fstr] at hm1);(conv=>whnf);intro W)|(refine CK.readers W rfl ?_;intro bm h' hM hbm W;(conv=>whnf))|(refine OpX.lookY rfl rfl rfl hM hbm hv ?_)|fail)));all_goals (try (conv=>whnf)))
 all_goals first|(refine⟨fun h' hs=>W.fin hs rfl (by repeat (first|exact List.Mem.head _|apply List.Mem.tail)) ?_ ⟨by omega,by omega⟩⟩;(simp [stmtS,bnd,want, *];done))|(simp [stmtS,bnd,want, *];done)|contradiction
theorem stmt_w14_con(ok:InOk I)(H:Hyp I M g N)(w14:word I n=(⟨#[102,111,114]⟩:ByteArray))(hn:0≤n∧n≤I.L)(hN:32*(I.L+1-n)+20≤N):Con I M 144 [] (stmtS I g t n) t n 1:=fun br h hs hB=>by
 refine eP (rep:=rep) (m:=1) (ex:=[0,2,3,4,5,6,7,15,34,50]) (cu:=[]) (args:=[.own 900 br 0]) tO Tryz.func144 rfl (by decide) (rs:=[.tmp 2]) rfl rfl rfl hs ?_
 have W:=Wd.start ok hB
 have hl:=ok.len
 have hv:((⟨#[102,111,114]⟩:ByteArray),fnv 205)∈rsL:=by simp [rsL]
 have hlt:=(word_lt (I:=I) (n:=n) (by rw [w14];decide)).2
 ((repeat' ((conv=>whnf);(first|(apply CK.pure;(case hh=>(intro h1 hs;first|exact next_e W.ok W.base hs rfl (by assumption))))|(refine CK.con W (H (.fors) _ _ (by simp only [need,rank];omega) ⟨by omega,by omega⟩ (by (simp only [fpre];omega))) rfl rfl (fun x hx=>?_) (fun x m bq h' hx hm1 hm2=>?_);rotate_left;(try dsimp only [fstr] at hm1);(conv=>whnf);intro W)|(refine CK.readers W rfl ?_;intro bm h' hM hbm W;(conv=>whnf))|(refine OpX.lookY rfl rfl rfl hM hbm hv ?_)|fail)));all_goals (try (conv=>whnf)))
 all_goals first|(refine⟨fun h' hs=>W.fin hs rfl (by repeat (first|exact List.Mem.head _|apply List.Mem.tail)) ?_ ⟨by omega,by omega⟩⟩;(simp [stmtS,bnd,want, *];done))|(simp [stmtS,bnd,want, *];done)|contradiction
theorem stmt_d_con(ok:InOk I)(H:Hyp I M g N)(w0:¬ word I n=(⟨#[99,111,110,115,116]⟩:ByteArray))(w1:¬ word I n=(⟨#[118,97,114]⟩:ByteArray))(w2:¬ word I n=(⟨#[116,121,112,101]⟩:ByteArray))(w3:¬ word I n=(⟨#[103,111]⟩:ByteArray))(w4:¬ word I n=(⟨#[100,101,102,101,114]⟩:ByteArray))(w5:¬ word I n=(⟨#[114,101,116,117,114,110]⟩:ByteArray))(w6:¬ word I n=(⟨#[98,114,101,97,107]⟩:ByteArray))(w7:¬ word I n=(⟨#[99,111,110,116,105,110,117,101]⟩:ByteArray))(w8:¬ word I n=(⟨#[103,111,116,111]⟩:ByteArray))(w9:¬ word I n=(⟨#[102,97,108,108,116,104,114,111,117,103,104]⟩:ByteArray))(w10:¬ word I n=(⟨#[123]⟩:ByteArray))(w11:¬ word I n=(⟨#[105,102]⟩:ByteArray))(w12:¬ word I n=(⟨#[115,119,105,116,99,104]⟩:ByteArray))(w13:¬ word I n=(⟨#[115,101,108,101,99,116]⟩:ByteArray))(w14:¬ word I n=(⟨#[102,111,114]⟩:ByteArray))(hn:0≤n∧n≤I.L)(hN:32*(I.L+1-n)+20≤N):Con I M 144 [] (stmtS I g t n) t n 1:=fun br h hs hB=>by
 refine eP (rep:=rep) (m:=1) (ex:=[0,2,3,4,5,6,7,15,34,50]) (cu:=[]) (args:=[.own 900 br 0]) tO Tryz.func144 rfl (by decide) (rs:=[.tmp 2]) rfl rfl rfl hs ?_
 have W:=Wd.start ok hB
 have hl:=ok.len
 have hv:∀ p∈rsL,p.1≠word I n:=by
  intro p hp
  simp only [rsL,List.mem_cons,List.not_mem_nil,or_false] at hp
  rcases hp with rfl|rfl|rfl|rfl|rfl|rfl|rfl|rfl|rfl|rfl|rfl|rfl|rfl|rfl|rfl
  ·exact fun e=>w0 e.symm
  ·exact fun e=>w1 e.symm
  ·exact fun e=>w2 e.symm
  ·exact fun e=>w3 e.symm
  ·exact fun e=>w4 e.symm
  ·exact fun e=>w5 e.symm
  ·exact fun e=>w6 e.symm
  ·exact fun e=>w7 e.symm
  ·exact fun e=>w8 e.symm
  ·exact fun e=>w9 e.symm
  ·exact fun e=>w10 e.symm
  ·exact fun e=>w11 e.symm
  ·exact fun e=>w12 e.symm
  ·exact fun e=>w13 e.symm
  ·exact fun e=>w14 e.symm
 ((repeat' ((conv=>whnf);(first|(refine Ar.fit (by omega) ?_)|(refine VC.mk (by (first|omega|(and_intros<;>first|rfl|(simp only [maxLen];omega)))) ?_)|(refine Br.mk ?_ ?_<;>intro hb<;>(try replace hb:=Classical.not_not.1 hb)<;>(try exact absurd hb (show ¬ (ByteArray.mk _=ByteArray.mk _) from by decide))<;>(try (first|have hlt:=wlt hb (by decide)|have hlt:=klt hb (by decide))))|(refine New.mk ?_;intro b hb)|(apply CK.pure;(case hh=>(intro h1 hs;first|exact next_k W.ok W.base hs rfl|exact word_k W.ok W.base hs rfl _)))|(refine CK.says (.prop _) (fun h1 hs=>named_k W.ok W.base hs rfl _) ?_)|(refine CK.con W (H (.simple) _ _ (by simp only [need,rank];omega) ⟨by omega,by omega⟩ (by exact trivial)) rfl rfl (fun x hx=>?_) (fun x m bq h' hx hm1 hm2=>?_);rotate_left;(try dsimp only [fstr] at hm1);(conv=>whnf);intro W)|(refine CK.con W (H (.stmt) _ _ (by simp only [need,rank];omega) ⟨by omega,by omega⟩ (by exact trivial)) rfl rfl (fun x hx=>?_) (fun x m bq h' hx hm1 hm2=>?_);rotate_left;(try dsimp only [fstr] at hm1);(conv=>whnf);intro W)|(refine CK.sure W (none_con 49 (by decide) ⟨by omega,by omega⟩) rfl rfl ?_;intro bq h';(conv=>whnf);intro W)|(refine CK.box 901 _ (fun h1 hs=>open_k hs rfl 67) ?_;intro bo hbo)|(refine CK.cO 901 W rfl rfl rfl (fun h hs hm=>hs.ne (k:=901) (k':=900) rfl rfl (by decide) (List.mem_singleton.1 hm)) rfl rfl rfl rfl rfl rfl (rC W (by repeat (first|exact List.Mem.head _|apply List.Mem.tail)) (rC W (by repeat (first|exact List.Mem.head _|apply List.Mem.tail)) (rN))) (by simp [leK]) (by simp) ?_;intro h';(conv=>whnf);intro W)|(refine CK.sure W (show Con I M 104 [] (.ok _ (n+1)) t n 1 from (name_sure (show kindT I n=1 from by assumption))▸name_con ok ⟨by omega,by omega⟩) rfl rfl ?_;intro bq h';(conv=>whnf);intro W)|(refine CK.says (.prop _) (fun h1 hs=>quiet_k W.ok W.base hs rfl) ?_)|(refine CK.readers W rfl ?_;intro bm h' hM hbm W;(conv=>whnf))|(refine OpX.lookN rfl rfl rfl hM hbm hv ?_)|fail)));all_goals (try (conv=>whnf)))
 all_goals first|(refine⟨fun h' hs=>W.fin hs rfl (by repeat (first|exact List.Mem.head _|apply List.Mem.tail)) ?_ ⟨by omega,by omega⟩⟩;(simp [stmtS,nameS,bnd,want, *];done))|(simp [stmtS,nameS,bnd,want, *];done)|contradiction
end
end Go.Ex
