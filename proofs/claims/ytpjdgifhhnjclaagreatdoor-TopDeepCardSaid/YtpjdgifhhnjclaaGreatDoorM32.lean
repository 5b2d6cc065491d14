/-
  Top: TopDeep: whatever the input, the law answers true (part 32)
-/
import Derived.Test.YtpjdgifhhnjclaaGreatDoorM29
set_option linter.unusedVariables false
set_option linter.unusedSimpArgs false
set_option maxHeartbeats 4000000
set_option maxRecDepth 10000
namespace Go.Ex
open Go.Proofs
attribute [local irreducible] CH CsP word kindT
section
variable {I:In}{M:Loc}{g:Gt}{N:Int}{t:Bool}{n:Int}
theorem anyType_k_con(ok:InOk I)(H:Hyp I M g N)(hk:kindT I n=1)(hn:0≤n∧n≤I.L)(hN:32*(I.L+1-n)+3≤N):Con I M 99 [] (aTS I g t n) t n 1:=fun br h hs hB=>by
 refine eP (rep:=rep) (m:=1) (ex:=[0,2,3,4,5,6,14,19,22,39,40,45,59,64,85,99,113,124,134]) (cu:=[]) (args:=[.own 900 br 0]) tO Tryz.func99 rfl (by decide) (rs:=[.tmp 2]) rfl rfl rfl hs ?_
 have W:=Wd.start ok hB
 have hl:=ok.len
 have hlt:=klt hk (by decide)
 ((repeat' ((conv=>whnf);(first|(refine VC.mk (by omega) ?_)|(refine Br.mk ?_ ?_<;>intro hb<;>(try replace hb:=Classical.not_not.1 hb)<;>(try exact absurd hb (show ¬ (ByteArray.mk _=ByteArray.mk _) from by decide))<;>(try (have hlt:=klt hb (by decide)))<;>(try (exfalso;omega)))|(refine CK.says (.prop _) (fun h1 hs=>named_k W.ok W.base hs rfl _) ?_)|(refine CK.box 901 _ (fun h1 hs=>open_k hs rfl 0) ?_;intro bo hbo)|(refine CK.con W (H (.typeName) _ _ (by simp only [need,rank];omega) ⟨by omega,by omega⟩ (by exact trivial)) rfl rfl (fun x hx=>?_) (fun x m bq h' hx hm1 hm2=>?_);rotate_left;(try dsimp only [fstr] at hm1);(conv=>whnf);intro W)|fail)));all_goals (try (conv=>whnf)))
 all_goals first|(refine⟨fun h' hs=>W.fin hs rfl (by repeat (first|exact List.Mem.head _|apply List.Mem.tail)) ?_ ⟨by omega,by omega⟩⟩;(simp [aTS,wrapS,rowS,membersS,maybe,bnd,want, *];done))|(simp [aTS,wrapS,rowS,membersS,maybe,bnd,want, *];done)|contradiction
theorem anyType_w0_con(ok:InOk I)(H:Hyp I M g N)(hk:¬ kindT I n=1)(w0:word I n=(⟨#[42]⟩:ByteArray))(hn:0≤n∧n≤I.L)(hN:32*(I.L+1-n)+3≤N):Con I M 99 [] (aTS I g t n) t n 1:=fun br h hs hB=>by
 refine eP (rep:=rep) (m:=1) (ex:=[0,2,3,4,5,6,14,19,22,39,40,45,59,64,85,99,113,124,134]) (cu:=[]) (args:=[.own 900 br 0]) tO Tryz.func99 rfl (by decide) (rs:=[.tmp 2]) rfl rfl rfl hs ?_
 have W:=Wd.start ok hB
 have hl:=ok.len
 have hlt:=wlt w0 (by decide)
 ((repeat' ((conv=>whnf);(first|(refine Ar.fit (by omega) ?_)|(refine VC.mk (by (first|omega|(and_intros<;>first|rfl|(simp only [maxLen];omega)))) ?_)|(refine Br.mk ?_ ?_<;>intro hb<;>(try replace hb:=Classical.not_not.1 hb)<;>(try exact absurd hb (show ¬ (ByteArray.mk _=ByteArray.mk _) from by decide))<;>(try (have hlt:=klt hb (by decide)))<;>(try (first|(exfalso;omega)|exact absurd rfl hb)))|(refine New.mk ?_;intro b hb)|(apply CK.pure;(case hh=>(intro h1 hs;first|exact next_e W.ok W.base hs rfl (by assumption))))|(refine CK.says (.prop _) (fun h1 hs=>named_k W.ok W.base hs rfl _) ?_)|(refine CK.box 901 _ (fun h1 hs=>open_k hs rfl 0) ?_;intro bo hbo)|(refine CK.con W (H (.typ) _ _ (by simp only [need,rank];omega) ⟨by omega,by omega⟩ (by exact trivial)) rfl rfl (fun x hx=>?_) (fun x m bq h' hx hm1 hm2=>?_);rotate_left;(try dsimp only [fstr] at hm1);(conv=>whnf);intro W)|(refine CK.cO 901 W rfl rfl rfl (fun h hs hm=>hs.ne (k:=901) (k':=900) rfl rfl (by decide) (List.mem_singleton.1 hm)) rfl rfl rfl rfl rfl rfl (rC W (by repeat (first|exact List.Mem.head _|apply List.Mem.tail)) (rN)) (by simp [leK]) (by simp) ?_;intro h';(conv=>whnf);intro W)|(refine CK.inline (rep:=rep) tO Tryz.func140 rfl (by decide) (rs:=[.tmp 4]) rfl 4 [4] [] rfl rfl rfl ?_)|fail)));all_goals (try (conv=>whnf)))
 all_goals first|(refine⟨fun h' hs=>W.fin hs rfl (by repeat (first|exact List.Mem.head _|apply List.Mem.tail)) ?_ ⟨by omega,by omega⟩⟩;(simp [aTS,wrapS,rowS,membersS,maybe,bnd,want, *];done))|(simp [aTS,wrapS,rowS,membersS,maybe,bnd,want, *];done)|contradiction
theorem anyType_w1_con(ok:InOk I)(H:Hyp I M g N)(hk:¬ kindT I n=1)(w1:word I n=(⟨#[40]⟩:ByteArray))(hn:0≤n∧n≤I.L)(hN:32*(I.L+1-n)+3≤N):Con I M 99 [] (aTS I g t n) t n 1:=fun br h hs hB=>by
 refine eP (rep:=rep) (m:=1) (ex:=[0,2,3,4,5,6,14,19,22,39,40,45,59,64,85,99,113,124,134]) (cu:=[]) (args:=[.own 900 br 0]) tO Tryz.func99 rfl (by decide) (rs:=[.tmp 2]) rfl rfl rfl hs ?_
 have W:=Wd.start ok hB
 have hl:=ok.len
 have hlt:=wlt w1 (by decide)
 ((repeat' ((conv=>whnf);(first|(refine Ar.fit (by omega) ?_)|(refine VC.mk (by (first|omega|(and_intros<;>first|rfl|(simp only [maxLen];omega)))) ?_)|(refine Br.mk ?_ ?_<;>intro hb<;>(try replace hb:=Classical.not_not.1 hb)<;>(try exact absurd hb (show ¬ (ByteArray.mk _=ByteArray.mk _) from by decide))<;>(try (have hlt:=klt hb (by decide)))<;>(try (first|(exfalso;omega)|exact absurd rfl hb)))|(refine New.mk ?_;intro b hb)|(apply CK.pure;(case hh=>(intro h1 hs;first|exact next_e W.ok W.base hs rfl (by assumption))))|(refine CK.says (.prop _) (fun h1 hs=>named_k W.ok W.base hs rfl _) ?_)|(refine CK.box 901 _ (fun h1 hs=>open_k hs rfl 0) ?_;intro bo hbo)|(refine CK.con W (H (.typ) _ _ (by simp only [need,rank];omega) ⟨by omega,by omega⟩ (by exact trivial)) rfl rfl (fun x hx=>?_) (fun x m bq h' hx hm1 hm2=>?_);rotate_left;(try dsimp only [fstr] at hm1);(conv=>whnf);intro W)|(refine CK.want W (by decide) ⟨by omega,by omega⟩ rfl rfl (fun hx=>?_) (fun hx hm=>?_);rotate_left)|(refine CK.cO 901 W rfl rfl rfl (fun h hs hm=>hs.ne (k:=901) (k':=900) rfl rfl (by decide) (List.mem_singleton.1 hm)) rfl rfl rfl rfl rfl rfl (rC W (by repeat (first|exact List.Mem.head _|apply List.Mem.tail)) (rN)) (by simp [leK]) (by simp) ?_;intro h';(conv=>whnf);intro W)|fail)));all_goals (try (conv=>whnf)))
 all_goals first|(refine⟨fun h' hs=>W.fin hs rfl (by repeat (first|exact List.Mem.head _|apply List.Mem.tail)) ?_ ⟨by omega,by omega⟩⟩;(simp [aTS,wrapS,rowS,membersS,maybe,bnd,want, *];done))|(simp [aTS,wrapS,rowS,membersS,maybe,bnd,want, *];done)|contradiction
theorem anyType_w2_con(ok:InOk I)(H:Hyp I M g N)(hk:¬ kindT I n=1)(w2:word I n=(⟨#[91]⟩:ByteArray))(hn:0≤n∧n≤I.L)(hN:32*(I.L+1-n)+3≤N):Con I M 99 [] (aTS I g t n) t n 1:=fun br h hs hB=>by
 refine eP (rep:=rep) (m:=1) (ex:=[0,2,3,4,5,6,14,19,22,39,40,45,59,64,85,99,113,124,134]) (cu:=[]) (args:=[.own 900 br 0]) tO Tryz.func99 rfl (by decide) (rs:=[.tmp 2]) rfl rfl rfl hs ?_
 have W:=Wd.start ok hB
 have hl:=ok.len
 have hlt:=wlt w2 (by decide)
 ((repeat' ((conv=>whnf);(first|(refine dW (id:=3) tO mixed (.pull 0 [11,12,13] (.pull 1 [2,3,4,10,11,12,13] (.pull 2 [3,4,10,11,12,13] (.pull 3 [4,10,11,12,13] (.pull 5 [8,9,10,11,12,13] (.pull 6 [7,8,9,10,11,12,13] (.pull 7 [8,9,10,11,12,13] (.br 4 8 (.one 8 (.one 9 (.one 10 (.pull 11 [12,13] (.pull 12 [13] (.one 13 .done)))))) (.br 4 9 (.one 9 (.one 10 (.pull 11 [12,13] (.pull 12 [13] (.one 13 .done))))) (.pull 4 [10,11,12,13] (.one 10 (.pull 11 [12,13] (.pull 12 [13] (.one 13 .done)))))))))))))) (by kernel_rfl) (by kernel_rfl) ?_)|(refine Ar.fit (by omega) ?_)|(refine VC.mk (by (first|omega|(and_intros<;>first|omega|rfl|(simp only [maxLen];omega)|(simp only [List.length_append,List.length_take,List.length_replicate,List.length_cons,List.length_nil];omega)))) ?_)|(refine Br.mk ?_ ?_<;>intro hb<;>(try replace hb:=Classical.not_not.1 hb)<;>(try exact absurd hb (show ¬ (ByteArray.mk _=ByteArray.mk _) from by decide))<;>(try (have hlt:=klt hb (by decide)))<;>(try (first|(exfalso;omega)|exact absurd rfl hb|contradiction)))|(refine New.mk ?_;intro b hb)|(refine New2.mk ?_;intro b c hb hbc)|(refine SR.same ?_)|(refine Two.mk ?_ ?_)|(apply CK.pure;(case hh=>(intro h1 hs;first|exact next_e W.ok W.base hs rfl (by assumption))))|(refine CK.says (.prop _) (fun h1 hs=>named_k W.ok W.base hs rfl _) ?_)|(refine CK.box 901 _ (fun h1 hs=>open_k hs rfl 0) ?_;intro bo hbo)|(refine CK.con W (H (.typ) _ _ (by simp only [need,rank];omega) ⟨by omega,by omega⟩ (by exact trivial)) rfl rfl (fun x hx=>?_) (fun x m bq h' hx hm1 hm2=>?_);rotate_left;(try dsimp only [fstr] at hm1);(conv=>whnf);intro W)|(refine CK.con W (H (.expr) _ _ (by simp only [need,rank];omega) ⟨by omega,by omega⟩ (by exact trivial)) rfl rfl (fun x hx=>?_) (fun x m bq h' hx hm1 hm2=>?_);rotate_left;(try dsimp only [fstr] at hm1);(conv=>whnf);intro W)|(refine CK.want W (by decide) ⟨by omega,by omega⟩ rfl rfl (fun hx=>?_) (fun hx hm=>?_);rotate_left)|(refine CK.maybe W.ok W.base (by decide) rfl rfl (fun hx hm=>?_) (fun hx=>?_))|(refine CK.cO 901 W rfl rfl rfl (fun h hs hm=>hs.ne (k:=901) (k':=900) rfl rfl (by decide) (List.mem_singleton.1 hm)) rfl rfl rfl rfl rfl rfl (rC W (by repeat (first|exact List.Mem.head _|apply List.Mem.tail)) (rN)) (by simp [leK]) (by simp) ?_;intro h';(conv=>whnf);intro W)|(refine CK.close1O 901 21 W rfl rfl rfl rfl rfl rfl rfl (fun h hs=>⟨fun hm=>hs.ne (k:=901) (k':=900) rfl rfl (by decide) (List.mem_singleton.1 hm),fun hm=>hs.ne (k:=21) (k':=900) rfl rfl (by decide) (List.mem_singleton.1 hm)⟩) rfl rfl rfl rfl rfl rfl rfl (rC W (by repeat (first|exact List.Mem.head _|apply List.Mem.tail)) (rN)) (rC W (by repeat (first|exact List.Mem.head _|apply List.Mem.tail)) (rN)) (by simp [leK]) (by simp) ?_;intro h';(conv=>whnf);intro W)|(refine CK.inline (rep:=rep) tO Tryz.func140 rfl (by decide) (rs:=[.tmp 4]) rfl 4 [4] [] rfl rfl rfl ?_)|(refine CK.inline (rep:=rep) tO Tryz.func98 rfl (by decide) (rs:=[.tmp 4]) rfl 4 [4,5,6] [] rfl rfl rfl ?_)|(refine CK.inline (rep:=rep) tO Tryz.func135 rfl (by decide) (rs:=[.tmp 4]) rfl 4 [4,24,30] [] rfl rfl rfl ?_)|fail)));all_goals (try (conv=>whnf)))
 all_goals first|(refine⟨fun h' hs=>W.fin hs rfl (by repeat (first|exact List.Mem.head _|apply List.Mem.tail)) ?_ ⟨by omega,by omega⟩⟩;(simp [aTS,wrapS,rowS,membersS,maybe,bnd,want, *];done))|(simp [aTS,wrapS,rowS,membersS,maybe,bnd,want, *];done)|contradiction
theorem anyType_w3_con(ok:InOk I)(H:Hyp I M g N)(hk:¬ kindT I n=1)(w3:word I n=(⟨#[109,97,112]⟩:ByteArray))(hn:0≤n∧n≤I.L)(hN:32*(I.L+1-n)+3≤N):Con I M 99 [] (aTS I g t n) t n 1:=fun br h hs hB=>by
 refine eP (rep:=rep) (m:=1) (ex:=[0,2,3,4,5,6,14,19,22,39,40,45,59,64,85,99,113,124,134]) (cu:=[]) (args:=[.own 900 br 0]) tO Tryz.func99 rfl (by decide) (rs:=[.tmp 2]) rfl rfl rfl hs ?_
 have W:=Wd.start ok hB
 have hl:=ok.len
 have hlt:=wlt w3 (by decide)
 ((repeat' ((conv=>whnf);(first|(refine Ar.fit (by omega) ?_)|(refine VC.mk (by (first|omega|(and_intros<;>first|omega|rfl|(simp only [maxLen];omega)|(simp only [List.length_append,List.length_take,List.length_replicate,List.length_cons,List.length_nil];omega)))) ?_)|(refine Br.mk ?_ ?_<;>intro hb<;>(try replace hb:=Classical.not_not.1 hb)<;>(try exact absurd hb (show ¬ (ByteArray.mk _=ByteArray.mk _) from by decide))<;>(try (have hlt:=klt hb (by decide)))<;>(try (first|(exfalso;omega)|exact absurd rfl hb|contradiction)))|(refine New.mk ?_;intro b hb)|(refine New2.mk ?_;intro b c hb hbc)|(refine SR.same ?_)|(apply CK.pure;(case hh=>(intro h1 hs;first|exact next_e W.ok W.base hs rfl (by assumption))))|(refine CK.says (.prop _) (fun h1 hs=>named_k W.ok W.base hs rfl _) ?_)|(refine CK.box 901 _ (fun h1 hs=>open_k hs rfl 0) ?_;intro bo hbo)|(refine CK.con W (H (.typ) _ _ (by simp only [need,rank];omega) ⟨by omega,by omega⟩ (by exact trivial)) rfl rfl (fun x hx=>?_) (fun x m bq h' hx hm1 hm2=>?_);rotate_left;(try dsimp only [fstr] at hm1);(conv=>whnf);intro W)|(refine CK.want W (by decide) ⟨by omega,by omega⟩ rfl rfl (fun hx=>?_) (fun hx hm=>?_);rotate_left)|(refine CK.close1O 901 82 W rfl rfl rfl rfl rfl rfl rfl (fun h hs=>⟨fun hm=>hs.ne (k:=901) (k':=900) rfl rfl (by decide) (List.mem_singleton.1 hm),fun hm=>hs.ne (k:=82) (k':=900) rfl rfl (by decide) (List.mem_singleton.1 hm)⟩) rfl rfl rfl rfl rfl rfl rfl (rC W (by repeat (first|exact List.Mem.head _|apply List.Mem.tail)) (rN)) (rC W (by repeat (first|exact List.Mem.head _|apply List.Mem.tail)) (rN)) (by simp [leK]) (by simp) ?_;intro h';(conv=>whnf);intro W)|(refine CK.inline (rep:=rep) tO Tryz.func140 rfl (by decide) (rs:=[.tmp 4]) rfl 4 [4] [] rfl rfl rfl ?_)|fail)));all_goals (try (conv=>whnf)))
 all_goals first|(refine⟨fun h' hs=>W.fin hs rfl (by repeat (first|exact List.Mem.head _|apply List.Mem.tail)) ?_ ⟨by omega,by omega⟩⟩;(simp [aTS,wrapS,rowS,membersS,maybe,bnd,want, *];done))|(simp [aTS,wrapS,rowS,membersS,maybe,bnd,want, *];done)|contradiction
theorem anyType_w4_con(ok:InOk I)(H:Hyp I M g N)(hk:¬ kindT I n=1)(w4:word I n=(⟨#[99,104,97,110]⟩:ByteArray))(hn:0≤n∧n≤I.L)(hN:32*(I.L+1-n)+3≤N):Con I M 99 [] (aTS I g t n) t n 1:=fun br h hs hB=>by
 refine eP (rep:=rep) (m:=1) (ex:=[0,2,3,4,5,6,14,19,22,39,40,45,59,64,85,99,113,124,134]) (cu:=[]) (args:=[.own 900 br 0]) tO Tryz.func99 rfl (by decide) (rs:=[.tmp 2]) rfl rfl rfl hs ?_
 have W:=Wd.start ok hB
 have hl:=ok.len
 have hlt:=wlt w4 (by decide)
 ((repeat' ((conv=>whnf);(first|(refine Ar.fit (by omega) ?_)|(refine VC.mk (by (first|omega|(and_intros<;>first|rfl|(simp only [maxLen];omega)))) ?_)|(refine Br.mk ?_ ?_<;>intro hb<;>(try replace hb:=Classical.not_not.1 hb)<;>(try exact absurd hb (show ¬ (ByteArray.mk _=ByteArray.mk _) from by decide))<;>(try (have hlt:=klt hb (by decide)))<;>(try (first|(exfalso;omega)|exact absurd rfl hb)))|(refine New.mk ?_;intro b hb)|(apply CK.pure;(case hh=>(intro h1 hs;first|exact next_e W.ok W.base hs rfl (by assumption))))|(refine CK.says (.prop _) (fun h1 hs=>named_k W.ok W.base hs rfl _) ?_)|(refine CK.box 901 _ (fun h1 hs=>open_k hs rfl 0) ?_;intro bo hbo)|(refine CK.con W (H (.typ) _ _ (by simp only [need,rank];omega) ⟨by omega,by omega⟩ (by exact trivial)) rfl rfl (fun x hx=>?_) (fun x m bq h' hx hm1 hm2=>?_);rotate_left;(try dsimp only [fstr] at hm1);(conv=>whnf);intro W)|(refine CK.maybe W.ok W.base (by decide) rfl rfl (fun hx hm=>?_) (fun hx=>?_))|(refine CK.cO 901 W rfl rfl rfl (fun h hs hm=>hs.ne (k:=901) (k':=900) rfl rfl (by decide) (List.mem_singleton.1 hm)) rfl rfl rfl rfl rfl rfl (rC W (by repeat (first|exact List.Mem.head _|apply List.Mem.tail)) (rN)) (by simp [leK]) (by simp) ?_;intro h';(conv=>whnf);intro W)|(refine CK.inline (rep:=rep) tO Tryz.func140 rfl (by decide) (rs:=[.tmp 4]) rfl 4 [4] [] rfl rfl rfl ?_)|fail)));all_goals (try (conv=>whnf)))
 all_goals first|(refine⟨fun h' hs=>W.fin hs rfl (by repeat (first|exact List.Mem.head _|apply List.Mem.tail)) ?_ ⟨by omega,by omega⟩⟩;(simp [aTS,wrapS,rowS,membersS,maybe,bnd,want, *];done))|(simp [aTS,wrapS,rowS,membersS,maybe,bnd,want, *];done)|contradiction
theorem anyType_w5_con(ok:InOk I)(H:Hyp I M g N)(hk:¬ kindT I n=1)(w5:word I n=(⟨#[60,45]⟩:ByteArray))(hn:0≤n∧n≤I.L)(hN:32*(I.L+1-n)+3≤N):Con I M 99 [] (aTS I g t n) t n 1:=fun br h hs hB=>by
 refine eP (rep:=rep) (m:=1) (ex:=[0,2,3,4,5,6,14,19,22,39,40,45,59,64,85,99,113,124,134]) (cu:=[]) (args:=[.own 900 br 0]) tO Tryz.func99 rfl (by decide) (rs:=[.tmp 2]) rfl rfl rfl hs ?_
 have W:=Wd.start ok hB
 have hl:=ok.len
 have hlt:=wlt w5 (by decide)
 ((repeat' ((conv=>whnf);(first|(refine Ar.fit (by omega) ?_)|(refine VC.mk (by (first|omega|(and_intros<;>first|rfl|(simp only [maxLen];omega)))) ?_)|(refine Br.mk ?_ ?_<;>intro hb<;>(try replace hb:=Classical.not_not.1 hb)<;>(try exact absurd hb (show ¬ (ByteArray.mk _=ByteArray.mk _) from by decide))<;>(try (have hlt:=klt hb (by decide)))<;>(try (first|(exfalso;omega)|exact absurd rfl hb)))|(refine New.mk ?_;intro b hb)|(apply CK.pure;(case hh=>(intro h1 hs;first|exact next_e W.ok W.base hs rfl (by assumption))))|(refine CK.says (.prop _) (fun h1 hs=>named_k W.ok W.base hs rfl _) ?_)|(refine CK.box 901 _ (fun h1 hs=>open_k hs rfl 0) ?_;intro bo hbo)|(refine CK.con W (H (.typ) _ _ (by simp only [need,rank];omega) ⟨by omega,by omega⟩ (by exact trivial)) rfl rfl (fun x hx=>?_) (fun x m bq h' hx hm1 hm2=>?_);rotate_left;(try dsimp only [fstr] at hm1);(conv=>whnf);intro W)|(refine CK.want W (by decide) ⟨by omega,by omega⟩ rfl rfl (fun hx=>?_) (fun hx hm=>?_);rotate_left)|(refine CK.cO 901 W rfl rfl rfl (fun h hs hm=>hs.ne (k:=901) (k':=900) rfl rfl (by decide) (List.mem_singleton.1 hm)) rfl rfl rfl rfl rfl rfl (rC W (by repeat (first|exact List.Mem.head _|apply List.Mem.tail)) (rN)) (by simp [leK]) (by simp) ?_;intro h';(conv=>whnf);intro W)|(refine CK.inline (rep:=rep) tO Tryz.func140 rfl (by decide) (rs:=[.tmp 4]) rfl 4 [4] [] rfl rfl rfl ?_)|fail)));all_goals (try (conv=>whnf)))
 all_goals first|(refine⟨fun h' hs=>W.fin hs rfl (by repeat (first|exact List.Mem.head _|apply List.Mem.tail)) ?_ ⟨by omega,by omega⟩⟩;(simp [aTS,wrapS,rowS,membersS,maybe,bnd,want, *];done))|(simp [aTS,wrapS,rowS,membersS,maybe,bnd,want, *];done)|contradiction
theorem anyType_w6_con(ok:InOk I)(H:Hyp I M g N)(hk:¬ kindT I n=1)(w6:word I n=(⟨#[102,117,110,99]⟩:ByteArray))(hn:0≤n∧n≤I.L)(hN:32*(I.L+1-n)+3≤N):Con I M 99 [] (aTS I g t n) t n 1:=fun br h hs hB=>by
 refine eP (rep:=rep) (m:=1) (ex:=[0,2,3,4,5,6,14,19,22,39,40,45,59,64,85,99,113,124,134]) (cu:=[]) (args:=[.own 900 br 0]) tO Tryz.func99 rfl (by decide) (rs:=[.tmp 2]) rfl rfl rfl hs ?_
 have W:=Wd.start ok hB
 have hl:=ok.len
 have hlt:=wlt w6 (by decide)
 ((repeat' ((conv=>whnf);(first|(refine Ar.fit (by omega) ?_)|(refine VC.mk (by (first|omega|(and_intros<;>first|rfl|(simp only [maxLen];omega)))) ?_)|(refine Br.mk ?_ ?_<;>intro hb<;>(try replace hb:=Classical.not_not.1 hb)<;>(try exact absurd hb (show ¬ (ByteArray.mk _=ByteArray.mk _) from by decide))<;>(try (have hlt:=klt hb (by decide)))<;>(try (first|(exfalso;omega)|exact absurd rfl hb)))|(refine New.mk ?_;intro b hb)|(apply CK.pure;(case hh=>(intro h1 hs;first|exact next_e W.ok W.base hs rfl (by assumption))))|(refine CK.says (.prop _) (fun h1 hs=>named_k W.ok W.base hs rfl _) ?_)|(refine CK.box 901 _ (fun h1 hs=>open_k hs rfl 0) ?_;intro bo hbo)|(refine CK.con W (H (.signature) _ _ (by simp only [need,rank];omega) ⟨by omega,by omega⟩ (by exact trivial)) rfl rfl (fun x hx=>?_) (fun x m bq h' hx hm1 hm2=>?_);rotate_left;(try dsimp only [fstr] at hm1);(conv=>whnf);intro W)|(refine CK.cO 901 W rfl rfl rfl (fun h hs hm=>hs.ne (k:=901) (k':=900) rfl rfl (by decide) (List.mem_singleton.1 hm)) rfl rfl rfl rfl rfl rfl (rC W (by repeat (first|exact List.Mem.head _|apply List.Mem.tail)) (rN)) (by simp [leK]) (by simp) ?_;intro h';(conv=>whnf);intro W)|fail)));all_goals (try (conv=>whnf)))
 all_goals first|(refine⟨fun h' hs=>W.fin hs rfl (by repeat (first|exact List.Mem.head _|apply List.Mem.tail)) ?_ ⟨by omega,by omega⟩⟩;(simp [aTS,wrapS,rowS,membersS,maybe,bnd,want, *];done))|(simp [aTS,wrapS,rowS,membersS,maybe,bnd,want, *];done)|contradiction
theorem anyType_w7_con(ok:InOk I)(H:Hyp I M g N)(hk:¬ kindT I n=1)(w7:word I n=(⟨#[115,116,114,117,99,116]⟩:ByteArray))(hn:0≤n∧n≤I.L)(hN:32*(I.L+1-n)+3≤N):Con I M 99 [] (aTS I g t n) t n 1:=fun br h hs hB=>by
 refine eP (rep:=rep) (m:=1) (ex:=[0,2,3,4,5,6,14,19,22,39,40,45,59,64,85,99,113,124,134]) (cu:=[]) (args:=[.own 900 br 0]) tO Tryz.func99 rfl (by decide) (rs:=[.tmp 2]) rfl rfl rfl hs ?_
 have W:=Wd.start ok hB
 have hl:=ok.len
 have hlt:=wlt w7 (by decide)
 ((repeat' ((conv=>whnf);(first|(refine Ar.fit (by omega) ?_)|(refine VC.mk (by (first|omega|(and_intros<;>first|rfl|(simp only [maxLen];omega)))) ?_)|(refine Br.mk ?_ ?_<;>intro hb<;>(try replace hb:=Classical.not_not.1 hb)<;>(try exact absurd hb (show ¬ (ByteArray.mk _=ByteArray.mk _) from by decide))<;>(try (have hlt:=klt hb (by decide)))<;>(try (first|(exfalso;omega)|exact absurd rfl hb)))|(refine New.mk ?_;intro b hb)|(apply CK.pure;(case hh=>(intro h1 hs;first|exact next_e W.ok W.base hs rfl (by assumption))))|(refine CK.says (.prop _) (fun h1 hs=>named_k W.ok W.base hs rfl _) ?_)|(refine CK.box 901 _ (fun h1 hs=>open_k hs rfl 0) ?_;intro bo hbo)|(refine CK.rowsP W (by decide) (by decide) ⟨by omega,by omega⟩ (fun m hm1 hm2=>H .field _ m (by simp only [need,rank];omega) ⟨by omega,hm2⟩ trivial) rfl rfl (fun x hx=>?_) (fun l w' m A len c ps h' hx hm1 hm2 hm3=>?_);rotate_left;(conv=>whnf);intro W)|(refine CK.listH W rfl rfl (by repeat (first|exact List.Mem.head _|apply List.Mem.tail)) (by decide) ?_;intro b h' W)|(refine CK.want W (by decide) ⟨by omega,by omega⟩ rfl rfl (fun hx=>?_) (fun hx hm=>?_);rotate_left)|(refine CK.cO 901 W rfl rfl rfl (fun h hs hm=>hs.ne (k:=901) (k':=900) rfl rfl (by decide) (List.mem_singleton.1 hm)) rfl rfl rfl rfl rfl rfl (rC W (by repeat (first|exact List.Mem.head _|apply List.Mem.tail)) (rN)) (by simp [leK]) (by simp) ?_;intro h';(conv=>whnf);intro W)|(refine CK.inline (rep:=rep) tO Tryz.func137 rfl (by decide) (rs:=[.tmp 8]) rfl 4 [8,9] [] rfl rfl rfl ?_)|fail)));all_goals (try (conv=>whnf)))
 all_goals first|(refine⟨fun h' hs=>W.fin hs rfl (by repeat (first|exact List.Mem.head _|apply List.Mem.tail)) ?_ ⟨by omega,by omega⟩⟩;(simp [aTS,wrapS,rowS,membersS,maybe,bnd,want, *];done))|(simp [aTS,wrapS,rowS,membersS,maybe,bnd,want, *];done)|contradiction
theorem anyType_w8_con(ok:InOk I)(H:Hyp I M g N)(hk:¬ kindT I n=1)(w8:word I n=(⟨#[105,110,116,101,114,102,97,99,101]⟩:ByteArray))(hn:0≤n∧n≤I.L)(hN:32*(I.L+1-n)+3≤N):Con I M 99 [] (aTS I g t n) t n 1:=fun br h hs hB=>by
 refine eP (rep:=rep) (m:=1) (ex:=[0,2,3,4,5,6,14,19,22,39,40,45,59,64,85,99,113,124,134]) (cu:=[]) (args:=[.own 900 br 0]) tO Tryz.func99 rfl (by decide) (rs:=[.tmp 2]) rfl rfl rfl hs ?_
 have W:=Wd.start ok hB
 have hl:=ok.len
 have hlt:=wlt w8 (by decide)
 ((repeat' ((conv=>whnf);(first|(refine Ar.fit (by omega) ?_)|(refine VC.mk (by (first|omega|(and_intros<;>first|rfl|(simp only [maxLen];omega)))) ?_)|(refine Br.mk ?_ ?_<;>intro hb<;>(try replace hb:=Classical.not_not.1 hb)<;>(try exact absurd hb (show ¬ (ByteArray.mk _=ByteArray.mk _) from by decide))<;>(try (have hlt:=klt hb (by decide)))<;>(try (first|(exfalso;omega)|exact absurd rfl hb)))|(refine New.mk ?_;intro b hb)|(apply CK.pure;(case hh=>(intro h1 hs;first|exact next_e W.ok W.base hs rfl (by assumption))))|(refine CK.says (.prop _) (fun h1 hs=>named_k W.ok W.base hs rfl _) ?_)|(refine CK.box 901 _ (fun h1 hs=>open_k hs rfl 0) ?_;intro bo hbo)|(refine CK.rowsP W (by decide) (by decide) ⟨by omega,by omega⟩ (fun m hm1 hm2=>H .elem _ m (by simp only [need,rank];omega) ⟨by omega,hm2⟩ trivial) rfl rfl (fun x hx=>?_) (fun l w' m A len c ps h' hx hm1 hm2 hm3=>?_);rotate_left;(conv=>whnf);intro W)|(refine CK.listH W rfl rfl (by repeat (first|exact List.Mem.head _|apply List.Mem.tail)) (by decide) ?_;intro b h' W)|(refine CK.want W (by decide) ⟨by omega,by omega⟩ rfl rfl (fun hx=>?_) (fun hx hm=>?_);rotate_left)|(refine CK.cO 901 W rfl rfl rfl (fun h hs hm=>hs.ne (k:=901) (k':=900) rfl rfl (by decide) (List.mem_singleton.1 hm)) rfl rfl rfl rfl rfl rfl (rC W (by repeat (first|exact List.Mem.head _|apply List.Mem.tail)) (rN)) (by simp [leK]) (by simp) ?_;intro h';(conv=>whnf);intro W)|(refine CK.inline (rep:=rep) tO Tryz.func137 rfl (by decide) (rs:=[.tmp 8]) rfl 4 [8,9] [] rfl rfl rfl ?_)|fail)));all_goals (try (conv=>whnf)))
 all_goals first|(refine⟨fun h' hs=>W.fin hs rfl (by repeat (first|exact List.Mem.head _|apply List.Mem.tail)) ?_ ⟨by omega,by omega⟩⟩;(simp [aTS,wrapS,rowS,membersS,maybe,bnd,want, *];done))|(simp [aTS,wrapS,rowS,membersS,maybe,bnd,want, *];done)|contradiction
theorem anyType_d_con(ok:InOk I)(H:Hyp I M g N)(hk:¬ kindT I n=1)(w0:¬ word I n=(⟨#[42]⟩:ByteArray))(w1:¬ word I n=(⟨#[40]⟩:ByteArray))(w2:¬ word I n=(⟨#[91]⟩:ByteArray))(w3:¬ word I n=(⟨#[109,97,112]⟩:ByteArray))(w4:¬ word I n=(⟨#[99,104,97,110]⟩:ByteArray))(w5:¬ word I n=(⟨#[60,45]⟩:ByteArray))(w6:¬ word I n=(⟨#[102,117,110,99]⟩:ByteArray))(w7:¬ word I n=(⟨#[115,116,114,117,99,116]⟩:ByteArray))(w8:¬ word I n=(⟨#[105,110,116,101,114,102,97,99,101]⟩:ByteArray))(hn:0≤n∧n≤I.L)(hN:32*(I.L+1-n)+3≤N):Con I M 99 [] (aTS I g t n) t n 1:=fun br h hs hB=>by
 refine eP (rep:=rep) (m:=1) (ex:=[0,2,3,4,5,6,14,19,22,39,40,45,59,64,85,99,113,124,134]) (cu:=[]) (args:=[.own 900 br 0]) tO Tryz.func99 rfl (by decide) (rs:=[.tmp 2]) rfl rfl rfl hs ?_
 have W:=Wd.start ok hB
 have hl:=ok.len
 ((repeat' ((conv=>whnf);(first|(refine VC.mk (by omega) ?_)|(refine Br.mk ?_ ?_<;>intro hb<;>(try replace hb:=Classical.not_not.1 hb)<;>(try exact absurd hb (show ¬ (ByteArray.mk _=ByteArray.mk _) from by decide))<;>(try (first|have hlt:=wlt hb (by decide)|have hlt:=klt hb (by decide)))<;>(try (first|(exfalso;omega)|contradiction)))|(apply CK.pure;(case hh=>(intro h1 hs;first|exact next_k W.ok W.base hs rfl)))|(refine CK.says (.prop _) (fun h1 hs=>named_k W.ok W.base hs rfl _) ?_)|(refine CK.box 901 _ (fun h1 hs=>open_k hs rfl 0) ?_;intro bo hbo)|(refine CK.fail W rfl rfl ⟨by omega,by omega⟩ ?_)|fail)));all_goals (try (conv=>whnf)))
 all_goals first|(refine⟨fun h' hs=>W.fin hs rfl (by repeat (first|exact List.Mem.head _|apply List.Mem.tail)) ?_ ⟨by omega,by omega⟩⟩;(simp [aTS,wrapS,rowS,membersS,maybe,bnd,want, *];done))|(simp [aTS,wrapS,rowS,membersS,maybe,bnd,want, *];done)|contradiction
theorem anyType_con(ok:InOk I)(H:Hyp I M g N)(hn:0≤n∧n≤I.L)(hN:32*(I.L+1-n)+3≤N):Con I M 99 [] (aTS I g t n) t n 1:=by
 by_cases hk:kindT I n=1
 ·exact anyType_k_con ok H hk hn hN
 by_cases w0:word I n=(⟨#[42]⟩:ByteArray)
 ·exact anyType_w0_con ok H hk w0 hn hN
 by_cases w1:word I n=(⟨#[40]⟩:ByteArray)
 ·exact anyType_w1_con ok H hk w1 hn hN
 by_cases w2:word I n=(⟨#[91]⟩:ByteArray)
 ·exact anyType_w2_con ok H hk w2 hn hN
 by_cases w3:word I n=(⟨#[109,97,112]⟩:ByteArray)
 ·exact anyType_w3_con ok H hk w3 hn hN
 by_cases w4:word I n=(⟨#[99,104,97,110]⟩:ByteArray)
 ·exact anyType_w4_con ok H hk w4 hn hN
 by_cases w5:word I n=(⟨#[60,45]⟩:ByteArray)
 ·exact anyType_w5_con ok H hk w5 hn hN
 by_cases w6:word I n=(⟨#[102,117,110,99]⟩:ByteArray)
 ·exact anyType_w6_con ok H hk w6 hn hN
 by_cases w7:word I n=(⟨#[115,116,114,117,99,116]⟩:ByteArray)
 ·exact anyType_w7_con ok H hk w7 hn hN
 by_cases w8:word I n=(⟨#[105,110,116,101,114,102,97,99,101]⟩:ByteArray)
 ·exact anyType_w8_con ok H hk w8 hn hN
 exact anyType_d_con ok H hk w0 w1 w2 w3 w4 w5 w6 w7 w8 hn hN
end
end Go.Ex
namespace Go.Ex
open Go.Proofs
attribute [local irreducible] CH CsP word kindT
section
variable {I:In}{M:Loc}{g:Gt}{N:Int}{t:Bool}{n:Int}
structure SB where
 h:Heap
 m:Int
 b:Nat
 x:Nd
theorem levelF_rng(w:ByteArray):0≤levelF w∧levelF w≤5:=by
 unfold levelF
 repeat' split
 all_goals omega
theorem level_lt{n:Int}(h:1≤levelF (word I n)):0≤n∧n<I.L:=word_lt fun e=>by
 rw [e] at h
 revert h
 decide
theorem binary_con(ok:InOk I)(H:Hyp I M g N){least:Int}(hle:1≤least)(hn:0≤n∧n≤I.L)(hN:32*(I.L+1-n)+9≤N):Con I M 100 [.int .i64 least] (binaryS I g least t n) t n 1:=fun br h hs hB=>by
 refine eP (rep:=rep) (m:=2) (ex:=[0,1,4,5,6,7,8,9,21]) (cu:=[]) (args:=[.own 900 br 0,.val (.int .i64 least)]) tO Tryz.func100 rfl (by decide) (rs:=[.tmp 4]) rfl rfl rfl hs ?_
 have W:=Wd.start ok hB
 have hl:=ok.len
 ((repeat' ((conv=>whnf);(first|(refine VC.mk (by omega) ?_)|(refine CK.con W (H (.unary) _ _ (by simp only [need,rank];omega) ⟨by omega,by omega⟩ (by exact trivial)) rfl rfl (fun x hx=>?_) (fun x m bq h' hx hm1 hm2=>?_);rotate_left;(try dsimp only [fstr] at hm1);(conv=>whnf);intro W)|fail)));all_goals (try (conv=>whnf)))
 case refine_1=>simp [binaryS,bnd, *]
 obtain⟨R,hR⟩:∃ R,binGo I g t least n (fuel I m) x m=R:=⟨_,rfl⟩
 have hRS:binaryS I g least t n=R:=by simp only [binaryS,hx,bnd_ok,hR]
 rw [hRS]
 refine lgn tO [6] (fun x:SB=>[(6,.val (.pointer (some ⟨x.b,0,none⟩)))]) (fun x=>⟨x.h,[br],rdC I M br t x.m⟩)
  (fun μ x=>Wd I M [br] h x.h [br] [.one (some ⟨x.b,0,none⟩) x.x]∧(n+1≤x.m∧x.m≤I.L∧I.L+1-x.m≤μ)∧binGo I g t least n μ x.x x.m=R) ?_
 conv=>whnf
 refine⟨fun h1 hs=>?_,?_⟩
 ·refine⟨fuel I m,⟨h1,m,bq,x⟩,⟨(W.anew (hs.lB.less (blk1 (k:=900) rfl))).of (fun e he=>he),⟨hm1,hm2,by dsimp only [fuel];omega⟩,hR⟩,?_,rd_at hs (k:=900) rfl⟩
  (repeat (refine And.intro ⟨_,rfl,rfl⟩ ?_));exact trivial
 clear hx hm1 hm2 W hR
 rintro μ ⟨h1,mm,b2,x⟩ ⟨W,⟨r0,r1,r2⟩,r3⟩
 dsimp only at W r0 r1 r2 r3 ⊢
 obtain⟨f,rfl⟩:∃ f,μ=f+1:=⟨μ-1,by omega⟩
 simp only [binGo] at r3
 have hlv:=levelF_rng (word I mm)
 by_cases hk:levelF (word I mm)<least
 ·rw [if_pos hk] at r3
  ((repeat' ((conv=>whnf);(first|(refine Br.mk ?_ ?_<;>intro hb<;>(try replace hb:=Classical.not_not.1 hb)<;>(try exact absurd hb (show ¬ (ByteArray.mk _=ByteArray.mk _) from by decide))<;>(try (exfalso;omega)))|(apply CK.pure;(case hh=>(intro h1 hs;first|exact next_k W.ok W.base hs rfl)))|(apply CK.pure;(case hh=>(intro h1 hs;exact level_any _ h1)))|fail)));all_goals (try (conv=>whnf)))
  all_goals exact⟨fun h' hs=>W.fin hs rfl (by repeat (first|exact List.Mem.head _|apply List.Mem.tail)) r3.symm ⟨by omega,by omega⟩⟩
 ·rw [if_neg hk] at r3
  have hlt:=level_lt (I:=I) (n:=mm) (by omega)
  ((repeat' ((conv=>whnf);(first|(refine Ar.fit (by omega) ?_)|(refine VC.mk (by (first|omega|(and_intros<;>first|rfl|(simp only [maxLen];omega)))) ?_)|(refine Br.mk ?_ ?_<;>intro hb<;>(try replace hb:=Classical.not_not.1 hb)<;>(try exact absurd hb (show ¬ (ByteArray.mk _=ByteArray.mk _) from by decide))<;>(try (exfalso;omega)))|(refine New.mk ?_;intro b hb)|(apply CK.pure;(case hh=>(intro h1 hs;first|exact next_k W.ok W.base hs rfl)))|(apply CK.pure;(case hh=>(intro h1 hs;exact level_any _ h1)))|(refine CK.con W (H (.binary _) _ _ (by simp only [need,rank];omega) ⟨by omega,by omega⟩ (by (simp only [fpre];omega))) rfl rfl (fun x hx=>?_) (fun x m bq h' hx hm1 hm2=>?_);rotate_left;(try dsimp only [fstr] at hm1);(conv=>whnf);intro W)|fail)));all_goals (try (conv=>whnf)))
  all_goals first
   |(rw [hx] at r3;rw [←r3];rfl)
   | (rw [hx,bnd_ok] at r3
      intro h2 hs
      refine⟨f,⟨h2,m,_,_⟩,⟨(W.stand (kn:=48) (kf:=46) hs rfl rfl rfl rfl rfl rfl (rC W (.tail _ (.head _)) (rC W (.head _) rN)) (by simp [leK])).of (fun e he=>by rw [List.mem_singleton.1 he];exact List.mem_cons_self),⟨by dsimp only;omega,by dsimp only;omega,by dsimp only;omega⟩,r3⟩,Nat.lt_succ_self f,?_,rd_at hs (k:=900) rfl⟩
      (repeat (refine And.intro ⟨_,rfl,rfl⟩ ?_));exact trivial)
end
end Go.Ex
