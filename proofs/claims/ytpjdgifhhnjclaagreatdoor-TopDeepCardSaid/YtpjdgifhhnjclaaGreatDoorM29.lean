/-
  Top: TopDeep: whatever the input, the law answers true (part 29)
-/
import Derived.Test.YtpjdgifhhnjclaaGreatDoorM28
set_option linter.unusedVariables false
set_option linter.unusedSimpArgs false
set_option maxHeartbeats 4000000
set_option maxRecDepth 10000
namespace Go.Ex
open Go.Proofs
attribute [local irreducible] CH CsP word kindT
theorem level_any(w:ByteArray)(h:Heap):CH Tryz.prog 142 #[.string w] h fun v h'=>v = .int .i64 (levelF w)∧Grows h h':=by
 refine enter (rep:=rep) (m:=1) (ex:=[0,2,3,4,6,8,15,20]) (cu:=[]) tO Tryz.func142 rfl (by decide) (rs:=[.tmp 2]) rfl rfl [.val (.string w)] rfl ?_
 simp only [levelF]
 ((repeat' ((conv=>whnf);(first|(refine Br.mk ?_ ?_<;>intro hb<;>(try (contradiction)))|fail)));all_goals (try (conv=>whnf)))
 all_goals exact⟨fun h' hs=>⟨int_eq (by simp [*]),hs.grows⟩⟩
theorem assigns_any(w:ByteArray)(h:Heap):CH Tryz.prog 229 #[.string w] h fun v h'=>v=denC (.prop (assignsP w))∧Grows h h':=by
 refine enter (rep:=rep) (m:=1) (ex:=[0,2,3,4]) (cu:=[]) tO Tryz.func229 rfl (by decide) (rs:=[.tmp 2]) rfl rfl [.val (.string w)] rfl ?_
 ((repeat' ((conv=>whnf);(first|(refine Br.mk ?_ ?_<;>intro hb<;>(try (contradiction)))|fail)));all_goals (try (conv=>whnf)))
 all_goals first
  |exact⟨fun h' hs=>⟨bool_yes (by simp [assignsP, *]),hs.grows⟩⟩
  |exact⟨fun h' hs=>⟨bool_no (by simp [assignsP, *]),hs.grows⟩⟩
theorem asg_lt{I:In}{n:Int}(h:assignsP (word I n)):0≤n∧n<I.L:=word_lt fun e=>by
 rw [e] at h
 revert h
 decide
section
variable {I:In}{M:Loc}{br:Nat}{t:Bool}{n:Int}{h:Heap}{S:St}
theorem quiet_any(ok:InOk I)(hs:HS ⟨h,[br],rdC I M br t n⟩ h)(hB:Base I M h [br]):CH Tryz.prog 172 #[ptr br] h fun v h'=>v=denC (.prop (quietP I n))∧Grows h h':=by
 refine eIn (rep:=rep) (m:=1) (ex:=[0,2]) (cu:=[]) (args:=[.own 900 br 0]) tO Tryz.func172 rfl (by decide) (rs:=[.tmp 2]) rfl rfl rfl hs ?_
 have hs0:=hs
 have W:=Wd.start ok hB
 ((repeat' ((conv=>whnf);(first|(refine Br.mk ?_ ?_<;>intro hb<;>(try replace hb:=Classical.not_not.1 hb)<;>(try exact absurd hb (show ¬ (ByteArray.mk _=ByteArray.mk _) from by decide))<;>(try (have hlt:=wlt hb (by decide))))|(apply CK.pure;(case hh=>(intro h1 hs;first|exact next_k W.ok W.base hs rfl)))|(refine CK.says (.prop _) (fun h1 hs=>ended_k W.ok W.base hs rfl) ?_)|fail)));all_goals (try (conv=>whnf)))
 all_goals first
  |exact⟨fun h' hs=>⟨bool_yes (by simp [quietP, *]),hs0.gB hs rfl⟩⟩
  |exact⟨fun h' hs=>⟨bool_no (by simp [quietP, *]),hs0.gB hs rfl⟩⟩
  |exact⟨fun h' hs=>⟨prop_eq (by simp [quietP, *]),hs0.gB hs rfl⟩⟩
theorem quiet_k(ok:InOk I)(hb:Base I M S.h0 S.cap)(hs:HS S h)(hf:findC S.ch 900=some (br,rdB I M t n)):CH Tryz.prog 172 #[ptr br] h fun v h'=>v=denC (.prop (quietP I n))∧Grows h h':=quiet_any ok (rd_at hs hf) (hb.at1 hs hf)
theorem across_any(ok:InOk I)(hs:HS ⟨h,[br],rdC I M br t n⟩ h)(hB:Base I M h [br])(i:Int)(hi:i≤2000000):CH Tryz.prog 189 #[ptr br,.int .i64 i] h fun v h'=>(acrossP I i→v = .tuple #[.int .i64 (acrossN I i),.bool true])∧(¬ acrossP I i→v = .tuple #[.int .i64 0,.bool false])∧Grows h h':=by
 refine eIn (rep:=rep) (m:=2) (ex:=[0,1,4,5,21]) (cu:=[]) (args:=[.own 900 br 0,.val (.int .i64 i)]) tO Tryz.func189 rfl (by decide) (rs:=[.tmp 4,.tmp 5]) rfl rfl rfl hs ?_
 have hs0:=hs
 have W:=Wd.start ok hB
 have hl:=ok.len
 have hpn:(M.pn:Int)=I.L:=by have:=hB.pair.sl.len_eq;have:=ok.plen;unfold In.L;omega
 have hsl:=hB.pair.sl
 by_cases hw:word I i=(⟨#[91]⟩:ByteArray)
 ·have hlt:=word_lt (I:=I) (n:=i) (by rw [hw];decide)
  have hpr : -1≤getI (intR .i64).dflt I.pair i∧getI (intR .i64).dflt I.pair i<I.L:=ok.prng i hlt.1 hlt.2
  ((repeat' ((conv=>whnf);(first|(refine Ar.fit (by omega) ?_)|(refine VC.mk (by (first|omega|exact Sl.plain (by assumption) (by omega))) ?_)|(refine Br.mk ?_ ?_<;>intro hb<;>(try replace hb:=Classical.not_not.1 hb)<;>(try exact absurd hb (show ¬ (ByteArray.mk _=ByteArray.mk _) from by decide))<;>(try (exact absurd rfl hb)))|(apply CK.pure;(case hh=>(intro h1 hs;first|exact word_e W.ok W.base hs rfl (by assumption))))|(refine XLoad.held hB.pair rfl (by omega) (by omega) rfl ?_)|fail)));all_goals (try (conv=>whnf)))
  ·exact⟨fun h' hs=>⟨fun h=>absurd hb h.2,fun _=>rfl,hs0.gB hs rfl⟩⟩
  ·exact⟨fun h' hs=>⟨fun _=>rfl,fun h=>absurd ⟨hw,hb⟩ h,hs0.gB hs rfl⟩⟩
 ·((repeat' ((conv=>whnf);(first|(refine Br.mk ?_ ?_<;>intro hb<;>(try replace hb:=Classical.not_not.1 hb)<;>(try exact absurd hb (show ¬ (ByteArray.mk _=ByteArray.mk _) from by decide))<;>(try (have hlt:=wlt hb (by decide)))<;>(try (contradiction)))|(apply CK.pure;(case hh=>(intro h1 hs;first|exact word_k W.ok W.base hs rfl _)))|fail)));all_goals (try (conv=>whnf)))
  all_goals exact⟨fun h' hs=>⟨fun h=>absurd h.1 hw,fun _=>rfl,hs0.gB hs rfl⟩⟩
theorem across_t(ok:InOk I)(hb:Base I M S.h0 S.cap)(hs:HS S h)(hf:findC S.ch 900=some (br,rdB I M t n)){i:Int}(hi:i≤2000000)(ha:acrossP I i):CH Tryz.prog 189 #[ptr br,.int .i64 i] h fun v h'=>v = .tuple #[.int .i64 (acrossN I i),.bool true]∧Grows h h':=
 (across_any ok (rd_at hs hf) (hb.at1 hs hf) i hi).mono fun v h' ⟨a,_,c⟩=>⟨a ha,c⟩
theorem across_f(ok:InOk I)(hb:Base I M S.h0 S.cap)(hs:HS S h)(hf:findC S.ch 900=some (br,rdB I M t n)){i:Int}(hi:i≤2000000)(ha:¬ acrossP I i):CH Tryz.prog 189 #[ptr br,.int .i64 i] h fun v h'=>v = .tuple #[.int .i64 0,.bool false]∧Grows h h':=
 (across_any ok (rd_at hs hf) (hb.at1 hs hf) i hi).mono fun v h' ⟨_,b,c⟩=>⟨b ha,c⟩
theorem bare_any(ok:InOk I)(hs:HS ⟨h,[br],rdC I M br t n⟩ h)(hB:Base I M h [br])(hn:0≤n∧n≤I.L):CH Tryz.prog 208 #[ptr br] h fun v h'=>v=denC (.prop (bareP I n))∧Grows h h':=by
 refine eIn (rep:=rep) (m:=1) (ex:=[0,2,3,4,11,18,19]) (cu:=[]) (args:=[.own 900 br 0]) tO Tryz.func208 rfl (by decide) (rs:=[.tmp 2]) rfl rfl rfl hs ?_
 have hs0:=hs
 have W:=Wd.start ok hB
 have hl:=ok.len
 by_cases ha:acrossP I (n+1)
 ·((repeat' ((conv=>whnf);(first|(refine Ar.fit (by omega) ?_)|(refine VC.mk (by omega) ?_)|(refine Br.mk ?_ ?_<;>intro hb<;>(try replace hb:=Classical.not_not.1 hb)<;>(try exact absurd hb (show ¬ (ByteArray.mk _=ByteArray.mk _) from by decide))<;>(try (first|have hlt:=wlt hb (by decide)|have hlt:=klt hb (by decide)))<;>(try (first|exact absurd rfl hb|contradiction)))|(apply CK.pure;(case hh=>(intro h1 hs;first|exact word_k W.ok W.base hs rfl _)))|(refine CK.says (.prop _) (fun h1 hs=>named_k W.ok W.base hs rfl _) ?_)|(apply CK.pure;(case hh=>(intro h1 hs;exact across_t W.ok W.base hs rfl (by omega) ha)))|fail)));all_goals (try (conv=>whnf)))
  all_goals first
   |exact⟨fun h' hs=>⟨bool_yes (by simp [bareP, *]),hs0.gB hs rfl⟩⟩
   |exact⟨fun h' hs=>⟨bool_no (by simp [bareP, *]),hs0.gB hs rfl⟩⟩
   |exact⟨fun h' hs=>⟨prop_eq (by simp [bareP, *]),hs0.gB hs rfl⟩⟩
 ·((repeat' ((conv=>whnf);(first|(refine Ar.fit (by omega) ?_)|(refine VC.mk (by omega) ?_)|(refine Br.mk ?_ ?_<;>intro hb<;>(try replace hb:=Classical.not_not.1 hb)<;>(try exact absurd hb (show ¬ (ByteArray.mk _=ByteArray.mk _) from by decide))<;>(try (first|have hlt:=wlt hb (by decide)|have hlt:=klt hb (by decide)))<;>(try (first|exact Bool.noConfusion hb|contradiction)))|(apply CK.pure;(case hh=>(intro h1 hs;first|exact word_k W.ok W.base hs rfl _)))|(refine CK.says (.prop _) (fun h1 hs=>named_k W.ok W.base hs rfl _) ?_)|(apply CK.pure;(case hh=>(intro h1 hs;exact across_f W.ok W.base hs rfl (by omega) ha)))|fail)));all_goals (try (conv=>whnf)))
  all_goals first
   |exact⟨fun h' hs=>⟨bool_yes (by simp [bareP, *]),hs0.gB hs rfl⟩⟩
   |exact⟨fun h' hs=>⟨bool_no (by simp [bareP, *]),hs0.gB hs rfl⟩⟩
theorem bare_k(ok:InOk I)(hb:Base I M S.h0 S.cap)(hs:HS S h)(hf:findC S.ch 900=some (br,rdB I M t n))(hn:0≤n∧n≤I.L):CH Tryz.prog 208 #[ptr br] h fun v h'=>v=denC (.prop (bareP I n))∧Grows h h':=bare_any ok (rd_at hs hf) (hb.at1 hs hf) hn
theorem generic_any(ok:InOk I)(hs:HS ⟨h,[br],rdC I M br t n⟩ h)(hB:Base I M h [br])(hn:0≤n∧n≤I.L):CH Tryz.prog 176 #[ptr br] h fun v h'=>v=denC (.prop (genericP I n))∧Grows h h':=by
 refine eIn (rep:=rep) (m:=1) (ex:=[0,2,15,22,23]) (cu:=[]) (args:=[.own 900 br 0]) tO Tryz.func176 rfl (by decide) (rs:=[.tmp 2]) rfl rfl rfl hs ?_
 have hs0:=hs
 have W:=Wd.start ok hB
 have hl:=ok.len
 ((repeat' ((conv=>whnf);(first|(refine Ar.fit (by omega) ?_)|(refine VC.mk (by omega) ?_)|(refine Br.mk ?_ ?_<;>intro hb<;>(try replace hb:=Classical.not_not.1 hb)<;>(try exact absurd hb (show ¬ (ByteArray.mk _=ByteArray.mk _) from by decide))<;>(try (first|have hlt:=wlt hb (by decide)|have hlt:=klt hb (by decide)))<;>(try (contradiction)))|(apply CK.pure;(case hh=>(intro h1 hs;first|exact next_k W.ok W.base hs rfl|exact word_k W.ok W.base hs rfl _)))|(refine CK.says (.prop _) (fun h1 hs=>named_k W.ok W.base hs rfl _) ?_)|fail)));all_goals (try (conv=>whnf)))
 all_goals first
  |exact⟨fun h' hs=>⟨bool_yes (by simp [genericP, *]),hs0.gB hs rfl⟩⟩
  |exact⟨fun h' hs=>⟨bool_no (by simp [genericP, *]),hs0.gB hs rfl⟩⟩
  |exact⟨fun h' hs=>⟨prop_eq (by simp [genericP, *]),hs0.gB hs rfl⟩⟩
theorem generic_k(ok:InOk I)(hb:Base I M S.h0 S.cap)(hs:HS S h)(hf:findC S.ch 900=some (br,rdB I M t n))(hn:0≤n∧n≤I.L):CH Tryz.prog 176 #[ptr br] h fun v h'=>v=denC (.prop (genericP I n))∧Grows h h':=generic_any ok (rd_at hs hf) (hb.at1 hs hf) hn
theorem tag_con(ok:InOk I)(hn:0≤n∧n≤I.L):Con I M 166 [] (tagS I n) t n 0:=fun br h hs hB=>by
 refine eP (rep:=rep) (m:=1) (ex:=[0,2,8]) (cu:=[]) (args:=[.own 900 br 0]) tO Tryz.func166 rfl (by decide) (rs:=[.tmp 2]) rfl rfl rfl hs ?_
 have W:=Wd.start ok hB
 have hl:=ok.len
 ((repeat' ((conv=>whnf);(first|(refine VC.mk (by omega) ?_)|(refine Br.mk ?_ ?_<;>intro hb<;>(try replace hb:=Classical.not_not.1 hb)<;>(try exact absurd hb (show ¬ (ByteArray.mk _=ByteArray.mk _) from by decide))<;>(try (have hlt:=klt hb (by decide))))|(refine CK.says (.prop _) (fun h1 hs=>quoted_k W.ok W.base hs rfl _) ?_)|(refine CK.con W (str_con ok ⟨by omega,by omega⟩) rfl rfl (fun x hx=>?_) (fun x m bq h' hx hm1 hm2=>?_);rotate_left;(conv=>whnf);intro W)|(refine CK.sure W (none_con 0 (by decide) ⟨by omega,by omega⟩) rfl rfl ?_;intro bq h';(conv=>whnf);intro W)|fail)));all_goals (try (conv=>whnf)))
 all_goals first|(refine⟨fun h' hs=>W.fin hs rfl (by repeat (first|exact List.Mem.head _|apply List.Mem.tail)) ?_ ⟨by omega,by omega⟩⟩;(simp [tagS,bnd,want, *];done))|(simp [tagS,bnd,want, *];done)|contradiction
end
end Go.Ex
namespace Go.Ex
open Go.Proofs
attribute [local irreducible] CH CsP word kindT
section
variable {I:In}{M:Loc}{g:Gt}{N:Int}{t:Bool}{n:Int}
theorem expr_con(ok:InOk I)(H:Hyp I M g N)(hn:0≤n∧n≤I.L)(hN:32*(I.L+1-n)+10≤N):Con I M 54 [] (exprS g t n) t n 1:=fun br h hs hB=>by
 refine eP (rep:=rep) (m:=1) (ex:=[0,2]) (cu:=[]) (args:=[.own 900 br 0]) tO Tryz.func54 rfl (by decide) (rs:=[.tmp 2]) rfl rfl rfl hs ?_
 have W:=Wd.start ok hB
 have hl:=ok.len
 ((repeat' ((conv=>whnf);(first|(refine CK.con W (H (.binary 1) _ _ (by simp only [need,rank];omega) ⟨by omega,by omega⟩ (by (simp only [fpre];omega))) rfl rfl (fun x hx=>?_) (fun x m bq h' hx hm1 hm2=>?_);rotate_left;(try dsimp only [fstr] at hm1);(conv=>whnf);intro W)|fail)));all_goals (try (conv=>whnf)))
 all_goals first|(refine⟨fun h' hs=>W.fin hs rfl (by repeat (first|exact List.Mem.head _|apply List.Mem.tail)) ?_ ⟨by omega,by omega⟩⟩;(simp [exprS,bnd,want, *];done))|(simp [exprS,bnd,want, *];done)|contradiction
theorem typ_con(ok:InOk I)(H:Hyp I M g N)(hn:0≤n∧n≤I.L)(hN:32*(I.L+1-n)+4≤N):Con I M 53 [] (typS g t n) t n 1:=fun br h hs hB=>by
 refine eP (rep:=rep) (m:=1) (ex:=[0,2]) (cu:=[]) (args:=[.own 900 br 0]) tO Tryz.func53 rfl (by decide) (rs:=[.tmp 2]) rfl rfl rfl hs ?_
 have W:=Wd.start ok hB
 have hl:=ok.len
 ((repeat' ((conv=>whnf);(first|(refine VC.mk (by omega) ?_)|(refine CK.con W (H (.anyType) _ _ (by simp only [need,rank];omega) ⟨by omega,by omega⟩ (by exact trivial)) rfl rfl (fun x hx=>?_) (fun x m bq h' hx hm1 hm2=>?_);rotate_left;(try dsimp only [fstr] at hm1);(conv=>whnf);intro W)|(refine CK.inline (rep:=rep) tO Tryz.func98 rfl (by decide) (rs:=[.tmp 4]) rfl 4 [4,5,6] [] rfl rfl rfl ?_)|fail)));all_goals (try (conv=>whnf)))
 all_goals first|(refine⟨fun h' hs=>W.fin hs rfl (by repeat (first|exact List.Mem.head _|apply List.Mem.tail)) ?_ ⟨by omega,by omega⟩⟩;(simp [typS,bnd,want, *];done))|(simp [typS,bnd,want, *];done)|contradiction
theorem stmts_con(ok:InOk I)(H:Hyp I M g N)(hn:0≤n∧n≤I.L)(hN:32*(I.L+1-n)+22≤N):Con I M 55 [] (stmtsS g t n) t n 0:=fun br h hs hB=>by
 refine eP (rep:=rep) (m:=1) (ex:=[0,2]) (cu:=[]) (args:=[.own 900 br 0]) tO Tryz.func55 rfl (by decide) (rs:=[.tmp 2]) rfl rfl rfl hs ?_
 have W:=Wd.start ok hB
 have hl:=ok.len
 ((repeat' ((conv=>whnf);(first|(refine VC.mk (by omega) ?_)|(refine CK.con W (H (.anyStmts) _ _ (by simp only [need,rank];omega) ⟨by omega,by omega⟩ (by exact trivial)) rfl rfl (fun x hx=>?_) (fun x m bq h' hx hm1 hm2=>?_);rotate_left;(try dsimp only [fstr] at hm1);(conv=>whnf);intro W)|(refine CK.inline (rep:=rep) tO Tryz.func98 rfl (by decide) (rs:=[.tmp 4]) rfl 4 [4,5,6] [] rfl rfl rfl ?_)|fail)));all_goals (try (conv=>whnf)))
 all_goals first|(refine⟨fun h' hs=>W.fin hs rfl (by repeat (first|exact List.Mem.head _|apply List.Mem.tail)) ?_ ⟨by omega,by omega⟩⟩;(simp [stmtsS,bnd,want, *];done))|(simp [stmtsS,bnd,want, *];done)|contradiction
theorem block_con(ok:InOk I)(H:Hyp I M g N)(hn:0≤n∧n≤I.L)(hN:32*(I.L+1-n)+1≤N):Con I M 153 [] (blockS I g t n) t n 1:=fun br h hs hB=>by
 refine eP (rep:=rep) (m:=1) (ex:=[0,2,3,4]) (cu:=[]) (args:=[.own 900 br 0]) tO Tryz.func153 rfl (by decide) (rs:=[.tmp 2]) rfl rfl rfl hs ?_
 have W:=Wd.start ok hB
 have hl:=ok.len
 ((repeat' ((conv=>whnf);(first|(refine VC.mk (by (first|omega|(and_intros<;>first|rfl|(simp only [maxLen];omega)))) ?_)|(refine New.mk ?_;intro b hb)|(refine CK.box 901 _ (fun h1 hs=>open_k hs rfl 58) ?_;intro bo hbo)|(refine CK.want W (by decide) ⟨by omega,by omega⟩ rfl rfl (fun hx=>?_) (fun hx hm=>?_);rotate_left)|(refine CK.con W (H (.stmts) _ _ (by simp only [need,rank];omega) ⟨by omega,by omega⟩ (by exact trivial)) rfl rfl (fun x hx=>?_) (fun x m bq h' hx hm1 hm2=>?_);rotate_left;(try dsimp only [fstr] at hm1);(conv=>whnf);intro W)|(refine CK.cO 901 W rfl rfl rfl (fun h hs hm=>hs.ne (k:=901) (k':=900) rfl rfl (by decide) (List.mem_singleton.1 hm)) rfl rfl rfl rfl rfl rfl (rC W (by repeat (first|exact List.Mem.head _|apply List.Mem.tail)) (rN)) (by simp [leK]) (by simp) ?_;intro h';(conv=>whnf);intro W)|fail)));all_goals (try (conv=>whnf)))
 all_goals first|(refine⟨fun h' hs=>W.fin hs rfl (by repeat (first|exact List.Mem.head _|apply List.Mem.tail)) ?_ ⟨by omega,by omega⟩⟩;(simp [blockS,bnd,want, *];done))|(simp [blockS,bnd,want, *];done)|contradiction
theorem declared_con(ok:InOk I)(H:Hyp I M g N)(hs0:n<I.L)(hn:0≤n∧n≤I.L)(hN:32*(I.L+1-n)+3≤N):Con I M 198 [] (declaredS g t n) t n 1:=fun br h hs hB=>by
 refine eP (rep:=rep) (m:=1) (ex:=[0,2,3]) (cu:=[]) (args:=[.own 900 br 0]) tO Tryz.func198 rfl (by decide) (rs:=[.tmp 2]) rfl rfl rfl hs ?_
 have W:=Wd.start ok hB
 have hl:=ok.len
 ((repeat' ((conv=>whnf);(first|(refine VC.mk (by (first|omega|(and_intros<;>first|rfl|(simp only [maxLen];omega)))) ?_)|(refine New.mk ?_;intro b hb)|(refine CK.box 901 _ (fun h1 hs=>open_k hs rfl 68) ?_;intro bo hbo)|(refine CK.con W (H (.group) _ _ (by simp only [need,rank];omega) ⟨by omega,by omega⟩ (by (simp only [fpre];omega))) rfl rfl (fun x hx=>?_) (fun x m bq h' hx hm1 hm2=>?_);rotate_left;(try dsimp only [fstr] at hm1);(conv=>whnf);intro W)|(refine CK.cO 901 W rfl rfl rfl (fun h hs hm=>hs.ne (k:=901) (k':=900) rfl rfl (by decide) (List.mem_singleton.1 hm)) rfl rfl rfl rfl rfl rfl (rC W (by repeat (first|exact List.Mem.head _|apply List.Mem.tail)) (rN)) (by simp [leK]) (by simp) ?_;intro h';(conv=>whnf);intro W)|fail)));all_goals (try (conv=>whnf)))
 all_goals first|(refine⟨fun h' hs=>W.fin hs rfl (by repeat (first|exact List.Mem.head _|apply List.Mem.tail)) ?_ ⟨by omega,by omega⟩⟩;(simp [declaredS,bnd,want, *];done))|(simp [declaredS,bnd,want, *];done)|contradiction
theorem started_con(ok:InOk I)(H:Hyp I M g N)(hs0:n<I.L)(hn:0≤n∧n≤I.L)(hN:32*(I.L+1-n)+1≤N):Con I M 199 [] (startedS I g t n) t n 1:=fun br h hs hB=>by
 refine eP (rep:=rep) (m:=1) (ex:=[0,2,3,8]) (cu:=[]) (args:=[.own 900 br 0]) tO Tryz.func199 rfl (by decide) (rs:=[.tmp 2]) rfl rfl rfl hs ?_
 have W:=Wd.start ok hB
 have hl:=ok.len
 ((repeat' ((conv=>whnf);(first|(refine Ar.fit (by omega) ?_)|(refine VC.mk (by (first|omega|(and_intros<;>first|rfl|(simp only [maxLen];omega)))) ?_)|(refine Br.mk ?_ ?_<;>intro hb<;>(try replace hb:=Classical.not_not.1 hb)<;>(try exact absurd hb (show ¬ (ByteArray.mk _=ByteArray.mk _) from by decide))<;>(try (have hlt:=wlt hb (by decide))))|(refine New.mk ?_;intro b hb)|(apply CK.pure;(case hh=>(intro h1 hs;first|exact next_k W.ok W.base hs rfl)))|(refine CK.box 901 _ (fun h1 hs=>open_k hs rfl 54) ?_;intro bo hbo)|(refine CK.con W (H (.expr) _ _ (by simp only [need,rank];omega) ⟨by omega,by omega⟩ (by exact trivial)) rfl rfl (fun x hx=>?_) (fun x m bq h' hx hm1 hm2=>?_);rotate_left;(try dsimp only [fstr] at hm1);(conv=>whnf);intro W)|(refine CK.cO 901 W rfl rfl rfl (fun h hs hm=>hs.ne (k:=901) (k':=900) rfl rfl (by decide) (List.mem_singleton.1 hm)) rfl rfl rfl rfl rfl rfl (rC W (by repeat (first|exact List.Mem.head _|apply List.Mem.tail)) (rN)) (by simp [leK]) (by simp) ?_;intro h';(conv=>whnf);intro W)|fail)));all_goals (try (conv=>whnf)))
 all_goals first|(refine⟨fun h' hs=>W.fin hs rfl (by repeat (first|exact List.Mem.head _|apply List.Mem.tail)) ?_ ⟨by omega,by omega⟩⟩;(simp [startedS,bnd,want, *];done))|(simp [startedS,bnd,want, *];done)|contradiction
theorem params_con(ok:InOk I)(H:Hyp I M g N)(hn:0≤n∧n≤I.L)(hN:32*(I.L+1-n)+1≤N):Con I M 151 [] (paramsS I g t n) t n 1:=fun br h hs hB=>by
 refine eP (rep:=rep) (m:=1) (ex:=[0,2,3,4]) (cu:=[]) (args:=[.own 900 br 0]) tO Tryz.func151 rfl (by decide) (rs:=[.tmp 2]) rfl rfl rfl hs ?_
 have W:=Wd.start ok hB
 have hl:=ok.len
 ((repeat' ((conv=>whnf);(first|(refine CK.box 901 _ (fun h1 hs=>open_k hs rfl 14) ?_;intro bo hbo)|(refine CK.want W (by decide) ⟨by omega,by omega⟩ rfl rfl (fun hx=>?_) (fun hx hm=>?_);rotate_left)|(refine CK.rowsP W (by decide) (by decide) ⟨by omega,by omega⟩ (fun m hm1 hm2=>H .param _ m (by simp only [need,rank];omega) ⟨by omega,hm2⟩ trivial) rfl rfl (fun x hx=>?_) (fun l w' m A len c ps h' hx hm1 hm2 hm3=>?_);rotate_left;(conv=>whnf);intro W)|(refine CK.cH 901 W rfl rfl rfl (fun h hs hm=>hs.ne (k:=901) (k':=900) rfl rfl (by decide) (List.mem_singleton.1 hm)) rfl rfl (by repeat (first|exact List.Mem.head _|apply List.Mem.tail)) (by decide) (by omega) ?_;intro h';(conv=>whnf);intro W)|fail)));all_goals (try (conv=>whnf)))
 all_goals first|(refine⟨fun h' hs=>W.fin hs rfl (by repeat (first|exact List.Mem.head _|apply List.Mem.tail)) ?_ ⟨by omega,by omega⟩⟩;(simp [paramsS,bnd,want, *];done))|(simp [paramsS,bnd,want, *];done)|contradiction
end
end Go.Ex
namespace Go.Ex
open Go.Proofs
attribute [local irreducible] CH CsP word kindT
section
variable {I:In}{M:Loc}{g:Gt}{N:Int}{t:Bool}{n:Int}
theorem typeName_con(ok:InOk I)(H:Hyp I M g N)(hn:0≤n∧n≤I.L)(hN:32*(I.L+1-n)+1≤N):Con I M 134 [] (typeNameS I g t n) t n 1:=fun br h hs hB=>by
 refine eP (rep:=rep) (m:=1) (ex:=[0,2,3,4,5,6,13,38]) (cu:=[]) (args:=[.own 900 br 0]) tO Tryz.func134 rfl (by decide) (rs:=[.tmp 2]) rfl rfl rfl hs ?_
 have W:=Wd.start ok hB
 have hl:=ok.len
 ((repeat' ((conv=>whnf);(first|(refine dW (id:=6) tO mixed (.pull 0 [1,2,3,11,12,13] (.pull 1 [2,3,11,12,13] (.pull 2 [3,11,12,13] (.pull 4 [5,6,7,11,12,13] (.pull 5 [6,7,11,12,13] (.pull 6 [7,11,12,13] (.pull 8 [10,11,12,13] (.pull 9 [10,11,12,13] (.tri 3 7 10 (.br 7 10 (.one 10 (.pull 11 [12,13] (.one 12 (.pull 13 [] .done)))) (.pull 7 [11,12,13] (.pull 11 [12,13] (.one 12 (.pull 13 [] .done))))) (.br 3 10 (.one 10 (.pull 11 [12,13] (.one 12 (.pull 13 [] .done)))) (.pull 3 [11,12,13] (.pull 11 [12,13] (.one 12 (.pull 13 [] .done))))) (.pull 3 [11,12,13] (.pull 7 [11,12,13] (.pull 11 [12,13] (.one 12 (.pull 13 [] .done)))))))))))))) (by kernel_rfl) (by kernel_rfl) ?_)|(refine Ar.fit (by omega) ?_)|(refine VC.mk (by (first|omega|(and_intros<;>first|rfl|(simp only [maxLen];omega)))) ?_)|(refine Br.mk ?_ ?_<;>intro hb<;>(try replace hb:=Classical.not_not.1 hb)<;>(try exact absurd hb (show ¬ (ByteArray.mk _=ByteArray.mk _) from by decide))<;>(try (have hlt:=wlt hb (by decide))))|(refine New.mk ?_;intro b hb)|(refine Two.mk ?_ ?_)|(refine Tri.mk ?_ ?_ ?_)|(refine CK.freeze 35 33 W rfl rfl rfl rfl rfl (fun h hs=>⟨fun hm=>hs.ne (k:=35) (k':=900) rfl rfl (by decide) (List.mem_singleton.1 hm),fun hm=>hs.ne (k:=33) (k':=900) rfl rfl (by decide) (List.mem_singleton.1 hm)⟩) (rC W (by repeat (first|exact List.Mem.head _|apply List.Mem.tail)) (rC W (by repeat (first|exact List.Mem.head _|apply List.Mem.tail)) (rN))) (by simp [leK]) ?_;intro h';(conv=>whnf);intro W)|(apply CK.pure;(case hh=>(intro h1 hs;first|exact next_k W.ok W.base hs rfl|exact word_k W.ok W.base hs rfl _)))|(refine CK.box 901 _ (fun h1 hs=>open_k hs rfl 30) ?_;intro bo hbo)|(refine CK.con W (name_con ok ⟨by omega,by omega⟩) rfl rfl (fun x hx=>?_) (fun x m bq h' hx hm1 hm2=>?_);rotate_left;(conv=>whnf);intro W)|(refine CK.rowsP W (by decide) (by decide) ⟨by omega,by omega⟩ (fun m hm1 hm2=>H .typ _ m (by simp only [need,rank];omega) ⟨by omega,hm2⟩ trivial) rfl rfl (fun x hx=>?_) (fun l w' m A len c ps h' hx hm1 hm2 hm3=>?_);rotate_left;(conv=>whnf);intro W)|(refine CK.listH W rfl rfl (by repeat (first|exact List.Mem.head _|apply List.Mem.tail)) (by decide) ?_;intro b h' W)|(refine CK.want W (by decide) ⟨by omega,by omega⟩ rfl rfl (fun hx=>?_) (fun hx hm=>?_);rotate_left)|(refine CK.fail W rfl rfl ⟨by omega,by omega⟩ ?_)|(refine CK.cO 901 W rfl rfl rfl (fun h hs hm=>hs.ne (k:=901) (k':=900) rfl rfl (by decide) (List.mem_singleton.1 hm)) rfl rfl rfl rfl rfl rfl (rC W (by repeat (first|exact List.Mem.head _|apply List.Mem.tail)) (rC W (by repeat (first|exact List.Mem.head _|apply List.Mem.tail)) (rN))) (by simp [leK]) (by simp) ?_;intro h';(conv=>whnf);intro W)|(refine CK.inline (rep:=rep) tO Tryz.func165 rfl (by decide) (rs:=[.tmp 4]) rfl 4 [4,5,6,14] [] rfl rfl rfl ?_)|fail)));all_goals (try (conv=>whnf)))
 all_goals first|(refine⟨fun h' hs=>W.fin hs rfl (by repeat (first|exact List.Mem.head _|apply List.Mem.tail)) ?_ ⟨by omega,by omega⟩⟩;(simp [typeNameS,argumentsS,bnd,want, *];done))|(simp [typeNameS,argumentsS,bnd,want, *];done)|contradiction
theorem signature_con(ok:InOk I)(H:Hyp I M g N)(hn:0≤n∧n≤I.L)(hN:32*(I.L+1-n)+2≤N):Con I M 136 [] (signatureS I g t n) t n 1:=fun br h hs hB=>by
 refine eP (rep:=rep) (m:=1) (ex:=[0,2,3,4,5,13,19,22,26]) (cu:=[]) (args:=[.own 900 br 0]) tO Tryz.func136 rfl (by decide) (rs:=[.tmp 2]) rfl rfl rfl hs ?_
 have W:=Wd.start ok hB
 have hl:=ok.len
 ((repeat' ((conv=>whnf);(first|(refine VC.mk (by (first|omega|(and_intros<;>first|rfl|(simp only [maxLen];omega)))) ?_)|(refine Br.mk ?_ ?_<;>intro hb<;>(try replace hb:=Classical.not_not.1 hb)<;>(try exact absurd hb (show ¬ (ByteArray.mk _=ByteArray.mk _) from by decide))<;>(try (first|have hlt:=wlt hb (by decide)|have hlt:=klt hb (by decide)))<;>(try (contradiction)))|(refine New.mk ?_;intro b hb)|(apply CK.pure;(case hh=>(intro h1 hs;first|exact next_k W.ok W.base hs rfl)))|(refine CK.says (.prop _) (fun h1 hs=>named_k W.ok W.base hs rfl _) ?_)|(refine CK.box 901 _ (fun h1 hs=>open_k hs rfl 9) ?_;intro bo hbo)|(refine CK.con W (H (.params) _ _ (by simp only [need,rank];omega) ⟨by omega,by omega⟩ (by exact trivial)) rfl rfl (fun x hx=>?_) (fun x m bq h' hx hm1 hm2=>?_);rotate_left;(try dsimp only [fstr] at hm1);(conv=>whnf);intro W)|(refine CK.sure W (none_con 0 (by decide) ⟨by omega,by omega⟩) rfl rfl ?_;intro bq h';(conv=>whnf);intro W)|(refine CK.con W (H (.typ) _ _ (by simp only [need,rank];omega) ⟨by omega,by omega⟩ (by exact trivial)) rfl rfl (fun x hx=>?_) (fun x m bq h' hx hm1 hm2=>?_);rotate_left;(try dsimp only [fstr] at hm1);(conv=>whnf);intro W)|(refine CK.cO 901 W rfl rfl rfl (fun h hs hm=>hs.ne (k:=901) (k':=900) rfl rfl (by decide) (List.mem_singleton.1 hm)) rfl rfl rfl rfl rfl rfl (rC W (by repeat (first|exact List.Mem.head _|apply List.Mem.tail)) (rC W (by repeat (first|exact List.Mem.head _|apply List.Mem.tail)) (rN))) (by simp [leK]) (by simp) ?_;intro h';(conv=>whnf);intro W)|fail)));all_goals (try (conv=>whnf)))
 all_goals first|(refine⟨fun h' hs=>W.fin hs rfl (by repeat (first|exact List.Mem.head _|apply List.Mem.tail)) ?_ ⟨by omega,by omega⟩⟩;(simp [signatureS,TypeW,bnd,want, *];done))|(simp [signatureS,TypeW,bnd,want, *];done)|contradiction
theorem param_con(ok:InOk I)(H:Hyp I M g N)(hn:0≤n∧n≤I.L)(hN:32*(I.L+1-n)+6≤N):Con I M 177 [] (paramS I g t n) t n 1:=fun br h hs hB=>by
 refine eP (rep:=rep) (m:=1) (ex:=[0,2,3,4,11,16]) (cu:=[]) (args:=[.own 900 br 0]) tO Tryz.func177 rfl (by decide) (rs:=[.tmp 2]) rfl rfl rfl hs ?_
 have W:=Wd.start ok hB
 have hl:=ok.len
 ((repeat' ((conv=>whnf);(first|(refine Ar.fit (by omega) ?_)|(refine VC.mk (by (first|omega|(and_intros<;>first|rfl|(simp only [maxLen];omega)))) ?_)|(refine Br.mk ?_ ?_<;>intro hb<;>(try replace hb:=Classical.not_not.1 hb)<;>(try exact absurd hb (show ¬ (ByteArray.mk _=ByteArray.mk _) from by decide))<;>(try (have hlt:=wlt hb (by decide))))|(refine New.mk ?_;intro b hb)|(apply CK.pure;(case hh=>(intro h1 hs;first|exact next_k W.ok W.base hs rfl)))|(refine CK.box 901 _ (fun h1 hs=>open_k hs rfl 15) ?_;intro bo hbo)|(refine CK.sure W (none_con 0 (by decide) ⟨by omega,by omega⟩) rfl rfl ?_;intro bq h';(conv=>whnf);intro W)|(refine CK.says (.prop _) (fun h1 hs=>bare_k W.ok W.base hs rfl ⟨by omega,by omega⟩) ?_)|(refine CK.con W (name_con ok ⟨by omega,by omega⟩) rfl rfl (fun x hx=>?_) (fun x m bq h' hx hm1 hm2=>?_);rotate_left;(conv=>whnf);intro W)|(refine CK.con W (H (.typ) _ _ (by simp only [need,rank];omega) ⟨by omega,by omega⟩ (by exact trivial)) rfl rfl (fun x hx=>?_) (fun x m bq h' hx hm1 hm2=>?_);rotate_left;(try dsimp only [fstr] at hm1);(conv=>whnf);intro W)|(refine CK.cO 901 W rfl rfl rfl (fun h hs hm=>hs.ne (k:=901) (k':=900) rfl rfl (by decide) (List.mem_singleton.1 hm)) rfl rfl rfl rfl rfl rfl (rC W (by repeat (first|exact List.Mem.head _|apply List.Mem.tail)) (rC W (by repeat (first|exact List.Mem.head _|apply List.Mem.tail)) (rN))) (by simp [leK]) (by simp) ?_;intro h';(conv=>whnf);intro W)|fail)));all_goals (try (conv=>whnf)))
 all_goals first|(refine⟨fun h' hs=>W.fin hs rfl (by repeat (first|exact List.Mem.head _|apply List.Mem.tail)) ?_ ⟨by omega,by omega⟩⟩;(simp [paramS,bnd,want, *];done))|(simp [paramS,bnd,want, *];done)|contradiction
theorem elem_con(ok:InOk I)(H:Hyp I M g N)(hn:0≤n∧n≤I.L)(hN:32*(I.L+1-n)+6≤N):Con I M 139 [] (elemS I g t n) t n 1:=fun br h hs hB=>by
 refine eP (rep:=rep) (m:=1) (ex:=[0,2,3,4,20]) (cu:=[]) (args:=[.own 900 br 0]) tO Tryz.func139 rfl (by decide) (rs:=[.tmp 2]) rfl rfl rfl hs ?_
 have W:=Wd.start ok hB
 have hl:=ok.len
 ((repeat' ((conv=>whnf);(first|(refine Ar.fit (by omega) ?_)|(refine VC.mk (by (first|omega|(and_intros<;>first|rfl|(simp only [maxLen];omega)))) ?_)|(refine Br.mk ?_ ?_<;>intro hb<;>(try replace hb:=Classical.not_not.1 hb)<;>(try exact absurd hb (show ¬ (ByteArray.mk _=ByteArray.mk _) from by decide))<;>(try (first|have hlt:=wlt hb (by decide)|have hlt:=klt hb (by decide))))|(refine New.mk ?_;intro b hb)|(apply CK.pure;(case hh=>(intro h1 hs;first|exact word_k W.ok W.base hs rfl _)))|(refine CK.says (.prop _) (fun h1 hs=>named_k W.ok W.base hs rfl _) ?_)|(refine CK.box 901 _ (fun h1 hs=>open_k hs rfl 24) ?_;intro bo hbo)|(refine CK.con W (name_con ok ⟨by omega,by omega⟩) rfl rfl (fun x hx=>?_) (fun x m bq h' hx hm1 hm2=>?_);rotate_left;(conv=>whnf);intro W)|(refine CK.con W (H (.signature) _ _ (by simp only [need,rank];omega) ⟨by omega,by omega⟩ (by exact trivial)) rfl rfl (fun x hx=>?_) (fun x m bq h' hx hm1 hm2=>?_);rotate_left;(try dsimp only [fstr] at hm1);(conv=>whnf);intro W)|(refine CK.con W (H (.union) _ _ (by simp only [need,rank];omega) ⟨by omega,by omega⟩ (by exact trivial)) rfl rfl (fun x hx=>?_) (fun x m bq h' hx hm1 hm2=>?_);rotate_left;(try dsimp only [fstr] at hm1);(conv=>whnf);intro W)|(refine CK.cO 901 W rfl rfl rfl (fun h hs hm=>hs.ne (k:=901) (k':=900) rfl rfl (by decide) (List.mem_singleton.1 hm)) rfl rfl rfl rfl rfl rfl (rC W (by repeat (first|exact List.Mem.head _|apply List.Mem.tail)) (rC W (by repeat (first|exact List.Mem.head _|apply List.Mem.tail)) (rN))) (by simp [leK]) (by simp) ?_;intro h';(conv=>whnf);intro W)|fail)));all_goals (try (conv=>whnf)))
 all_goals first|(refine⟨fun h' hs=>W.fin hs rfl (by repeat (first|exact List.Mem.head _|apply List.Mem.tail)) ?_ ⟨by omega,by omega⟩⟩;(simp [elemS,bnd,want, *];done))|(simp [elemS,bnd,want, *];done)|contradiction
end
end Go.Ex
