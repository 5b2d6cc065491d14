/-
  Top: TopDeep: whatever the input, the law answers true (part 39)
-/
import Derived.Test.YtpjdgifhhnjclaaGreatDoorM38
set_option linter.unusedVariables false
set_option linter.unusedSimpArgs false
set_option maxHeartbeats 4000000
set_option maxRecDepth 10000
namespace Go.Ex
open Go.Proofs
attribute [local irreducible] CH CsP word kindT
section
variable {I:In}{M:Loc}{g:Gt}{N:Int}{t:Bool}{n:Int}
set_option maxHeartbeats 20000000 in
theorem fors_d_con(ok:InOk I)(H:Hyp I M g N)(hs0:n<I.L)(w0:¬ word I (n+1)=(⟨#[123]⟩:ByteArray))(w1:¬ word I (n+1)=(⟨#[114,97,110,103,101]⟩:ByteArray))(w2:¬ word I (n+1)=(⟨#[59]⟩:ByteArray))(hn:0≤n∧n≤I.L)(hN:32*(I.L+1-n)+2≤N):Con I M 205 [] (forsS I g t n) t n 1:=by
 obtain⟨OF,hOF⟩:∃ o,forsS I g t n=o:=⟨_,rfl⟩
 rw [hOF]
 intro br h hs hB
 refine eP (rep:=rep) (m:=1) (ex:=[1,2,3,4,5,6,7,8,9,10,11,24,48,72,88,101,107,115,126]) (cu:=[]) (args:=[.own 900 br 0]) tO Tryz.func205 rfl (by decide) (rs:=[.tmp 2]) rfl rfl rfl hs ?_
 have W:=Wd.start ok hB
 have hl:=ok.len
 ((repeat' ((conv=>whnf);(first|(refine Br.mk (p:=((word I m=(⟨#[61]⟩:ByteArray)∨word I m=(⟨#[58,61]⟩:ByteArray))∧word I (m+1)=(⟨#[114,97,110,103,101]⟩:ByteArray))) ?_ ?_<;>intro hb<;>(try have hlt:=q8_lt hb))|(refine Ar.fit (by omega) ?_)|(refine VC.mk (by (first|omega|(and_intros<;>first|rfl|(simp only [maxLen];omega)))) ?_)|(refine Br.mk ?_ ?_<;>intro hb<;>(try replace hb:=Classical.not_not.1 hb)<;>(try exact absurd hb (show ¬ (ByteArray.mk _=ByteArray.mk _) from by decide))<;>(try (have hlt:=wlt hb (by decide)))<;>(try (contradiction)))|(refine New.mk ?_;intro b hb)|(apply CK.pure;(case hh=>(intro h1 hs;first|exact next_k W.ok W.base hs rfl)))|(refine CK.box 901 _ (fun h1 hs=>open_k hs rfl 65) ?_;intro bo hbo)|(refine CK.box 902 _ (fun h1 hs=>open_k hs rfl 0) ?_;intro bo hbo)|(refine CK.sure W (none_con 0 (by decide) ⟨by omega,by omega⟩) rfl rfl ?_;intro bq h';(conv=>whnf);intro W)|(refine CK.con W (H (.block) _ _ (by simp only [need,rank];omega) ⟨by omega,by omega⟩ (by exact trivial)) rfl rfl (fun x hx=>?_) (fun x m bq h' hx hm1 hm2=>?_);rotate_left;(try dsimp only [fstr] at hm1);(conv=>whnf);intro W)|(refine CK.con W (H (.exprs) _ _ (by simp only [need,rank];omega) ⟨by omega,by omega⟩ (by exact trivial)) rfl rfl (fun x hx=>?_) (fun x m bq h' hx hm1 hm2=>?_);rotate_left;(try dsimp only [fstr] at hm1);(conv=>whnf);intro W)|(refine CK.con W (H (.expr) _ _ (by simp only [need,rank];omega) ⟨by omega,by omega⟩ (by exact trivial)) rfl rfl (fun x hx=>?_) (fun x m bq h' hx hm1 hm2=>?_);rotate_left;(try dsimp only [fstr] at hm1);(conv=>whnf);intro W)|(refine CK.want W (by decide) ⟨by omega,by omega⟩ rfl rfl (fun hx=>?_) (fun hx hm=>?_);rotate_left)|(refine CK.cO 901 W rfl rfl rfl (fun h hs hm=>hs.ne (k:=901) (k':=900) rfl rfl (by decide) (List.mem_singleton.1 hm)) rfl rfl rfl rfl rfl rfl (rC W (by repeat (first|exact List.Mem.head _|apply List.Mem.tail)) (rC W (by repeat (first|exact List.Mem.head _|apply List.Mem.tail)) (rC W (by repeat (first|exact List.Mem.head _|apply List.Mem.tail)) (rN)))) (by simp [leK]) (by simp) ?_;intro h';(conv=>whnf);intro W)|(refine CK.inline (rep:=rep) tO Tryz.func222 rfl (by decide) (rs:=[.tmp 4]) rfl 4 [4,5,6] [] rfl rfl rfl ?_)|(refine CK.inline (rep:=rep) tO Tryz.func227 rfl (by decide) (rs:=[.tmp 6]) rfl 4 [6,7] [] rfl rfl rfl ?_)|(refine join_same (c:=.region 8 _ true) tO [48] [(48,.prop ((word I m=(⟨#[61]⟩:ByteArray)∨word I m=(⟨#[58,61]⟩:ByteArray))∧word I (m+1)=(⟨#[114,97,110,103,101]⟩:ByteArray)))] ?_;(conv=>whnf);refine And.intro (by (conv=>whnf);(refine (drawn tO mixed (by kernel_rfl) ?_));((repeat' ((conv=>whnf);(first|(refine Ar.fit (by omega) ?_)|(refine VC.mk (by omega) ?_)|(refine Br.mk ?_ ?_<;>intro hb<;>(try replace hb:=Classical.not_not.1 hb)<;>(try exact absurd hb (show ¬ (ByteArray.mk _=ByteArray.mk _) from by decide))<;>(try (have hlt:=wlt hb (by decide))))|(apply CallQ.pure;(case hh=>(intro h1 hs;exact word_k W.ok W.base hs rfl _)))|fail)));all_goals (try (conv=>whnf)));all_goals (refine⟨rfl,And.intro ⟨_,rfl,by (simp [den,den1,denC, *];done)⟩ ?_⟩;(repeat (refine And.intro ⟨_,rfl,rfl⟩ ?_));exact trivial)) ?_)|fail)));all_goals (try (conv=>whnf)))
 all_goals first|(refine⟨fun h' hs=>W.fin hs rfl (by repeat (first|exact List.Mem.head _|apply List.Mem.tail)) ?_ ⟨by omega,by omega⟩⟩;rw [←hOF];(simp [forsS,overallS,bnd,want, *];done))|(rw [←hOF];simp [forsS,overallS,bnd,want, *];done)|contradiction|exact absurd hb.2 hx|skip
 all_goals
  have hr:¬ ((word I m=(⟨#[61]⟩:ByteArray)∨word I m=(⟨#[58,61]⟩:ByteArray))∧word I (m+1)=(⟨#[114,97,110,103,101]⟩:ByteArray)):=by assumption
  have hF:OF=bnd (restS I g true (n+1) x m) fun s m=>if word I m=(⟨#[59]⟩:ByteArray) then forRest I g t n s m else bnd (onlyS s m) fun x m=>bnd (g .block t m) fun b m'=>.ok (.mk 65 (-1) n m' [noneN 0 (n+1),x,noneN 0 m,b]) m':=by
   rw [←hOF,forsS,if_neg w0,if_neg w1,if_neg w2,hx,bnd_ok,if_neg hr]
  obtain⟨b5,bn,b1,bz,e1,e2,e3,e4⟩:=W.names
  subst e1 e2 e3 e4
  refine CK.meet (α:=FdS) (fun y=>ptrK bo) (fun y=>⟨y.h,blks [(6,b,.box 63 [ptrK bq]),(5,b5,.box 63 [ptrK bo]),(901,bn,nodeB 65 (-1) n 0 nilS),(1,b1,.box 78 [.own 900 br 0]),(900,br,rdB I M true (y.m))],[(6,b,.box 63 [ptrK bq]),(5,b5,.box 63 [ptrK bo]),(901,bn,nodeB 65 (-1) n 0 nilS),(1,b1,.box 78 [.own 900 br 0]),(900,br,rdB I M true (y.m))]⟩)
   (fun y=>Wd I M [br] h y.h (blks [(6,b,.box 63 [ptrK bq]),(5,b5,.box 63 [ptrK bo]),(901,bn,nodeB 65 (-1) n 0 nilS),(1,b1,.box 78 [.own 900 br 0]),(900,br,rdB I M true (y.m))]) [.one (some ⟨bo,0,none⟩) y.x,.one (some ⟨bz,0,none⟩) (noneN 0 (n+1))]∧(m≤y.m∧y.m≤I.L)∧restS I g true (n+1) x m = .ok y.x y.m)
   ?_ ?_
  ·have k:=fors_rest (br:=br) (b6:=b) (b5:=b5) (bn:=bn) (b1:=b1) (b2:=bo) (bl:=bq) (bz:=bz) (frm:=n) (m0:=m) (x0:=x) (z:=noneN 0 (n+1)) (oC:=OF) ok H W ⟨by omega,by omega⟩ (by omega) (by omega) (fun e he=>by rw [hF,he];rfl)
   exact k
  clear hr
  rintro⟨h1,m',s⟩ ⟨W,⟨r0,r1⟩,r2⟩
  dsimp only at W r0 r1 r2 ⊢
  rw [r2,bnd_ok] at hF
  ((repeat' ((conv=>whnf);(first|(refine dW (id:=16) tO mixed (.pull 1 [8,9] (.pull 2 [7,8,9] (.pull 3 [7,8,9] (.pull 4 [7,8,9] (.pull 5 [6,7,8,9] (.br 0 6 (.one 6 (.one 7 (.one 8 (.pull 9 [] .done)))) (.br 0 7 (.one 7 (.one 8 (.pull 9 [] .done))) (.pull 0 [8,9] (.one 8 (.pull 9 [] .done)))))))))) (by kernel_rfl) (by kernel_rfl) ?_)|(refine dW (id:=31) tO mixed (.pull 1 [8,9] (.pull 2 [7,8,9] (.pull 3 [7,8,9] (.pull 4 [7,8,9] (.pull 5 [6,7,8,9] (.br 0 6 (.one 6 (.one 7 (.one 8 (.pull 9 [] .done)))) (.br 0 7 (.one 7 (.one 8 (.pull 9 [] .done))) (.pull 0 [8,9] (.one 8 (.pull 9 [] .done)))))))))) (by kernel_rfl) (by kernel_rfl) ?_)|(refine VC.mk (by (first|omega|exact Sl.plain (by assumption) (by omega)|(and_intros<;>first|rfl|(simp only [maxLen];omega)))) ?_)|(refine Br.mk ?_ ?_<;>intro hb<;>(try replace hb:=Classical.not_not.1 hb)<;>(try exact absurd hb (show ¬ (ByteArray.mk _=ByteArray.mk _) from by decide))<;>(try (have hlt:=wlt hb (by decide))))|(refine New.mk ?_;intro b hb)|(refine Two.mk ?_ ?_)|(apply CK.pure;(case hh=>(intro h1 hs;first|exact next_k W.ok W.base hs rfl)))|(refine CK.sure W (none_con 0 (by decide) ⟨by omega,by omega⟩) rfl rfl ?_;intro bq h';(conv=>whnf);intro W)|(refine CK.con W (H (.block) _ _ (by simp only [need,rank];omega) ⟨by omega,by omega⟩ (by exact trivial)) rfl rfl (fun x hx=>?_) (fun x m bq h' hx hm1 hm2=>?_);rotate_left;(try dsimp only [fstr] at hm1);(conv=>whnf);intro W)|(refine CK.con W (H (.expr) _ _ (by simp only [need,rank];omega) ⟨by omega,by omega⟩ (by exact trivial)) rfl rfl (fun x hx=>?_) (fun x m bq h' hx hm1 hm2=>?_);rotate_left;(try dsimp only [fstr] at hm1);(conv=>whnf);intro W)|(refine CK.con W (H (.simple) _ _ (by simp only [need,rank];omega) ⟨by omega,by omega⟩ (by exact trivial)) rfl rfl (fun x hx=>?_) (fun x m bq h' hx hm1 hm2=>?_);rotate_left;(try dsimp only [fstr] at hm1);(conv=>whnf);intro W)|(refine CK.want W (by decide) ⟨by omega,by omega⟩ rfl rfl (fun hx=>?_) (fun hx hm=>?_);rotate_left)|(refine PLoad.kind (W.one (by repeat (exact List.Mem.head _))) ?_)|(refine CK.fail W rfl rfl ⟨by omega,by omega⟩ ?_)|(refine CK.cO 901 W rfl rfl rfl (fun h hs hm=>hs.ne (k:=901) (k':=900) rfl rfl (by decide) (List.mem_singleton.1 hm)) rfl rfl rfl rfl rfl rfl (rC W (by repeat (first|exact List.Mem.head _|apply List.Mem.tail)) (rC W (by repeat (first|exact List.Mem.head _|apply List.Mem.tail)) (rC W (by repeat (first|exact List.Mem.head _|apply List.Mem.tail)) (rC W (by repeat (first|exact List.Mem.head _|apply List.Mem.tail)) (rN))))) (by simp [leK]) (by simp) ?_;intro h';(conv=>whnf);intro W)|(refine CK.inline (rep:=rep) tO Tryz.func222 rfl (by decide) (rs:=[.tmp 4]) rfl 4 [4,5,6] [] rfl rfl rfl ?_)|(refine CK.inline (rep:=rep) tO Tryz.func223 rfl (by decide) (rs:=[.tmp 4]) rfl 4 [4,9] [] rfl rfl rfl ?_)|(refine PLoad.kids (W.one (by repeat (exact List.Mem.head _))) ?_;intro A n1 c1 ps1 hA hTs hnl;subst hnl;have hAs:=hA.sl;have hl1:=W.len1 hb (by repeat (exact List.Mem.head _)) (by decide))|(refine XLoad.kid 0 hA hTs (by omega) ?_;intro bq hT0;have W:=W.kid (by repeat (exact List.Mem.head _)) hT0 (by omega))|fail)));all_goals (try (conv=>whnf)))
  all_goals first|(refine⟨fun h' hs=>W.fin hs rfl (by repeat (first|exact List.Mem.head _|apply List.Mem.tail)) ?_ ⟨by omega,by omega⟩⟩;rw [hF];(simp [forLast,forRest,onlyS,bnd,want, *];done))|(rw [hF];simp [forLast,forRest,onlyS,bnd,want, *];done)|contradiction|trace_state
end
end Go.Ex
namespace Go.Ex
open Go.Proofs
attribute [local irreducible] CH CsP word kindT
def ConN(I:In)(M:Loc)(f:Nat)(av:List Value)(rv:Nat→Value)(px:Option Addr)(x:Nd)(frm:Int)(o:Out Nd)(t:Bool)(n:Int):Prop:=
 ∀ br bn bf h,HS ⟨h,[br,bn,bf],[(900,br,rdB I M t n),(901,bn,nodeB 0 (-1) frm 0 (.osl 902 bf 1 1)),(902,bf,.arr 63 ptrR [px] 1)]⟩ h→Base I M h [br,bn,bf] →
  CsP Tryz.prog (ErrE I M br [br,bn,bf] h o) f (ptr br::ptr bn::av).toArray h fun v h'=>
   ∃ k w n' ps rest A len c,o = .ok (.mk k w frm n' (x::rest)) n'∧(n+1≤n'∧n'≤I.L)∧WfL rest∧leK k≤1+rest.length∧v=rv bn ∧
    HS ⟨h,[br,bn,bf],[(900,br,rdB I M t n'),(901,bn,nodeB k w frm n' (.val (.slice A len c)))]⟩ h'∧Held ptrR h' [br,bn] A len (px::ps)∧(∀ a,0<len→A=some a→h.size≤a.block∨a.block=bf)∧TsI h.size h' [br,bn,bf] ps rest
section
variable {I:In}{M:Loc}{br:Nat}{cE:List Nat}{hE:Heap}{its:List It}{S:St}{t:Bool}{n:Int}{α:Type}{oC:Out α}{args caps:List KV}{κ:KV→St→Prop}{E:Value→Heap→Prop}
theorem apart_upd{l r:Chs}{k b:Nat}{c0 c:Chunk}(ha:(l++(k,b,c0)::r).Pairwise fun e e'=>e.2.1≠e'.2.1):(l++(k,b,c)::r).Pairwise fun e e'=>e.2.1≠e'.2.1:=by
 obtain⟨p1,p2,p3⟩:=List.pairwise_append.1 ha
 obtain⟨p4,p5⟩:=List.pairwise_cons.1 p2
 refine List.pairwise_append.2 ⟨p1,List.pairwise_cons.2 ⟨fun e he=>p4 e he,p5⟩,fun e he e' he'=>?_⟩
 rcases List.mem_cons.1 he' with rfl|he'
 ·exact p3 e he (k,b,c0) List.mem_cons_self
 ·exact p3 e he e' (List.mem_cons_of_mem _ he')
theorem upd_mem{l r:Chs}{k b:Nat}{c0 c:Chunk}(ha:(l++(k,b,c0)::r).Pairwise fun e e'=>e.2.1≠e'.2.1){e:Nat×Nat×Chunk}(he:e∈l++(k,b,c)::r):e=(k,b,c)∨(e∈l++(k,b,c0)::r∧e.2.1≠b):=by
 obtain⟨p1,p2,p3⟩:=List.pairwise_append.1 ha
 obtain⟨p4,p5⟩:=List.pairwise_cons.1 p2
 rcases List.mem_append.1 he with he|he
 ·exact .inr ⟨List.mem_append.2 (.inl he),p3 e he (k,b,c0) List.mem_cons_self⟩
 ·rcases List.mem_cons.1 he with rfl|he
  ·exact .inl rfl
  ·exact .inr ⟨List.mem_append.2 (.inr (List.mem_cons_of_mem _ he)),fun e2=>p4 e he e2.symm⟩
theorem HS.remake{h h':Heap}(hs:HS S h){ch:Chs}(c1:List Nat)(hsz:h.size≤h'.size)(hfr:∀ j,j<h.size→j∉c1→h'[j]?=h[j]?)(hc1:∀ j∈c1,j∈blks S.ch)(hap:ch.Pairwise fun e e'=>e.2.1≠e'.2.1)
 (hch:∀ e∈ch,(e∈S.ch∧e.2.1∉c1)∨(e.2.1∈c1∧ChunkAt h' e.2.1 e.2.2)):HS ⟨S.h0,S.cap,ch⟩ h':=by
 refine⟨Nat.le_trans hs.size hsz,fun j hj hn=>(hfr j (Nat.lt_of_lt_of_le hj hs.size) fun hm=>?_).trans (hs.frame j hj hn),fun e he=>?_,hap⟩
 ·have hj:j<S.h0.size:=hj
  rcases (hs.blks_of (hc1 j hm)).2 with h3|h3
  ·omega
  ·exact hn h3
 ·rcases hch e he with ⟨h1,h2⟩|⟨h1,h2⟩
  ·obtain⟨a1,a2,a3⟩:=hs.chunk e h1
   exact⟨Nat.lt_of_lt_of_le a1 hsz,a2,a3.congr (hfr _ a1 h2)⟩
  ·obtain⟨a1,a2⟩:=hs.blks_of (hc1 _ h1)
   exact⟨Nat.lt_of_lt_of_le a1 hsz,a2,h2⟩
theorem CK.closeX(kn kf:Nat){bn bf cf:Nat}{k w f to:Int}{ln0:Int}{vy:Value}{px:Option Addr}{ps0 ps:List (Option Addr)}{l0 l:List Nd}(W:Wd I M cE hE S.h0 S.cap its)(hf:findC S.ch 900=some (br,rdB I M t n))(hfn:findC S.ch kn=some (bn,nodeB k w f to (.osl kf bf ln0 cf)))
 (hff:findC S.ch kf=some (bf,.arr 63 ptrR (px::ps0) cf)) (hln:ln0=(px::ps0).length) (hkn:Nat.beq kn 900=false) (hkf:Nat.beq kf 900=false) (hkk:Nat.beq kn kf=false)
 (ha:args.map den1++caps.map denC=[ptr br,ptr bn,vy]) (hy:∀ h,HS S h→∃ A len c,vy = .slice A len c∧Held ptrR h [br,bn,bf] A len ps)
 (hT0:TsI hE.size S.h0 S.cap ps0 l0∧WfL l0) (hT:TsI hE.size S.h0 S.cap ps l∧WfL l) (hlen:(l0++l).length≤999999)
 (hk:∀ A len c h',(∀ a,0<len→A=some a→hE.size≤a.block∨a.block=bf)→updC S.ch kn (nodeB k w f n (.val (.slice A len c))) fun ch=>delC ch kf fun ch=>Held ptrR h' (blks ch) A len (px::(ps0++ps))→Wd I M cE hE h' (blks ch) (.many (ps0++ps) (l0++l)::its)→κ (.val (.pointer (some ⟨bn,0,none⟩))) ⟨h',blks ch,ch⟩):CK Tryz.prog E 109 args caps S κ:=
 ⟨fun h hs=>.inl (by
  subst hln
  obtain⟨A,len,c,rfl,hh⟩:=hy h hs
  rw [ha]
  have hkn:=nbF hkn
  have hkf:=nbF hkf
  have hkk:=nbF hkk
  have hl0:=hT.1.len
  have hl1:=hT0.1.len
  have hlen':=hlen
  rw [List.length_append] at hlen'
  have h2:=hs.three hf hfn hff hkn.symm hkf.symm hkk 900 901 902
  have h2:HS ⟨h,[br,bn,bf],[(900,br,rdB I M t n),(901,bn,nodeB k w f to (.osl 902 bf ((px::ps0).length:Int) cf)),(902,bf,.arr 63 ptrR (px::ps0) cf)]⟩ h:=h2.ren [900,901,902] ⟨⟨_,rfl,SC.rfl⟩,rfl,⟨_,rfl,SC.box rfl⟩,rfl,⟨_,rfl,SC.rfl⟩,rfl,trivial⟩
  refine (close1_any h2 hh (by simp only [List.length_cons];omega)).mono fun v h' ⟨e1,A',n',c',h3,h4,h5⟩=>?_
  obtain⟨l1,r1,bn',c0,q1,q2,h6'⟩:=updC_sound (hk A' n' c' h' fun a h0 e=>(h5 a h0 e).1.imp (fun q=>Nat.le_trans (Nat.le_trans W.later.size hs.size) q) fun q=>q)
  rw [hfn] at q2
  cases q2
  obtain⟨ch,h6,h7,h8⟩:=delC_sound h6'
  have hap:(l1++(kn,bn,nodeB k w f to (.osl kf bf ((px::ps0).length:Int) cf))::r1).Pairwise fun e e'=>e.2.1≠e'.2.1:=by rw [←q1];exact hs.apart
  have hin:∀ e∈ch,e=(kn,bn,nodeB k w f n (.val (.slice A' n' c')))∨e=(900,br,rdB I M t n)∨(e∈S.ch∧e.2.1∉[br,bn,bf]):=fun e he=>by
   rcases upd_mem hap (h7.subset he) with rfl|⟨m1,m2⟩
   ·exact .inl rfl
   ·rw [←q1] at m1
    have m3:e.2.1≠bf:=apart_of hs.apart m1 (fM hff) fun e3=>h8 e he (by rw [e3])
    by_cases m4:e.2.1=br
    ·refine .inr (.inl (Classical.byContradiction fun hne=>?_))
     exact apart_of hs.apart m1 (fM hf) hne m4
    ·exact .inr (.inr ⟨m1,by simp [m2,m3,m4]⟩)
  have h9:HS ⟨S.h0,S.cap,ch⟩ h':=by
   refine hs.remake [br,bn,bf] h3.size h3.frame (fun b hb=>?_) ((apart_upd hap).sublist h7) fun e he=>?_
   ·simp only [List.mem_cons,List.not_mem_nil,or_false] at hb
    rcases hb with rfl|rfl|rfl
    ·exact blk_mem hf
    ·exact blk_mem hfn
    ·exact blk_mem hff
   ·rcases hin e he with rfl|rfl|h10
    ·exact .inr ⟨by simp,(h3.chunk (901,bn,_) (List.mem_cons_of_mem _ List.mem_cons_self)).2.2⟩
    ·exact .inr ⟨by simp,(h3.chunk _ List.mem_cons_self).2.2⟩
    ·exact .inl h10
  have hno:∀ c∈blks ch,c<h.size∧c≠bf:=fun c hc=>by
   obtain⟨e,he,rfl⟩:=bsp hc
   rcases hin e he with rfl|rfl|⟨m1,m2⟩
   ·exact⟨(hs.chunk _ (fM hfn)).1,hs.ne hfn hff hkk⟩
   ·exact⟨(hs.chunk _ (fM hf)).1,hs.ne hf hff hkf.symm⟩
   ·simp only [List.mem_cons,List.not_mem_nil,or_false,not_or] at m2
    exact⟨(hs.chunk e m1).1,m2.2.2⟩
  have h4':Held ptrR h' (blks ch) A' n' (px::(ps0++ps)):=⟨h4,fun h0 a e=>⟨(h5 a h0 e).2.1,fun hm=>by
   have h10:=hno _ hm
   rcases (h5 a h0 e).1 with h11|h11
   ·omega
   ·exact h10.2 h11⟩⟩
  have l9:=h9.lB
  exact⟨_,_,by rw [e1];rfl,h9.anew,h6 h4' ((W.anew l9).add ⟨TsI.append (TsI.later l9 (Nat.le_refl _) l0 hT0.1) (TsI.later l9 (Nat.le_refl _) l hT.1),WfL.append hT0.2 hT.2⟩)⟩)⟩
theorem CK.closeXO(kn kf:Nat){bn bf cf:Nat}{k w f to:Int}{ln0 ln:Int}{r nd:KV}{kk b2 cap:Nat}{px:Option Addr}{ps0 ps:List (Option Addr)}{l0 l:List Nd}(W:Wd I M cE hE S.h0 S.cap its)(hf:findC S.ch 900=some (br,rdB I M t n))(hfn:findC S.ch kn=some (bn,nodeB k w f to (.osl kf bf ln0 cf)))
 (hff:findC S.ch kf=some (bf,.arr 63 ptrR (px::ps0) cf)) (hln:ln0=(px::ps0).length) (hkn:Nat.beq kn 900=false) (hkf:Nat.beq kf 900=false) (hkk:Nat.beq kn kf=false)
 (h1:den1 r=ptr br) (h2:den1 nd=ptr bn) (h3:findC S.ch kk=some (b2,.arr 63 ptrR ps cap)) (h4:Nat.beq kk 900=false) (h5:Nat.beq kk kn=false) (h6:Nat.beq kk kf=false) (hl:ln=ps.length)
 (hT0:TsI hE.size S.h0 S.cap ps0 l0∧WfL l0) (hT:TsI hE.size S.h0 S.cap ps l∧WfL l) (hlen:(l0++l).length≤999999)
 (hk:∀ A len c h',(∀ a,0<len→A=some a→hE.size≤a.block∨a.block=bf)→updC S.ch kn (nodeB k w f n (.val (.slice A len c))) fun ch=>delC ch kf fun ch=>Held ptrR h' (blks ch) A len (px::(ps0++ps))→Wd I M cE hE h' (blks ch) (.many (ps0++ps) (l0++l)::its)→κ (.val (.pointer (some ⟨bn,0,none⟩))) ⟨h',blks ch,ch⟩):CK Tryz.prog E 109 [r,nd,.osl kk b2 ln cap] [] S κ:=
 CK.closeX kn kf W hf hfn hff hln hkn hkf hkk (by simp only [List.map_cons,List.map_nil,List.append_nil,h1,h2]) (fun h hs=>own_held3 hs h3 hf hfn hff h4 h5 h6 hl) hT0 hT hlen hk
theorem CK.closeXN(kn kf:Nat){bn bf cf:Nat}{k w f to:Int}{ln0:Int}{r nd:KV}{px:Option Addr}{ps0:List (Option Addr)}{l0:List Nd}(W:Wd I M cE hE S.h0 S.cap its)(hf:findC S.ch 900=some (br,rdB I M t n))(hfn:findC S.ch kn=some (bn,nodeB k w f to (.osl kf bf ln0 cf)))
 (hff:findC S.ch kf=some (bf,.arr 63 ptrR (px::ps0) cf)) (hln:ln0=(px::ps0).length) (hkn:Nat.beq kn 900=false) (hkf:Nat.beq kf 900=false) (hkk:Nat.beq kn kf=false)
 (h1:den1 r=ptr br) (h2:den1 nd=ptr bn)
 (hT0:TsI hE.size S.h0 S.cap ps0 l0∧WfL l0) (hlen:l0.length≤999999)
 (hk:∀ A len c h',(∀ a,0<len→A=some a→hE.size≤a.block∨a.block=bf)→updC S.ch kn (nodeB k w f n (.val (.slice A len c))) fun ch=>delC ch kf fun ch=>Held ptrR h' (blks ch) A len (px::ps0)→Wd I M cE hE h' (blks ch) (.many ps0 l0::its)→κ (.val (.pointer (some ⟨bn,0,none⟩))) ⟨h',blks ch,ch⟩):CK Tryz.prog E 109 [r,nd,.val (.slice none 0 0)] [] S κ:=by
 refine CK.closeX kn kf (l0:=l0) (l:=[]) (ps:=[]) W hf hfn hff hln hkn hkf hkk (vy:=.slice none 0 0) (by simp only [List.map_cons,List.map_nil,List.append_nil,h1,h2];rfl) (fun h hs=>⟨_,_,_,rfl,⟨Sl.nil _ _ _,fun h=>absurd h (Nat.lt_irrefl 0)⟩⟩) hT0 rN ?_ ?_
 ·rw [List.append_nil];exact hlen
 ·rw [List.append_nil,List.append_nil];exact hk
theorem CK.listX{r:KV}{k:Int}{kk b2 cap:Nat}{ln:Int}{ps:List (Option Addr)}{l:List Nd}(W:Wd I M cE hE S.h0 S.cap its)(hf:findC S.ch 900=some (br,rdB I M t n))(h1:den1 r=ptr br)(h3:findC S.ch kk=some (b2,.arr 63 ptrR ps cap))(h4:Nat.beq kk 900=false)(hl:ln=ps.length)
 (hcE:∀ h,HS S h→b2∉cE) (hT:TsI hE.size S.h0 S.cap ps l∧WfL l) (hk0:leK k=0)
 (hk:∀ b h',delC S.ch kk fun ch=>Wd I M cE hE h' (blks ch) (.one (some ⟨b,0,none⟩) (listN k l n)::its)→κ (.val (.pointer (some ⟨b,0,none⟩))) ⟨h',blks ch,ch⟩):CK Tryz.prog E 107 [r,.val (.int .u8 k),.osl kk b2 ln cap] [] S κ:=
 ⟨fun h hs=>.inl (by
  subst hl
  have h4:=nbF h4
  have e:List.map den1 [r,.val (.int .u8 k),.osl kk b2 (ps.length:Int) cap]++List.map denC []=[ptr br,.int .u8 k,.slice (some ⟨b2,0,none⟩) ps.length cap]:=by simp only [List.map_cons,List.map_nil,List.append_nil,h1];rfl
  rw [e]
  have hsl:=hs.sl h3 (Nat.le_refl _)
  rw [List.take_length] at hsl
  have hlo:=W.lo_own hs h3 (hcE h hs)
  -- what is left
  have hch:∃ ch:Chs,ch.Sublist S.ch∧(∀ e∈ch,e.1≠kk)∧(∀ e∈S.ch,e.1≠kk→e∈ch)∧∀ b h',Wd I M cE hE h' (blks ch) (.one (some ⟨b,0,none⟩) (listN k l n)::its)→κ (.val (.pointer (some ⟨b,0,none⟩))) ⟨h',blks ch,ch⟩:=by
   have key:∀ (ch:Chs),∃ ch',ch'.Sublist ch∧(∀ e∈ch',e.1≠kk)∧(∀ e∈ch,e.1≠kk→e∈ch')∧∀ q:Chs→Prop,delC ch kk q→q ch':=by
    intro ch
    induction ch with
    |nil=>exact⟨[],.slnil,fun e he=>(by cases he),fun e he=>(by cases he),fun q h=>h⟩
    |cons e0 r0 ih=>
     obtain⟨j,b0,c0⟩:=e0
     obtain⟨ch',i1,i2,i4,i3⟩:=ih
     cases hj:Nat.beq j kk with
     |true=>exact⟨ch',i1.cons _,i2,fun e he hne=>(List.mem_cons.1 he).elim (fun h=>absurd (by rw [h];exact nbT hj) hne) fun h=>i4 e h hne,fun q h=>i3 q (by simp only [delC,hj] at h;exact h)⟩
     |false=>exact⟨(j,b0,c0)::ch',i1.cons_cons _,fun e he=>(List.mem_cons.1 he).elim (fun h=>by rw [h];exact nbF hj) fun h=>i2 e h,fun e he hne=>(List.mem_cons.1 he).elim (fun h=>by rw [h];exact List.mem_cons_self) fun h=>List.mem_cons_of_mem _ (i4 e h hne),fun q h=>i3 (fun r=>q ((j,b0,c0)::r)) (by simp only [delC,hj] at h;exact h)⟩
   obtain⟨ch',i1,i2,i4,i3⟩:=key S.ch
   exact⟨ch',i1,i2,i4,fun b h'=>i3 _ (hk b h')⟩
  obtain⟨ch,c1,c2,c4,c3⟩:=hch
  have hbr:br∈blks ch:=blks_mem (c4 _ (fM hf) (fun e=>h4 e.symm))
  have lb:Later S.h0 S.cap h (blks ch):=hs.lB.less fun x hx=>by
   obtain⟨e,he,rfl⟩:=bsp hx
   exact blks_mem (c1.subset he)
  have hnb:b2∉blks ch:=fun hm=>by
   obtain⟨e,he,e2⟩:=bsp hm
   exact apart_of hs.apart (c1.subset he) (fM h3) (fun e3=>c2 e he (by rw [e3])) e2
  refine (list_any (lo:=hE.size) (cap:=blks ch) (rd_at hs hf) hbr (fun x hx=>by
   obtain⟨e,he,rfl⟩:=bsp hx
   exact (hs.chunk e (c1.subset he)).1) (Nat.le_trans W.later.size hs.size) ⟨hsl,fun h0 a e=>by cases e;exact⟨(hs.chunk _ (fM h3)).1,hnb⟩⟩ (fun a h0 e=>by cases e;exact hlo) (TsI.later lb (Nat.le_refl _) l hT.1)).mono fun v h' ⟨b,e1,hg,hT'⟩=>?_
  have h9:HS ⟨S.h0,S.cap,ch⟩ h':=(hs.sub c1).later hg
  exact⟨_,_,by rw [e1];rfl,h9.anew,c3 b h' ((W.anew h9.lB).add ⟨hT',wf_list hk0 hT.2⟩)⟩)⟩
theorem CK.conN(kn kf:Nat){f:Nat}{bn bf:Nat}{frm:Int}{px:Option Addr}{x:Nd}{av:List Value}{rv:Nat→Value}{o:Out Nd}(kv:KV)(W:Wd I M cE hE S.h0 S.cap its)(hcon:ConN I M f av rv px x frm o t n)(ha:args.map den1++caps.map denC=ptr br::ptr bn::av)
 (hf:findC S.ch 900=some (br,rdB I M t n)) (hfn:findC S.ch kn=some (bn,nodeB 0 (-1) frm 0 (.osl kf bf 1 1))) (hff:findC S.ch kf=some (bf,.arr 63 ptrR [px] 1)) (hkn:Nat.beq kn 900=false) (hkf:Nat.beq kf 900=false) (hkk:Nat.beq kn kf=false)
 (hcE:∀ h,HS S h→bn∉cE∧bf∉cE) (hx:It.one px x∈its) (hkv:den kv=rv bn)
 (herr:∀ x,o = .err x→oC = .err x)
 (hk:∀ x' m h',o = .ok x' m→n+1≤m→m≤I.L→updC S.ch 900 (rdB I M t m) fun ch=>delC ch kn fun ch=>delC ch kf fun ch=>Wd I M cE hE h' (blks ch) (.one (some ⟨bn,0,none⟩) x'::its)→κ kv ⟨h',blks ch,ch⟩) :
 CK Tryz.prog (ErrE I M br cE hE oC) f args caps S κ:=
 ⟨fun h hs=>.inr (.inr (by
  rw [ha]
  have hkn:=nbF hkn
  have hkf:=nbF hkf
  have hkk:=nbF hkk
  have h2:=hs.three hf hfn hff hkn.symm hkf.symm hkk 900 901 902
  have h2:HS ⟨h,[br,bn,bf],[(900,br,rdB I M t n),(901,bn,nodeB 0 (-1) frm 0 (.osl 902 bf 1 1)),(902,bf,.arr 63 ptrR [px] 1)]⟩ h:=h2.ren [900,901,902] ⟨⟨_,rfl,SC.rfl⟩,rfl,⟨_,rfl,SC.box rfl⟩,rfl,⟨_,rfl,SC.rfl⟩,rfl,trivial⟩
  have hsub:∀ b∈[br,bn,bf],b∈blks S.ch:=fun b hb=>by
   simp only [List.mem_cons,List.not_mem_nil,or_false] at hb
   rcases hb with rfl|rfl|rfl
   ·exact blk_mem hf
   ·exact blk_mem hfn
   ·exact blk_mem hff
  refine (hcon br bn bf h h2 (W.base.at hs hsub)).mono (fun v h' he=>he.up W hs hsub List.mem_cons_self herr) fun v h' ⟨k,w,m,ps,rest,A,len,c,e1,⟨e2,e3⟩,e4,e5,e6,h3,e7,e8,e9⟩=>?_
  obtain⟨l1,r1,br',c0,q1,q2,h6'⟩:=updC_sound (hk _ m h' e1 e2 e3)
  rw [hf] at q2
  cases q2
  obtain⟨ch1,h6'',h7',h8'⟩:=delC_sound h6'
  obtain⟨ch,h6,h7,h8⟩:=delC_sound h6''
  have hap:(l1++(900,br,rdB I M t n)::r1).Pairwise fun e e'=>e.2.1≠e'.2.1:=by rw [←q1];exact hs.apart
  have hin:∀ e∈ch,e=(900,br,rdB I M t m)∨(e∈S.ch∧e.2.1∉[br,bn,bf]):=fun e he=>by
   rcases upd_mem hap (h7'.subset (h7.subset he)) with rfl|⟨m1,m2⟩
   ·exact .inl rfl
   ·rw [←q1] at m1
    have m3:e.2.1≠bf:=apart_of hs.apart m1 (fM hff) fun e3=>h8 e he (by rw [e3])
    have m4:e.2.1≠bn:=apart_of hs.apart m1 (fM hfn) fun e3=>h8' e (h7.subset he) (by rw [e3])
    exact .inr ⟨m1,by simp [m2,m3,m4]⟩
  have h9:HS ⟨S.h0,S.cap,ch⟩ h':=by
   refine hs.remake [br,bn,bf] h3.size h3.frame hsub ((apart_upd hap).sublist (h7.trans h7')) fun e he=>?_
   rcases hin e he with rfl|h10
   ·exact .inr ⟨by simp,(h3.chunk _ List.mem_cons_self).2.2⟩
   ·exact .inl h10
  have l9:=h9.lB
  have hlt:∀ c∈blks ch,c<h.size∧c≠bn∧c≠bf:=fun c hc=>by
   obtain⟨e,he,rfl⟩:=bsp hc
   rcases hin e he with rfl|⟨m1,m2⟩
   ·exact⟨(hs.chunk _ (fM hf)).1,hs.ne hf hfn hkn.symm,hs.ne hf hff hkf.symm⟩
   ·simp only [List.mem_cons,List.not_mem_nil,or_false,not_or] at m2
    exact⟨(hs.chunk e m1).1,m2.2.1,m2.2.2⟩
  have hlo:=Nat.le_trans W.later.size hs.size
  have hbn:=W.lo_own hs hfn (hcE h hs).1
  have hbf:=W.lo_own hs hff (hcE h hs).2
  have hT:=W.its _ hx
  refine⟨_,_,by rw [e6,hkv],h9.anew,h6 ((W.anew l9).add ⟨?_,?_⟩)⟩
  ·refine tree_node ⟨hbn,(h3.chunk (901,bn,_) (List.mem_cons_of_mem _ List.mem_cons_self)).1,fun hm=>(hlt _ hm).2.1 rfl⟩ (h3.chunk (901,bn,_) (List.mem_cons_of_mem _ List.mem_cons_self)).2.2 (A:=A) (n:=len) (c:=c)
    ⟨e7.sl,fun h0 a e=>⟨(e7.out h0 a e).1,fun hm=>?_⟩⟩ (fun a h0 e=>?_) (TsI.cons (TrI.later l9 (Nat.le_refl _) x hT.1) (TsI.recap (fun c hc=>.inr (hlt c hc).1) hlo rest e9))
   ·have h10:=hlt _ hm
    rcases e8 a h0 e with h11|h11
    ·omega
    ·exact h10.2.2 h11
   ·rcases e8 a h0 e with h11|h11
    ·omega
    ·rw [h11];exact hbf
  ·simp only [Wf,WfL]
   exact⟨by simpa [Nat.add_comm] using e5,hT.2,e4⟩))⟩
theorem blk_or{A:Option Addr}{len lo lo' b bf:Nat}(h:∀ a:Addr,0<len→A=some a→lo≤a.block∨a.block=b)(hb:lo'≤b∨b=bf)(hl:lo≤lo'):∀ a:Addr,0<len→A=some a→lo≤a.block∨a.block=bf:=fun a h0 e=>
 (h a h0 e).elim .inl fun e1=>hb.elim (fun q=>.inl (by omega)) fun q=>.inr (by omega)
theorem Wd.finN(kn:Nat){bn bf:Nat}{px:Option Addr}{x:Nd}{frm:Int}{v rvb:Value}{k w m:Int}{A:Option Addr}{len c:Nat}{ps:List (Option Addr)}{rest:List Nd}{h':Heap}{o:Out Nd}{t:Bool}(W:Wd I M [br,bn,bf] hE S.h0 S.cap its)(hs:HS S h')(hbf:bf<hE.size)
 (hf:findC S.ch 900=some (br,rdB I M t m)) (hfn:findC S.ch kn=some (bn,nodeB k w frm m (.val (.slice A len c)))) (hkn:Nat.beq kn 900=false) (hh:Held ptrR S.h0 S.cap A len (px::ps)) (ha:∀ a,0<len→A=some a→hE.size≤a.block∨a.block=bf)
 (hi:It.many ps rest∈its) (ho:o = .ok (.mk k w frm m (x::rest)) m) (hr:n+1≤m∧m≤I.L) (hlk:leK k≤1+rest.length) (hrv:v=rvb) :
 ∃ k w n' ps rest A len c,o = .ok (.mk k w frm n' (x::rest)) n'∧(n+1≤n'∧n'≤I.L)∧WfL rest∧leK k≤1+rest.length∧v=rvb ∧
  HS ⟨hE,[br,bn,bf],[(900,br,rdB I M t n'),(901,bn,nodeB k w frm n' (.val (.slice A len c)))]⟩ h'∧Held ptrR h' [br,bn] A len (px::ps)∧(∀ a,0<len→A=some a→hE.size≤a.block∨a.block=bf)∧TsI hE.size h' [br,bn,bf] ps rest:=by
 have hkn:=nbF hkn
 have hsub:∀ b∈[br,bn],b∈blks S.ch:=fun b hb=>by
  simp only [List.mem_cons,List.not_mem_nil,or_false] at hb
  rcases hb with rfl|rfl
  ·exact blk_mem hf
  ·exact blk_mem hfn
 have l1:=hs.lB.less hsub
 have hT:=W.its _ hi
 refine⟨k,w,m,ps,rest,A,len,c,ho,hr,hT.2,hlk,hrv,HS.back W.later hs (hs.two hf hfn hkn.symm 900 901) hsub (fun e he=>.inl ?_),hh.later l1,ha,?_⟩
 ·simp only [List.mem_cons,List.not_mem_nil,or_false] at he ⊢
  rcases he with rfl|rfl
  ·exact .inl rfl
  ·exact .inr rfl
 ·refine TsI.recap (fun b hb=>?_) (Nat.le_refl _) rest (TsI.later l1 (Nat.le_refl _) rest hT.1)
  simp only [List.mem_cons,List.not_mem_nil,or_false] at hb ⊢
  rcases hb with rfl|rfl|rfl
  ·exact .inl (.inl rfl)
  ·exact .inl (.inr rfl)
  ·exact .inr hbf
end
end Go.Ex
namespace Go.Ex
open Go.Proofs
attribute [local irreducible] CH CsP word kindT
section
variable {I:In}{M:Loc}{g:Gt}{N:Int}{t:Bool}{n:Int}
theorem dot_conN(ok:InOk I)(H:Hyp I M g N)(px:Option Addr)(x0:Nd)(frm:Int)(hs0:n<I.L)(hn:0≤n∧n≤I.L)(hN:32*(I.L+1-n)+7≤N):ConN I M 191 [] (fun _=>.tuple #[]) px x0 frm (dotS I g t frm x0 (n+1)) t n:=fun br bn bf h hs hB=>by
 refine eP (rep:=rep) (m:=2) (ex:=[0,1,13,28]) (cu:=[]) (args:=[.own 900 br 0,.own 901 bn 0]) tO Tryz.func191 rfl (by decide) (rs:=[]) rfl rfl rfl hs ?_
 have W:=Wd.start ok hB
 have hl:=ok.len
 have hbf:bf<h.size:=(hs.chunk (902,bf,_) (List.mem_cons_of_mem _ (List.mem_cons_of_mem _ List.mem_cons_self))).1
 ((repeat' ((conv=>whnf);(first|(refine dW (id:=7) tO mixed (.pull 0 [9,10,11] (.pull 1 [2,3,4,8,9,10,11] (.pull 2 [3,4,8,9,10,11] (.pull 3 [4,8,9,10,11] (.pull 5 [6,7,8,9,10,11] (.br 4 6 (.one 6 (.one 7 (.one 8 (.pull 9 [10,11] (.pull 10 [11] (.one 11 .done)))))) (.br 4 7 (.one 7 (.one 8 (.pull 9 [10,11] (.pull 10 [11] (.one 11 .done))))) (.pull 4 [8,9,10,11] (.one 8 (.pull 9 [10,11] (.pull 10 [11] (.one 11 .done)))))))))))) (by kernel_rfl) (by kernel_rfl) ?_)|(refine Ar.fit (by omega) ?_)|(refine VC.mk (by (first|omega|(and_intros<;>first|omega|rfl|(simp only [maxLen];omega)|(simp only [List.length_append,List.length_take,List.length_replicate,List.length_cons,List.length_nil];omega)))) ?_)|(refine New.mk ?_;intro b hb)|(refine NewO.mk ?_;intro b c hb hbc)|(refine SR.same ?_)|(refine Two.mk ?_ ?_)|(refine CK.maybe W.ok W.base (by decide) rfl rfl (fun hx hm=>?_) (fun hx=>?_))|(refine CK.con W (name_con ok ⟨by omega,by omega⟩) rfl rfl (fun x hx=>?_) (fun x m bq h' hx hm1 hm2=>?_);rotate_left;(conv=>whnf);intro W)|(refine CK.con W (H (.typ) _ _ (by simp only [need,rank];omega) ⟨by omega,by omega⟩ (by exact trivial)) rfl rfl (fun x hx=>?_) (fun x m bq h' hx hm1 hm2=>?_);rotate_left;(try dsimp only [fstr] at hm1);(conv=>whnf);intro W)|(refine CK.want W (by decide) ⟨by omega,by omega⟩ rfl rfl (fun hx=>?_) (fun hx hm=>?_);rotate_left)|(have hws:=W.later.size;refine CK.closeXO 901 902 W rfl rfl rfl rfl rfl rfl rfl rfl rfl rfl rfl rfl rfl rfl (rN) (rC W (by repeat (first|exact List.Mem.head _|apply List.Mem.tail)) (rN)) (by simp) (fun A len c h' hA=>?_);(conv=>whnf);intro hHd W)|(have hws:=W.later.size;refine CK.closeXN 901 902 W rfl rfl rfl rfl rfl rfl rfl rfl rfl (rN) (by simp) (fun A len c h' hA=>?_);(conv=>whnf);intro hHd W)|(have hws:=W.later.size;refine CK.closeXN 901 40 W rfl rfl rfl rfl rfl rfl rfl rfl rfl (rC W (by repeat (first|exact List.Mem.head _|apply List.Mem.tail)) (rN)) (by simp) (fun A len c h' hA=>?_);(conv=>whnf);intro hHd W)|fail)));all_goals (try (conv=>whnf)))
 all_goals first|(refine⟨fun h' hs=>W.finN 901 (t:=t) hs hbf rfl rfl rfl hHd (by first|exact hA|exact blk_or hA (hb.imp (fun q=>q) fun q=>q.1) hws) (by repeat (first|exact List.Mem.head _|apply List.Mem.tail)) ?_ ⟨by omega,by omega⟩ (by simp [leK]) rfl⟩;(simp [dotS,bnd,want, *];done))|(simp [dotS,bnd,want, *];done)|contradiction|skip
end
end Go.Ex
