/-
  Top: TopComments: whatever the input, the law answers true (part 35)
-/
import Derived.Test.YtpjdgifhhnjclaaGreatDoorM14
import Derived.Test.YtpjdgifhhnjclaaGreatDoorM34
set_option linter.unusedVariables false
set_option linter.unusedSimpArgs false
set_option maxHeartbeats 4000000
set_option maxRecDepth 10000
namespace Go.Ex
open Go.Proofs
mutual
def I5:Nd→List Pq
 |.mk k w f t l=>⟨k,l.length,w,f,t⟩::H8 l
def H8:List Nd→List Pq
 |[]=>[]
 |x::r=>I5 x++H8 r
end
theorem tG(x:Nd):0<(I5 x).length:=by
 cases x
 simp only [I5,List.length_cons]
 omega
theorem R7(l:List Nd)(i:Nat)(hi:i<l.length):H8 (l.drop i)=I5 (l.getD i I3)++H8 (l.drop (i+1)):=by
 rw [List.drop_eq_getElem_cons hi,H8,List.getD_eq_getElem?_getD,List.getElem?_eq_getElem hi]
 rfl
theorem aC(l:List Nd):∀ i,(H8 (l.drop i)).length≤(H8 l).length
 |0=>by simp
 |i+1=>by
  by_cases hi:i<l.length
  ·have h1:=aC l i
   rw [R7 l i hi,List.length_append] at h1
   omega
  ·rw [List.drop_eq_nil_of_le (by omega)]
   simp [H8]
theorem xE:∀ l:List Nd,l.length≤(H8 l).length
 |[]=>Nat.le_refl _
 |x::r=>by have:=tG x;have:=xE r;rw [H8,List.length_append,List.length_cons];omega
attribute [local irreducible] CH
end Go.Ex
namespace Go.Ex
open Go.Proofs
section
variable {P:Program}{ty:Nat→Option gS}{rep:Jj}{n m:Nat}{ex cu:List Nat}{S:St}{K:Kn}{X:Hj}{κ:Kt}
theorem Zw(hty:H6 P ty){o1 o2:Oper}{id:Nat}(g1:o1.guard=none)(hd:jS n o1.dst=true)(h:Yn P ty rep o1 K S fun v S'=>∃ v',B0 v'=B0 v∧pV P ty rep n [o1,o2] [o2] (W2 K o1.dst v') S' κ) :
 nB P n ty rep m ex cu (.region id #[o1,o2] false) X κ K S:=⟨fun Df w0 a w ha he hs=>by
 refine wp_region_lit (l:=[o1,o2]) ?_
 unfold wpList
 rw [if_pos (by simp [Region.wanted,g1])]
 refine .inl (eV hty h ha hs (fun v w' he' hE=>⟨v,rfl,ha.defers,he.trans he',hE⟩) fun kv S' w' he' hs' hk=>?_)
 obtain⟨v',e,hk⟩:=hk
 have h2:=fZ (X:=X) hty (ops:=[o1,o2]) [o2] _ S' κ hk w0 _ w' (ha.put (bA hd) v') (he.trans he') hs'
 rw [e] at h2
 exact h2⟩
end
theorem yY{s:ByteArray}{goal:Int}{ea:Int×Int}(h:aK s goal = .inl ea):¬ (ea.1=0∧ea.2=0):=by
 unfold aK at h
 split at h
 ·cases h;simp
 ·split at h
  ·rename_i c;cases h;exact c
  ·split at h
   ·cases h
   ·cases h;simp
attribute [local irreducible] CH aK
end Go.Ex
namespace Go.Ex
open Go.Proofs
structure BM(I:In):Prop where
 len:I.L≤1000000
 size:I.s.size≤1000000
 rng:∀ x∈I.toks,0≤x.frm∧x.frm≤x.to∧x.to≤I.s.size
theorem BM.at{I:In}(ok:BM I){i:Int}(h0:0≤i)(h1:i<I.L):0≤(B1 C4.dflt I.toks i).frm∧(B1 C4.dflt I.toks i).frm≤(B1 C4.dflt I.toks i).to∧(B1 C4.dflt I.toks i).to≤I.s.size:=
 ok.rng _ (W8 _ _ _ h0 h1)
section
variable {I:In}{M:O6}{br:Nat}{t:Bool}{n:Int}{h:A3}
attribute [local irreducible] CH in
theorem Ol(ok:BM I)(hs:HS ⟨h,[br],G5 I M br t n⟩ h)(hT:D3 C4 h [br] M.tA M.tn I.toks)(i:Int):CH Tryz.prog 31 #[ptr br,.int .i64 i] h fun v h'=>v = .string (word I i)∧A5 h h':=by
 refine hX 4 [4,5,16,25,26,28] [] [.own 900 br 0,.val (.int .i64 i)] Tryz.func31 rfl hs ?_
 have hsl:=hT.sl
 have htn:(M.tn:Int)=I.L:=by have:=hsl.len_eq;unfold In.L;omega
 have hs0:=hs
 by_cases hi:i<0∨I.L≤i
 ·have e:word I i=⟨#[]⟩:=by rw [word,if_pos hi]
  rw [e]
  ((repeat' (conv=>whnf);first|(refine VC.mk (by omega) ?_)|(refine Br.mk ?_ ?_<;>intro hb<;>(try omega))|fail);all_goals try conv=>whnf)
  all_goals exact⟨fun h' hs=>⟨rfl,hs0.gB hs rfl⟩⟩
 ·have hr:=ok.at (i:=i) (by omega) (by omega)
  obtain⟨w,hw⟩:∃ w,word I i=w:=⟨_,rfl⟩
  rw [hw]
  rw [word,if_neg hi] at hw
  ((repeat' (conv=>whnf);first|(refine VC.mk (by (first|omega|exact Sl.plain (by assumption) (by omega))) ?_)|(refine Br.mk ?_ ?_<;>intro hb<;>(try omega))|(refine E5.mk ?_;intro b hb)|(refine drawn tO mixed (by kernel_rfl) ?_)|(refine C1.held hT rfl (by omega) (by omega) rfl ?_)|fail);all_goals try conv=>whnf)
  all_goals exact⟨fun h' hs=>⟨yD (by simp_all),hs0.gB hs rfl⟩⟩
end
def eK(I:In)(w:Int):ByteArray:=if 0≤w then I.s.extract (B1 C4.dflt I.toks w).frm.toNat (B1 C4.dflt I.toks w).to.toNat else ⟨#[]⟩
def Y0(I:In)(k w:Int):ByteArray:=if k=45 then (if eK I w=(⟨#[60,45]⟩:ByteArray) then (⟨#[60,45,99,104,97,110]⟩:ByteArray) else if word I (w+1)=(⟨#[60,45]⟩:ByteArray) then (⟨#[99,104,97,110,60,45]⟩:ByteArray) else eK I w) else eK I w
def M0(I:In)(y:Pq):M8:=⟨y.kind,y.kids,Y0 I y.kind y.word⟩
structure Sv where
 L:List M8
 o:Option (Nat×Nat)
structure Tk where
 b3:Nat
 b6:Nat
 br:Nat
 b9:Nat
 b10:Nat
 b11:Nat
 s:ByteArray
 A:Option Addr
 n:Nat
 c:Nat
def BR(x:Sv):KV:=match x.o with
 |none=>.val (.slice none 0 0)
 |some (b,c)=>.osl 50 b x.L.length c
def EM(x:Sv):L8:=match x.o with
 |none=>[]
 |some (b,c)=>[(50,b,.arr 51 P3 x.L c)]
abbrev EN(q:Tk):Value:=.func (.func 30) #[] #[ptr q.b3,ptr q.b6,ptr q.b9,ptr q.b10,ptr q.b11]
def yA(q:Tk)(x:Sv):L8:=(3,q.b3,.box 9 [.val (.string q.s)])::(6,q.b6,.box 22 [.val (.slice q.A q.n q.c)])::(26,q.br,.box 80 [.val (.string q.s),.val (.slice q.A q.n q.c),.val (.slice none 0 0),.val (.int .i64 0),.val (.bool false)])::(9,q.b9,.box 78 [.own 26 q.br 0])::(10,q.b10,.box 46 [BR x])::(11,q.b11,.box 66 [.val (EN q)])::EM x
structure Jy(x:Sv):Prop where
 no:x.o=none→x.L=[]
 le:∀ b c,x.o=some (b,c)→x.L.length≤c
def EI(q:Tk)(x:Sv)(l:List M8)(h:A3)(u:Value)(h':A3):Prop:=
 u = .tuple #[]∧∃ x':Sv,x'.L=x.L++l∧Jy x'∧HS ⟨h,blks (yA q x),yA q x'⟩ h'
theorem CK.tk{q:Tk}{x:Sv}{l:List M8}{E:Value→A3→Prop}{S:St}{κ:KV→St→Prop}{args caps:List KV}{r:L8}(hc:X1 S.ch (yA q x++r))(hh:∀ h,HS S h→HS ⟨h,blks (yA q x),yA q x⟩ h→(∀ c∈blks (yA q x),c∈blks S.ch)→CH Tryz.prog 30 (args.map A1++caps.map A0).toArray h (EI q x l h))
 (hk:∀ x':Sv,x'.L=x.L++l→Jy x'→κ (.tup []) ⟨S.h0,S.cap,yA q x'++r⟩):CK Tryz.prog E 30 args caps S κ:=by
 refine CK.mut (yA q x) r (fun kv q'=>kv = .tup []∧∃ x':Sv,q'=yA q x'∧x'.L=x.L++l∧Jy x') hc (fun h hs1 hs=>?_) ?_
 ·exact (hh h hs1 hs fun c hm=>by obtain⟨e,he,rfl⟩:=oH hm;exact G9 (hc.mem e (List.mem_append.2 (.inl he)))).mono fun u h' ⟨a1,x',a2,a3,a4⟩=>⟨.tup [],_,a1.symm,a4,rfl,x',rfl,a2,a3⟩
 ·rintro kv q' ⟨rfl,x',rfl,h1,h2⟩
  exact hk x' h1 h2
theorem qE{q:Tk}{T:List M7}(ok:BM ⟨q.s,T,[]⟩){S:St}{h:A3}(hs:HS S h)(hA:D3 C4 S.h0 S.cap q.A q.n T)(hf:B3 S.ch 26=some (q.br,.box 80 [.val (.string q.s),.val (.slice q.A q.n q.c),.val (.slice none 0 0),.val (.int .i64 0),.val (.bool false)]))(i:Int) :
 CH Tryz.prog 31 #[ptr q.br,.int .i64 i] h fun v h'=>v = .string (word ⟨q.s,T,[]⟩ i)∧A5 h h':=
 Ol (I:=⟨q.s,T,[]⟩) (M:=⟨q.A,q.n,q.c,none,0,0⟩) (t:=false) (n:=0) ok (HS.ren (S:=S) hs [26] (L:=[(900,q.br,H5 ⟨q.s,T,[]⟩ ⟨q.A,q.n,q.c,none,0,0⟩ false 0)]) ⟨⟨_,hf,SC.box rfl⟩,rfl,trivial⟩).anew (hA.later (hs.lB.less fun c hc=>by rw [List.mem_singleton.1 hc];exact J0 hf)) i
theorem xD:∀ (l:List Nd) (i:Nat),i<l.length→∀ y∈I5 (l.getD i I3),y∈H8 l
 |[],i,hi=>absurd hi (Nat.not_lt_zero i)
 |x::r,0,hi=>fun y hy=>by rw [H8];exact List.mem_append.2 (.inl hy)
 |x::r,i+1,hi=>fun y hy=>by rw [H8];exact List.mem_append.2 (.inr (xD r i (by simpa using hi) y (by simpa using hy)))
attribute [local irreducible] CH word
theorem qX:∀ (k:Nat) (x:Nd),(I5 x).length≤k→∀ (lo:Nat) (q:Tk) (T:List M7) (st:Sv) (h:A3) (p:Option Addr),HS ⟨h,blks (yA q st),yA q st⟩ h→Jy st→(st.L++(I5 x).map (M0 ⟨q.s,T,[]⟩)).length≤1000000000 →
 BM ⟨q.s,T,[]⟩→D3 C4 h (blks (yA q st)) q.A q.n T→(∀ y∈I5 x,-1≤y.word∧y.word<T.length)→Q2 lo h (blks (yA q st)) p x→CH Tryz.prog 30 #[.pointer p,ptr q.b3,ptr q.b6,ptr q.b9,ptr q.b10,ptr q.b11] h (EI q st ((I5 x).map (M0 ⟨q.s,T,[]⟩)) h)
 |0,x,hx=>absurd (tG x) (by omega)
 |k+1,.mk kd wd fr to l,hx=>fun lo q Tks st h p hs hst hz ok hTk hwd hT=>by
  obtain⟨bn,A,n,c,ps,rfl,-⟩:=id hT
  clear A n c ps
  have hst1:=hst.le
  have hst0:=hst.no
  obtain⟨L,o⟩:=st
  obtain⟨R,hR⟩:∃ R,L++(I5 (Nd.mk kd wd fr to l)).map (M0 ⟨q.s,Tks,[]⟩)=R:=⟨_,rfl⟩
  have hzR:R.length≤1000000000:=by rw [←hR];exact hz
  dsimp only at hst0 hst1 hz
  simp only [I5,List.map_cons,List.length_append,List.length_cons,List.length_map] at hx hz
  have hll:l.length≤1000000000:=by have:=xE l;omega
  have hw0 : -1≤wd∧wd<Tks.length:=hwd ⟨kd,l.length,wd,fr,to⟩ (by simp [I5])
  have hwk:∀ i,i<l.length→∀ y∈I5 (l.getD i I3),-1≤y.word∧y.word<Tks.length:=fun i hi y hy=>hwd y (by simp only [I5];exact List.mem_cons_of_mem _ (xD l i hi y hy))
  have hlen:=hTk.sl.len_eq
  have hrg:0≤wd→0≤(B1 C4.dflt Tks wd).frm∧(B1 C4.dflt Tks wd).frm≤(B1 C4.dflt Tks wd).to∧(B1 C4.dflt Tks wd).to≤q.s.size:=fun h0=>ok.at (I:=⟨q.s,Tks,[]⟩) h0 hw0.2
  obtain⟨hwm,hw0⟩:=hw0
  have hszq:=ok.size
  have hlq:=ok.len
  dsimp only [In.L] at hszq hlq
  obtain⟨W,hW⟩:∃ W,Y0 ⟨q.s,Tks,[]⟩ kd wd=W:=⟨_,rfl⟩
  have hR':L++⟨kd,l.length,W⟩::(H8 l).map (M0 ⟨q.s,Tks,[]⟩)=R:=by rw [←hR,←hW];simp [I5,M0]
  have hplT:0≤wd→O1 q.A:=fun h0=>hTk.sl.plain (by omega)
  obtain⟨b3,b6,br,b9,b10,b11,s,At,nt,ct⟩:=q
  dsimp only at hTk hlen hrg hszq hW hplT
  have hplT:O1 At∨wd<0:=by by_cases h0:0≤wd;exact .inl (hplT h0);exact .inr (by omega)
  unfold Y0 eK at hW
  dsimp only at hW
  rcases o with _|⟨b2,c2⟩
  ·have:=hst0 rfl
   subst this
   have hs:HS ⟨h,blks (yA ⟨b3,b6,br,b9,b10,b11,s,At,nt,ct⟩ ⟨[],none⟩),[(3,b3,.box 9 [.val (.string s)]),(6,b6,.box 22 [.val (.slice At nt ct)]),(26,br,.box 80 [.val (.string s),.val (.slice At nt ct),.val (.slice none 0 0),.val (.int .i64 0),.val (.bool false)]),(9,b9,.box 78 [.own 26 br 0]),(10,b10,.box 46 [.val (.slice none 0 0)]),(11,b11,.box 66 [.val (.func (.func 30) #[] #[ptr b3,ptr b6,ptr b9,ptr b10,ptr b11])])]⟩ h:=hs
   refine hX 6 [7,9,14,37,38,41,67,68,69,70] [] [.val (.pointer (some ⟨bn,0,none⟩)),.own 3 b3 0,.own 6 b6 0,.own 9 b9 0,.own 10 b10 0,.own 11 b11 0] Tryz.func30 rfl hs ?_
   by_cases h0:0≤wd
   ·have hplT:=hplT.resolve_right (by omega)
    replace hrg:=hrg h0
    ((repeat' (conv=>whnf);first|(refine C2 (id:=6) (.pl [1,2,3,4,5,0] (.on [6] (.pl [7,8] .e))) (by kernel_rfl) ?_)|(refine C2 (id:=8) (.pl [1,2,3,5,6,7,10,8,9,4,11] (.bp 0 12 (.on [13,14] .e))) (by kernel_rfl) ?_)|(refine Ar.fit (by omega) ?_)|(refine VC.mk (by (first|omega|(and_intros<;>first|omega|rfl|(simp only [maxLen];omega)|(simp only [lL];omega)))) ?_)|(refine Br.mk ?_ ?_<;>intro hb<;>(try replace hb:=nN hb)<;>(try (first|omega|contradiction)))|(refine E5.mk ?_;intro b hb)|(refine aH.mk ?_;intro b c hb hbc)|(refine SR.same ?_)|(refine dD.mk ?_ ?_)|(refine A9.kind hT (show G8 false (O7 [.int .u8 kd]) _ from ?_))|(refine A9.word hT (show G8 false (O7 [.int .i64 wd]) _ from ?_))|(refine A9.kids hT ?_;intro A n1 c1 ps hA hTs hn1;dsimp only [Nd.kids] at hn1 hTs;subst hn1)|(refine C1.held hTk rfl (by omega) (by omega) rfl ?_)|(refine A7 ?_ fun h1 hs=>qE (q:=⟨b3,b6,br,b9,b10,b11,s,At,nt,ct⟩) (T:=Tks) ok hs hTk rfl _)|(refine (drawn tO mixed (by kernel_rfl) ?_))|fail);all_goals try conv=>whnf)
    all_goals
     refine gG tO [69] (fun y:List M8×Nat×Nat×Nat=>[(69,.val (.int .i64 y.2.2.2))]) (fun y=>⟨h,blks (yA ⟨b3,b6,br,b9,b10,b11,s,At,nt,ct⟩ ⟨[],none⟩),[(3,b3,.box 9 [.val (.string s)]),(6,b6,.box 22 [.val (.slice At nt ct)]),(26,br,.box 80 [.val (.string s),.val (.slice At nt ct),.val (.slice none 0 0),.val (.int .i64 0),.val (.bool false)]),(9,b9,.box 78 [.own 26 br 0]),(10,b10,.box 46 [.osl 50 y.2.1 y.1.length y.2.2.1]),(11,b11,.box 66 [.val (.func (.func 30) #[] #[ptr b3,ptr b6,ptr b9,ptr b10,ptr b11])]),(50,y.2.1,.arr 51 P3 y.1 y.2.2.1)]⟩) (fun μ y=>y.1++(H8 (l.drop y.2.2.2)).map (M0 ⟨s,Tks,[]⟩)=R∧y.2.2.2+μ=l.length∧y.1.length≤y.2.2.1∧¬ y.1=[]) ?_
     conv=>whnf
     refine⟨fun h1 hs=>⟨l.length,([]++[⟨kd,l.length,W⟩],_,_,0),⟨by dsimp only;rw [←hR'];simp,by simp,by simpa using hbc,by simp⟩,?_,hs.ren [3,6,26,9,10,11,63] (B4 rfl rfl (B4 rfl rfl (B4 rfl rfl (B4 rfl rfl (F9 rfl (SC.box (by simp [A0])) rfl (B4 rfl rfl (F9 rfl (SC.arr8 (by rw [←hW];simp [*])) rfl E8)))))))⟩,?_⟩
     ·refine And.intro ⟨_,rfl,by first|rfl|(simp [B0,A1,A0];done)⟩ ?_
      (repeat (refine And.intro ⟨_,rfl,rfl⟩ ?_));exact trivial
     rintro μ ⟨L1,b1,c2,i⟩ ⟨t1,t2,t3,t4⟩
     dsimp only at t1 t2 t3 t4 ⊢
     clear hW
     by_cases hi:i<l.length
     ·obtain⟨f,rfl⟩:∃ f,μ=f+1:=⟨μ-1,by omega⟩
      rw [R7 l i hi,List.map_append] at t1
      have hfl:(I5 (l.getD i I3)).length≤k:=by have h1:=aC l i;rw [R7 l i hi,List.length_append] at h1;omega
      have hzi:(L1++(I5 (l.getD i I3)).map (M0 ⟨s,Tks,[]⟩)).length≤1000000000:=by rw [←t1] at hzR;simp only [List.length_append,List.length_map] at hzR ⊢;omega
      have hpl:O1 A:=hA.sl.plain (by omega)
      ((repeat' (conv=>whnf);first|(refine Ar.fit (by omega) ?_)|(refine VC.mk (by omega) ?_)|(refine Br.mk ?_ ?_<;>intro hb<;>(try replace hb:=nN hb)<;>(try omega))|(refine C1.kid i hA hTs hi ?_;intro bq hT0)|(refine CK.tk (q:=⟨b3,b6,br,b9,b10,b11,s,At,nt,ct⟩) (x:=⟨L1,some (b1,c2)⟩) (r:=[]) (l:=(I5 (l.getD i I3)).map (M0 ⟨s,Tks,[]⟩)) ⟨rfl,rfl,rfl,rfl,rfl,rfl,rfl,rfl,rfl,rfl,rfl,rfl,rfl,rfl,trivial⟩ (fun h1 hs1 hs2 hsub=>qX k _ hfl lo ⟨b3,b6,br,b9,b10,b11,s,At,nt,ct⟩ Tks _ h1 _ hs2 ⟨fun e=>(by cases e),fun b c e=>(by cases e;exact t3)⟩ hzi ok (hTk.later (hs1.lB.less hsub)) (hwk i hi) (Q2.later (hs1.lB.less hsub) (Nat.le_refl _) _ hT0)) (fun x' e1 e2=>?_);obtain⟨L2,o2⟩:=x';obtain⟨e20,e21⟩:=e2;dsimp only at e1 e20 e21;rcases o2 with _|⟨b3',c3⟩;(exact absurd (e20 rfl) (by rw [e1];simp [t4])))|fail);all_goals try conv=>whnf)
      all_goals
       intro h2 hs
       refine⟨f,(L2,b3',c3,i+1),⟨by dsimp only;rw [e1,←t1,List.append_assoc],by dsimp only;omega,e21 _ _ rfl,by dsimp only;rw [e1];simp [t4]⟩,Nat.lt_succ_self f,?_,hs.ren [3,6,26,9,10,11,50] (B4 rfl rfl (B4 rfl rfl (B4 rfl rfl (B4 rfl rfl (B4 rfl rfl (B4 rfl rfl (B4 rfl rfl E8)))))))⟩
       refine And.intro ⟨_,rfl,by first|rfl|(simp [B0,A1,A0];done)⟩ ?_
       (repeat (refine And.intro ⟨_,rfl,rfl⟩ ?_));exact trivial
     ·((repeat' (conv=>whnf);first|(refine Br.mk ?_ ?_<;>intro hb<;>(try replace hb:=nN hb)<;>(try omega))|fail);all_goals try conv=>whnf)
      all_goals
       rw [List.drop_eq_nil_of_le (by omega),H8,List.map_nil,List.append_nil] at t1
       exact⟨fun h' hs=>⟨rfl,⟨R,some (b1,c2)⟩,hR.symm,⟨fun e=>(by cases e),fun b c e=>(by cases e;rw [←t1];exact t3)⟩,hs.ren [3,6,26,9,10,11,50] (B4 rfl rfl (B4 rfl rfl (B4 rfl rfl (B4 rfl rfl (F9 rfl (SC.box (by simp [A0,BR,t1])) rfl (B4 rfl rfl (F9 rfl (SC.arr8 t1) rfl E8)))))))⟩⟩
   ·clear hrg
    ((repeat' (conv=>whnf);first|(refine C2 (id:=6) (.pl [1,2,3,4,5,0] (.on [6] (.pl [7,8] .e))) (by kernel_rfl) ?_)|(refine C2 (id:=8) (.pl [1,2,3,5,6,7,10,8,9,4,11] (.bp 0 12 (.on [13,14] .e))) (by kernel_rfl) ?_)|(refine Ar.fit (by omega) ?_)|(refine VC.mk (by (first|omega|(and_intros<;>first|omega|rfl|(simp only [maxLen];omega)|(simp only [lL];omega)))) ?_)|(refine Br.mk ?_ ?_<;>intro hb<;>(try replace hb:=nN hb)<;>(try (first|omega|contradiction)))|(refine E5.mk ?_;intro b hb)|(refine aH.mk ?_;intro b c hb hbc)|(refine SR.same ?_)|(refine dD.mk ?_ ?_)|(refine A9.kind hT (show G8 false (O7 [.int .u8 kd]) _ from ?_))|(refine A9.word hT (show G8 false (O7 [.int .i64 wd]) _ from ?_))|(refine A9.kids hT ?_;intro A n1 c1 ps hA hTs hn1;dsimp only [Nd.kids] at hn1 hTs;subst hn1)|(refine A7 ?_ fun h1 hs=>qE (q:=⟨b3,b6,br,b9,b10,b11,s,At,nt,ct⟩) (T:=Tks) ok hs hTk rfl _)|fail);all_goals try conv=>whnf)
    all_goals
     refine gG tO [69] (fun y:List M8×Nat×Nat×Nat=>[(69,.val (.int .i64 y.2.2.2))]) (fun y=>⟨h,blks (yA ⟨b3,b6,br,b9,b10,b11,s,At,nt,ct⟩ ⟨[],none⟩),[(3,b3,.box 9 [.val (.string s)]),(6,b6,.box 22 [.val (.slice At nt ct)]),(26,br,.box 80 [.val (.string s),.val (.slice At nt ct),.val (.slice none 0 0),.val (.int .i64 0),.val (.bool false)]),(9,b9,.box 78 [.own 26 br 0]),(10,b10,.box 46 [.osl 50 y.2.1 y.1.length y.2.2.1]),(11,b11,.box 66 [.val (.func (.func 30) #[] #[ptr b3,ptr b6,ptr b9,ptr b10,ptr b11])]),(50,y.2.1,.arr 51 P3 y.1 y.2.2.1)]⟩) (fun μ y=>y.1++(H8 (l.drop y.2.2.2)).map (M0 ⟨s,Tks,[]⟩)=R∧y.2.2.2+μ=l.length∧y.1.length≤y.2.2.1∧¬ y.1=[]) ?_
     conv=>whnf
     refine⟨fun h1 hs=>⟨l.length,([]++[⟨kd,l.length,W⟩],_,_,0),⟨by dsimp only;rw [←hR'];simp,by simp,by simpa using hbc,by simp⟩,?_,hs.ren [3,6,26,9,10,11,63] (B4 rfl rfl (B4 rfl rfl (B4 rfl rfl (B4 rfl rfl (F9 rfl (SC.box (by simp [A0])) rfl (B4 rfl rfl (F9 rfl (SC.arr8 (by rw [←hW];simp [*])) rfl E8)))))))⟩,?_⟩
     ·refine And.intro ⟨_,rfl,by first|rfl|(simp [B0,A1,A0];done)⟩ ?_
      (repeat (refine And.intro ⟨_,rfl,rfl⟩ ?_));exact trivial
     rintro μ ⟨L1,b1,c2,i⟩ ⟨t1,t2,t3,t4⟩
     dsimp only at t1 t2 t3 t4 ⊢
     clear hW
     by_cases hi:i<l.length
     ·obtain⟨f,rfl⟩:∃ f,μ=f+1:=⟨μ-1,by omega⟩
      rw [R7 l i hi,List.map_append] at t1
      have hfl:(I5 (l.getD i I3)).length≤k:=by have h1:=aC l i;rw [R7 l i hi,List.length_append] at h1;omega
      have hzi:(L1++(I5 (l.getD i I3)).map (M0 ⟨s,Tks,[]⟩)).length≤1000000000:=by rw [←t1] at hzR;simp only [List.length_append,List.length_map] at hzR ⊢;omega
      have hpl:O1 A:=hA.sl.plain (by omega)
      ((repeat' (conv=>whnf);first|(refine Ar.fit (by omega) ?_)|(refine VC.mk (by omega) ?_)|(refine Br.mk ?_ ?_<;>intro hb<;>(try replace hb:=nN hb)<;>(try omega))|(refine C1.kid i hA hTs hi ?_;intro bq hT0)|(refine CK.tk (q:=⟨b3,b6,br,b9,b10,b11,s,At,nt,ct⟩) (x:=⟨L1,some (b1,c2)⟩) (r:=[]) (l:=(I5 (l.getD i I3)).map (M0 ⟨s,Tks,[]⟩)) ⟨rfl,rfl,rfl,rfl,rfl,rfl,rfl,rfl,rfl,rfl,rfl,rfl,rfl,rfl,trivial⟩ (fun h1 hs1 hs2 hsub=>qX k _ hfl lo ⟨b3,b6,br,b9,b10,b11,s,At,nt,ct⟩ Tks _ h1 _ hs2 ⟨fun e=>(by cases e),fun b c e=>(by cases e;exact t3)⟩ hzi ok (hTk.later (hs1.lB.less hsub)) (hwk i hi) (Q2.later (hs1.lB.less hsub) (Nat.le_refl _) _ hT0)) (fun x' e1 e2=>?_);obtain⟨L2,o2⟩:=x';obtain⟨e20,e21⟩:=e2;dsimp only at e1 e20 e21;rcases o2 with _|⟨b3',c3⟩;(exact absurd (e20 rfl) (by rw [e1];simp [t4])))|fail);all_goals try conv=>whnf)
      all_goals
       intro h2 hs
       refine⟨f,(L2,b3',c3,i+1),⟨by dsimp only;rw [e1,←t1,List.append_assoc],by dsimp only;omega,e21 _ _ rfl,by dsimp only;rw [e1];simp [t4]⟩,Nat.lt_succ_self f,?_,hs.ren [3,6,26,9,10,11,50] (B4 rfl rfl (B4 rfl rfl (B4 rfl rfl (B4 rfl rfl (B4 rfl rfl (B4 rfl rfl (B4 rfl rfl E8)))))))⟩
       refine And.intro ⟨_,rfl,by first|rfl|(simp [B0,A1,A0];done)⟩ ?_
       (repeat (refine And.intro ⟨_,rfl,rfl⟩ ?_));exact trivial
     ·((repeat' (conv=>whnf);first|(refine Br.mk ?_ ?_<;>intro hb<;>(try replace hb:=nN hb)<;>(try omega))|fail);all_goals try conv=>whnf)
      all_goals
       rw [List.drop_eq_nil_of_le (by omega),H8,List.map_nil,List.append_nil] at t1
       exact⟨fun h' hs=>⟨rfl,⟨R,some (b1,c2)⟩,hR.symm,⟨fun e=>(by cases e),fun b c e=>(by cases e;rw [←t1];exact t3)⟩,hs.ren [3,6,26,9,10,11,50] (B4 rfl rfl (B4 rfl rfl (B4 rfl rfl (B4 rfl rfl (F9 rfl (SC.box (by simp [A0,BR,t1])) rfl (B4 rfl rfl (F9 rfl (SC.arr8 t1) rfl E8)))))))⟩⟩
  ·have hLc:=hst1 _ _ rfl
   have hs:HS ⟨h,blks (yA ⟨b3,b6,br,b9,b10,b11,s,At,nt,ct⟩ ⟨L,some (b2,c2)⟩),[(3,b3,.box 9 [.val (.string s)]),(6,b6,.box 22 [.val (.slice At nt ct)]),(26,br,.box 80 [.val (.string s),.val (.slice At nt ct),.val (.slice none 0 0),.val (.int .i64 0),.val (.bool false)]),(9,b9,.box 78 [.own 26 br 0]),(10,b10,.box 46 [.osl 50 b2 L.length c2]),(11,b11,.box 66 [.val (.func (.func 30) #[] #[ptr b3,ptr b6,ptr b9,ptr b10,ptr b11])]),(50,b2,.arr 51 P3 L c2)]⟩ h:=hs
   refine hX 6 [7,9,14,37,38,41,67,68,69,70] [] [.val (.pointer (some ⟨bn,0,none⟩)),.own 3 b3 0,.own 6 b6 0,.own 9 b9 0,.own 10 b10 0,.own 11 b11 0] Tryz.func30 rfl hs ?_
   by_cases h0:0≤wd
   ·have hplT:=hplT.resolve_right (by omega)
    replace hrg:=hrg h0
    ((repeat' (conv=>whnf);first|(refine C2 (id:=6) (.pl [1,2,3,4,5,0] (.on [6] (.pl [7,8] .e))) (by kernel_rfl) ?_)|(refine C2 (id:=8) (.pl [1,2,3,5,6,7,10,8,9,4,11] (.bp 0 12 (.on [13,14] .e))) (by kernel_rfl) ?_)|(refine Ar.fit (by omega) ?_)|(refine VC.mk (by (first|omega|(and_intros<;>first|omega|rfl|(simp only [maxLen];omega)|(simp only [lL];omega)))) ?_)|(refine Br.mk ?_ ?_<;>intro hb<;>(try replace hb:=nN hb)<;>(try omega))|(refine E5.mk ?_;intro b hb)|(refine X0.mk ?_;intro b c hb hbc)|(refine SR.same ?_)|(refine dD.mk ?_ ?_)|(refine A9.kind hT (show G8 false (O7 [.int .u8 kd]) _ from ?_))|(refine A9.word hT (show G8 false (O7 [.int .i64 wd]) _ from ?_))|(refine A9.kids hT ?_;intro A n1 c1 ps hA hTs hn1;dsimp only [Nd.kids] at hn1 hTs;subst hn1)|(refine C1.held hTk rfl (by omega) (by omega) rfl ?_)|(refine A7 ?_ fun h1 hs=>qE (q:=⟨b3,b6,br,b9,b10,b11,s,At,nt,ct⟩) (T:=Tks) ok hs hTk rfl _)|(refine (drawn tO mixed (by kernel_rfl) ?_))|fail);all_goals try conv=>whnf)
    all_goals
     refine gG tO [69] (fun y:List M8×Nat×Nat×Nat=>[(69,.val (.int .i64 y.2.2.2))]) (fun y=>⟨h,blks (yA ⟨b3,b6,br,b9,b10,b11,s,At,nt,ct⟩ ⟨L,some (b2,c2)⟩),[(3,b3,.box 9 [.val (.string s)]),(6,b6,.box 22 [.val (.slice At nt ct)]),(26,br,.box 80 [.val (.string s),.val (.slice At nt ct),.val (.slice none 0 0),.val (.int .i64 0),.val (.bool false)]),(9,b9,.box 78 [.own 26 br 0]),(10,b10,.box 46 [.osl 50 y.2.1 y.1.length y.2.2.1]),(11,b11,.box 66 [.val (.func (.func 30) #[] #[ptr b3,ptr b6,ptr b9,ptr b10,ptr b11])]),(50,y.2.1,.arr 51 P3 y.1 y.2.2.1)]⟩) (fun μ y=>y.1++(H8 (l.drop y.2.2.2)).map (M0 ⟨s,Tks,[]⟩)=R∧y.2.2.2+μ=l.length∧y.1.length≤y.2.2.1∧¬ y.1=[]) ?_
     conv=>whnf
     refine⟨fun h1 hs=>⟨l.length,(L++[⟨kd,l.length,W⟩],_,_,0),⟨by dsimp only;rw [←hR'];simp,by simp,by simpa using hbc,by simp⟩,?_,hs.ren [3,6,26,9,10,11,63] (B4 rfl rfl (B4 rfl rfl (B4 rfl rfl (B4 rfl rfl (F9 rfl (SC.box (by simp [A0])) rfl (B4 rfl rfl (F9 rfl (SC.arr8 (by rw [←hW];simp [*])) rfl E8)))))))⟩,?_⟩
     ·refine And.intro ⟨_,rfl,by first|rfl|(simp [B0,A1,A0];done)⟩ ?_
      (repeat (refine And.intro ⟨_,rfl,rfl⟩ ?_));exact trivial
     rintro μ ⟨L1,b1,c2,i⟩ ⟨t1,t2,t3,t4⟩
     dsimp only at t1 t2 t3 t4 ⊢
     clear hW
     by_cases hi:i<l.length
     ·obtain⟨f,rfl⟩:∃ f,μ=f+1:=⟨μ-1,by omega⟩
      rw [R7 l i hi,List.map_append] at t1
      have hfl:(I5 (l.getD i I3)).length≤k:=by have h1:=aC l i;rw [R7 l i hi,List.length_append] at h1;omega
      have hzi:(L1++(I5 (l.getD i I3)).map (M0 ⟨s,Tks,[]⟩)).length≤1000000000:=by rw [←t1] at hzR;simp only [List.length_append,List.length_map] at hzR ⊢;omega
      have hpl:O1 A:=hA.sl.plain (by omega)
      ((repeat' (conv=>whnf);first|(refine Ar.fit (by omega) ?_)|(refine VC.mk (by omega) ?_)|(refine Br.mk ?_ ?_<;>intro hb<;>(try replace hb:=nN hb)<;>(try omega))|(refine C1.kid i hA hTs hi ?_;intro bq hT0)|(refine CK.tk (q:=⟨b3,b6,br,b9,b10,b11,s,At,nt,ct⟩) (x:=⟨L1,some (b1,c2)⟩) (r:=[]) (l:=(I5 (l.getD i I3)).map (M0 ⟨s,Tks,[]⟩)) ⟨rfl,rfl,rfl,rfl,rfl,rfl,rfl,rfl,rfl,rfl,rfl,rfl,rfl,rfl,trivial⟩ (fun h1 hs1 hs2 hsub=>qX k _ hfl lo ⟨b3,b6,br,b9,b10,b11,s,At,nt,ct⟩ Tks _ h1 _ hs2 ⟨fun e=>(by cases e),fun b c e=>(by cases e;exact t3)⟩ hzi ok (hTk.later (hs1.lB.less hsub)) (hwk i hi) (Q2.later (hs1.lB.less hsub) (Nat.le_refl _) _ hT0)) (fun x' e1 e2=>?_);obtain⟨L2,o2⟩:=x';obtain⟨e20,e21⟩:=e2;dsimp only at e1 e20 e21;rcases o2 with _|⟨b3',c3⟩;(exact absurd (e20 rfl) (by rw [e1];simp [t4])))|fail);all_goals try conv=>whnf)
      all_goals
       intro h2 hs
       refine⟨f,(L2,b3',c3,i+1),⟨by dsimp only;rw [e1,←t1,List.append_assoc],by dsimp only;omega,e21 _ _ rfl,by dsimp only;rw [e1];simp [t4]⟩,Nat.lt_succ_self f,?_,hs.ren [3,6,26,9,10,11,50] (B4 rfl rfl (B4 rfl rfl (B4 rfl rfl (B4 rfl rfl (B4 rfl rfl (B4 rfl rfl (B4 rfl rfl E8)))))))⟩
       refine And.intro ⟨_,rfl,by first|rfl|(simp [B0,A1,A0];done)⟩ ?_
       (repeat (refine And.intro ⟨_,rfl,rfl⟩ ?_));exact trivial
     ·((repeat' (conv=>whnf);first|(refine Br.mk ?_ ?_<;>intro hb<;>(try replace hb:=nN hb)<;>(try omega))|fail);all_goals try conv=>whnf)
      all_goals
       rw [List.drop_eq_nil_of_le (by omega),H8,List.map_nil,List.append_nil] at t1
       exact⟨fun h' hs=>⟨rfl,⟨R,some (b1,c2)⟩,hR.symm,⟨fun e=>(by cases e),fun b c e=>(by cases e;rw [←t1];exact t3)⟩,hs.ren [3,6,26,9,10,11,50] (B4 rfl rfl (B4 rfl rfl (B4 rfl rfl (B4 rfl rfl (F9 rfl (SC.box (by simp [A0,BR,t1])) rfl (B4 rfl rfl (F9 rfl (SC.arr8 t1) rfl E8)))))))⟩⟩
   ·clear hrg
    ((repeat' (conv=>whnf);first|(refine C2 (id:=6) (.pl [1,2,3,4,5,0] (.on [6] (.pl [7,8] .e))) (by kernel_rfl) ?_)|(refine C2 (id:=8) (.pl [1,2,3,5,6,7,10,8,9,4,11] (.bp 0 12 (.on [13,14] .e))) (by kernel_rfl) ?_)|(refine Ar.fit (by omega) ?_)|(refine VC.mk (by (first|omega|(and_intros<;>first|omega|rfl|(simp only [maxLen];omega)|(simp only [lL];omega)))) ?_)|(refine Br.mk ?_ ?_<;>intro hb<;>(try replace hb:=nN hb)<;>(try (first|omega|contradiction)))|(refine E5.mk ?_;intro b hb)|(refine X0.mk ?_;intro b c hb hbc)|(refine SR.same ?_)|(refine dD.mk ?_ ?_)|(refine A9.kind hT (show G8 false (O7 [.int .u8 kd]) _ from ?_))|(refine A9.word hT (show G8 false (O7 [.int .i64 wd]) _ from ?_))|(refine A9.kids hT ?_;intro A n1 c1 ps hA hTs hn1;dsimp only [Nd.kids] at hn1 hTs;subst hn1)|(refine A7 ?_ fun h1 hs=>qE (q:=⟨b3,b6,br,b9,b10,b11,s,At,nt,ct⟩) (T:=Tks) ok hs hTk rfl _)|fail);all_goals try conv=>whnf)
    all_goals
     refine gG tO [69] (fun y:List M8×Nat×Nat×Nat=>[(69,.val (.int .i64 y.2.2.2))]) (fun y=>⟨h,blks (yA ⟨b3,b6,br,b9,b10,b11,s,At,nt,ct⟩ ⟨L,some (b2,c2)⟩),[(3,b3,.box 9 [.val (.string s)]),(6,b6,.box 22 [.val (.slice At nt ct)]),(26,br,.box 80 [.val (.string s),.val (.slice At nt ct),.val (.slice none 0 0),.val (.int .i64 0),.val (.bool false)]),(9,b9,.box 78 [.own 26 br 0]),(10,b10,.box 46 [.osl 50 y.2.1 y.1.length y.2.2.1]),(11,b11,.box 66 [.val (.func (.func 30) #[] #[ptr b3,ptr b6,ptr b9,ptr b10,ptr b11])]),(50,y.2.1,.arr 51 P3 y.1 y.2.2.1)]⟩) (fun μ y=>y.1++(H8 (l.drop y.2.2.2)).map (M0 ⟨s,Tks,[]⟩)=R∧y.2.2.2+μ=l.length∧y.1.length≤y.2.2.1∧¬ y.1=[]) ?_
     conv=>whnf
     refine⟨fun h1 hs=>⟨l.length,(L++[⟨kd,l.length,W⟩],_,_,0),⟨by dsimp only;rw [←hR'];simp,by simp,by simpa using hbc,by simp⟩,?_,hs.ren [3,6,26,9,10,11,63] (B4 rfl rfl (B4 rfl rfl (B4 rfl rfl (B4 rfl rfl (F9 rfl (SC.box (by simp [A0])) rfl (B4 rfl rfl (F9 rfl (SC.arr8 (by rw [←hW];simp [*])) rfl E8)))))))⟩,?_⟩
     ·refine And.intro ⟨_,rfl,by first|rfl|(simp [B0,A1,A0];done)⟩ ?_
      (repeat (refine And.intro ⟨_,rfl,rfl⟩ ?_));exact trivial
     rintro μ ⟨L1,b1,c2,i⟩ ⟨t1,t2,t3,t4⟩
     dsimp only at t1 t2 t3 t4 ⊢
     clear hW
     by_cases hi:i<l.length
     ·obtain⟨f,rfl⟩:∃ f,μ=f+1:=⟨μ-1,by omega⟩
      rw [R7 l i hi,List.map_append] at t1
      have hfl:(I5 (l.getD i I3)).length≤k:=by have h1:=aC l i;rw [R7 l i hi,List.length_append] at h1;omega
      have hzi:(L1++(I5 (l.getD i I3)).map (M0 ⟨s,Tks,[]⟩)).length≤1000000000:=by rw [←t1] at hzR;simp only [List.length_append,List.length_map] at hzR ⊢;omega
      have hpl:O1 A:=hA.sl.plain (by omega)
      ((repeat' (conv=>whnf);first|(refine Ar.fit (by omega) ?_)|(refine VC.mk (by omega) ?_)|(refine Br.mk ?_ ?_<;>intro hb<;>(try replace hb:=nN hb)<;>(try omega))|(refine C1.kid i hA hTs hi ?_;intro bq hT0)|(refine CK.tk (q:=⟨b3,b6,br,b9,b10,b11,s,At,nt,ct⟩) (x:=⟨L1,some (b1,c2)⟩) (r:=[]) (l:=(I5 (l.getD i I3)).map (M0 ⟨s,Tks,[]⟩)) ⟨rfl,rfl,rfl,rfl,rfl,rfl,rfl,rfl,rfl,rfl,rfl,rfl,rfl,rfl,trivial⟩ (fun h1 hs1 hs2 hsub=>qX k _ hfl lo ⟨b3,b6,br,b9,b10,b11,s,At,nt,ct⟩ Tks _ h1 _ hs2 ⟨fun e=>(by cases e),fun b c e=>(by cases e;exact t3)⟩ hzi ok (hTk.later (hs1.lB.less hsub)) (hwk i hi) (Q2.later (hs1.lB.less hsub) (Nat.le_refl _) _ hT0)) (fun x' e1 e2=>?_);obtain⟨L2,o2⟩:=x';obtain⟨e20,e21⟩:=e2;dsimp only at e1 e20 e21;rcases o2 with _|⟨b3',c3⟩;(exact absurd (e20 rfl) (by rw [e1];simp [t4])))|fail);all_goals try conv=>whnf)
      all_goals
       intro h2 hs
       refine⟨f,(L2,b3',c3,i+1),⟨by dsimp only;rw [e1,←t1,List.append_assoc],by dsimp only;omega,e21 _ _ rfl,by dsimp only;rw [e1];simp [t4]⟩,Nat.lt_succ_self f,?_,hs.ren [3,6,26,9,10,11,50] (B4 rfl rfl (B4 rfl rfl (B4 rfl rfl (B4 rfl rfl (B4 rfl rfl (B4 rfl rfl (B4 rfl rfl E8)))))))⟩
       refine And.intro ⟨_,rfl,by first|rfl|(simp [B0,A1,A0];done)⟩ ?_
       (repeat (refine And.intro ⟨_,rfl,rfl⟩ ?_));exact trivial
     ·((repeat' (conv=>whnf);first|(refine Br.mk ?_ ?_<;>intro hb<;>(try replace hb:=nN hb)<;>(try omega))|fail);all_goals try conv=>whnf)
      all_goals
       rw [List.drop_eq_nil_of_le (by omega),H8,List.map_nil,List.append_nil] at t1
       exact⟨fun h' hs=>⟨rfl,⟨R,some (b1,c2)⟩,hR.symm,⟨fun e=>(by cases e),fun b c e=>(by cases e;rw [←t1];exact t3)⟩,hs.ren [3,6,26,9,10,11,50] (B4 rfl rfl (B4 rfl rfl (B4 rfl rfl (B4 rfl rfl (F9 rfl (SC.box (by simp [A0,BR,t1])) rfl (B4 rfl rfl (F9 rfl (SC.arr8 t1) rfl E8)))))))⟩⟩
end Go.Ex
namespace Go.Ex
open Go.Proofs
theorem lW{s:ByteArray}{goal:Int}{T:List M7}{x:Nd}(h:aK s goal = .inr (T,x)):(W5 s=0∧bH s=0)∧T=F0 s∧(1≤goal∧goal≤4)∧∃ m,aP (gX s) goal = .ok x m:=by
 unfold aK at h
 split at h
 ·cases h
 ·rename_i c1
  split at h
  ·cases h
  ·rename_i c
   split at h
   ·rename_i x' m' e
    cases h
    exact⟨nN c,rfl,by omega,m',e⟩
   ·cases h
theorem Fk{s:ByteArray}{goal:Int}{T:List M7}{x:Nd}(h:aK s goal = .inr (T,x)):BM ⟨s,T,[]⟩:=by
 obtain⟨h1,rfl,_⟩:=lW h
 have:=Pt s h1.1
 exact⟨this.len,this.size,this.rng⟩
def Oq(s:ByteArray)(goal:Int)(h:A3)(v:Value)(h':A3):Prop:=
 A5 h h'∧match aK s goal with
  |.inl ea=>v = .tuple #[.slice none 0 0,.agg #[.int .i64 ea.1,.int .i64 ea.2]]
  |.inr tx=>∃ B m d,v = .tuple #[.slice B m d,.agg #[.int .i64 0,.int .i64 0]]∧(D3 P3 h' [] B m ((I5 tx.2).map (M0 ⟨s,tx.1,[]⟩))∧∀ x,0<m→B=some x→h.size≤x.block)
attribute [local irreducible] CH aK M0
theorem lJ(s:ByteArray)(goal:Int)(h:A3)(ht:D2 h)(hz:s.size≤140737488355328)(hc:∀ T x,aK s goal = .inr (T,x)→(I5 x).length≤1000000000∧∀ y∈I5 x,-1≤y.word∧y.word<T.length):CH Tryz.prog 16 #[.int .u8 goal,.string s] h (Oq s goal h):=by
 refine Q0 1 [0,1,3,4,5,6,7,8,9,10,11,21] [8] [.val (.int .u8 goal),.val (.string s)] Tryz.func16 rfl ?_
 have c1:=fun h1 (ht:D2 h1)=>Qn s goal h1 ht hz
 unfold Lv at c1
 unfold Oq
 obtain⟨O,hO⟩:∃ O,aK s goal=O:=⟨_,rfl⟩
 rw [hO] at c1 ⊢
 rcases O with ⟨e,a⟩|⟨T,x⟩
 ·have hne:=yY hO
  dsimp only at hne c1 ⊢
  ((repeat' (conv=>whnf);first|(refine C2 (id:=3) (.pl [1,0] (.on [2] .e)) (by kernel_rfl) ?_)|(refine VC.mk (by omega) ?_)|(refine Br.mk ?_ ?_<;>intro hb<;>(try replace hb:=nN hb)<;>(try omega))|(refine E5.mk ?_;intro b hb)|(refine CK.anewQ (Q:=fun h u h'=>∃ A n c,u = .tuple #[.slice A n c,.pointer none,.agg #[.int .i64 e,.int .i64 a] ]∧CU s goal (e,a)) (fun h hs=>c1 h (ht.at hs)) ?_;rintro h1 u h2 hs1 hg ⟨A,n,c,rfl,hEa⟩;refine⟨.tup [.val (.slice A n c),.val (.pointer none),.agg [.val (.int .i64 e),.val (.int .i64 a)] ],rfl,?_⟩)|(refine kQ ?_)|fail);all_goals try conv=>whnf)
  all_goals exact⟨fun h' hs=>⟨(show G1 h [] h2 _ from (hs1.later hg).lB).bas.fin hs,rfl⟩⟩
 ·obtain⟨hcx,hwx⟩:=hc _ _ hO
  have hok:=Fk hO
  dsimp only at c1 ⊢
  ((repeat' (conv=>whnf);first|(refine C2 (id:=9) (.pl [0,2,1] (.on [3] .e)) (by kernel_rfl) ?_)|(refine VC.mk (by (first|omega|rfl)) ?_)|(refine Br.mk ?_ ?_<;>intro hb<;>(try replace hb:=nN hb)<;>(try omega))|(refine E5.mk ?_;intro b hb)|(refine CK.anewQ (Q:=fun h u h'=>∃ A n c p,u = .tuple #[.slice A n c,.pointer p,.agg #[.int .i64 0,.int .i64 0] ]∧(D3 C4 h' [] A n T∧∀ x,0<n→A=some x→h.size≤x.block)∧Q2 h.size h' [] p x) (fun h hs=>(c1 h (ht.at hs)).mono fun u h' ⟨a1,A,n,c,p,a2⟩=>⟨a1,A,n,c,p,a2⟩) ?_;rintro h1 u h2 hs1 hg ⟨A,n,c,p,rfl,⟨hT,hf⟩,hTr⟩;refine⟨.tup [.val (.slice A n c),.val (.pointer p),.agg [.val (.int .i64 0),.val (.int .i64 0)] ],rfl,?_⟩)|(refine kQ ?_)|(refine Zw tO rfl rfl ?_;(conv=>whnf);refine⟨.val (.func (.func 30) #[] #[ptr _,ptr _,ptr _,ptr _,ptr _]),rfl,?_⟩)|(refine CK.tk (q:=⟨_,_,_,_,_,_,s,A,n,c⟩) (x:=⟨[],none⟩) (l:=(I5 x).map (M0 ⟨s,T,[]⟩)) (r:=[(8,_,_),(5,_,_)]) ⟨rfl,rfl,rfl,rfl,rfl,rfl,rfl,rfl,rfl,rfl,rfl,rfl,rfl,rfl,rfl,rfl,trivial⟩ (fun h3 hs2 hs3 hsub=>qX _ x (Nat.le_refl _) 0 _ T _ h3 _ hs3 ⟨fun _=>rfl,fun b c e=>(by cases e)⟩ (by simpa using hcx) hok ((hT.freshen hf hs1).later (hs2.lB.less hsub)) hwx (Q2.later (hs2.lB.less hsub) (Nat.le_refl _) _ (hTr.recap (fun c hm=>.inr (hs1.blks_of hm).1) (Nat.zero_le _)))) (fun x' e1 e2=>?_);obtain⟨L2,o2⟩:=x';obtain⟨e20,e21⟩:=e2;dsimp only at e1 e20 e21;rw [List.nil_append] at e1;rcases o2 with _|⟨b3,c3⟩;(exact absurd (e20 rfl) (by rw [e1];have:=tG x;intro e;rw [List.map_eq_nil_iff] at e;rw [e] at this;exact absurd this (Nat.lt_irrefl 0))))|fail);all_goals try conv=>whnf)
  all_goals
   subst e1
   have hl:G1 h [] h2 _:=(hs1.later hg).lB
   exact⟨fun h' hs=>⟨hl.bas.fin hs,some ⟨b3,0,none⟩,((I5 x).map (M0 ⟨s,T,[]⟩)).length,c3,rfl,⟨D3.ofC hs (k:=50) rfl rfl,fun a _ ha=>by cases ha;exact Zt hs (k:=50) rfl hl.size hl.bas.cp⟩⟩⟩
end Go.Ex
namespace Go.Ex
open Go.Proofs
mutual
theorem Vd:∀ x:Nd,((I5 x).length:Int)=L4 x
 |.mk k w f t l=>by
  have h:=xF l
  simp only [I5,L4,List.length_cons]
  omega
theorem xF:∀ l:List Nd,((H8 l).length:Int)=L6 l
 |[]=>by simp [H8,L6]
 |x::r=>by
  have h1:=Vd x
  have h2:=xF r
  simp only [H8,L6,List.length_append]
  omega
end
theorem wK(s:ByteArray):((F0 s).length:Int)≤65537:=by
 have h:=(iY s).2.1
 unfold F0 W4
 split
 ·split
  ·exact h
  ·simp
 ·simp
structure Il(I:In)(x:Nd):Prop where
 wel:S3 I x
 frm:x.frm=0
 to:pc I x.to=pc I I.L
 rest:∀ i,x.to≤i→i<I.L→word I i=(⟨#[59]⟩:ByteArray)
 cnt:L4 x≤2000*I.L+200
theorem Yf{I:In}{goal:Int}{x:Nd}{m:Int}(hg:1≤goal∧goal≤4)(h:aP I goal = .ok x m):Il I x:=by
 have hL:0≤I.L:=by unfold In.L;omega
 have key:A8 (aP I goal) fun x m=>Il I x:=by
  unfold aP
  have H:=Fl I (fT I)
  have h3:goal=1∨goal=2∨goal=3∨goal=4:=by omega
  have fin:∀ (x:Nd) (m:Int),S3 I x→x.frm=0→x.to≤m→pc I x.to=pc I m→(∀ i,x.to≤i→i<m→word I i=(⟨#[59]⟩:ByteArray))→L4 x≤2000*m+200→m≤I.L→A8 (if endS I goal m=I.L then .ok x (endS I goal m) else .err (endS I goal m):G3 Nd) fun x m=>Il I x:=by
   intro x m w f t p r c l
   refine A8.ite (fun h=>A8.ok ?_) fun h=>A8.err
   unfold endS at h
   split at h
   ·rename_i c2
    unfold maybe at h
    split at h
    ·rename_i c3
     have q:=wq I c3 (by decide)
     refine⟨w,f,?_,?_,by omega⟩
     ·rw [←h,q.2.2];exact p
     ·intro i h1 h2
      by_cases h4:i<m
      ·exact r i h1 h4
      ·rw [show i=m by omega];exact c3
    ·omega
   ·exact⟨w,f,by rw [←h];exact p,fun i h1 h2=>r i h1 (by omega),by omega⟩
  rcases h3 with rfl|rfl|rfl|rfl
  ·refine A8.bnd (H.ex .typ false 0 rfl ⟨by omega,hL⟩ trivial) ?_
   rintro x m ⟨w1,⟨f1,f2⟩,⟨t1,t2⟩,p1,l1,c1⟩;(try simp only [cF,A6] at c1);have r1:=w1.rng
   exact fin x m w1 f1 (by omega) t2 (fun i h1 h2=>by omega) (by omega) l1
  ·refine A8.bnd (H.ex .expr false 0 rfl ⟨by omega,hL⟩ trivial) ?_
   rintro x m ⟨w1,⟨f1,f2⟩,⟨t1,t2⟩,p1,l1,c1⟩;(try simp only [cF,A6] at c1);have r1:=w1.rng
   exact fin x m w1 f1 (by omega) t2 (fun i h1 h2=>by omega) (by omega) l1
  ·refine A8.bnd (H.ss false 0 ⟨by omega,hL⟩) ?_
   rintro x m ⟨w1,⟨f1,f2⟩,e1,⟨t1,t2⟩,p1,l1,c1,s1⟩;(try simp only [cF,A6] at c1);have r1:=w1.rng
   exact fin x m w1 f1 (by omega) t2 s1 (by omega) l1
  ·refine A8.bnd (H.ex .file false 0 rfl ⟨by omega,hL⟩ trivial) ?_
   rintro x m ⟨w1,⟨f1,f2⟩,⟨t1,t2⟩,p1,l1,c1⟩;(try simp only [cF,A6] at c1);have r1:=w1.rng
   exact fin x m w1 f1 (by omega) t2 (fun i h1 h2=>by omega) (by omega) l1
 exact key x m h
theorem nQ{s:ByteArray}{goal:Int}{T:List M7}{x:Nd}(h:aK s goal = .inr (T,x)):Il (gX s) x:=by
 obtain⟨_,_,hg,m,e⟩:=lW h
 exact Yf hg e
theorem Ns{s:ByteArray}{goal:Int}{T:List M7}{x:Nd}(h:aK s goal = .inr (T,x)):(I5 x).length≤1000000000:=by
 have h1:=(nQ h).cnt
 have h2:=Vd x
 have h3:(gX s).L≤65537:=wK s
 omega
end Go.Ex
