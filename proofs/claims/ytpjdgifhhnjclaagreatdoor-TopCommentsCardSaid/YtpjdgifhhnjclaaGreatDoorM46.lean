/-
  Top: TopComments: whatever the input, the law answers true (part 46)
-/
import Derived.Test.YtpjdgifhhnjclaaGreatDoorM45
set_option linter.unusedVariables false
set_option linter.unusedSimpArgs false
set_option maxHeartbeats 4000000
set_option maxRecDepth 10000
namespace Go.Ex
open Go.Proofs
attribute [local irreducible] CH aK F0 bV W5 bH V5 P2
def AH(b:UInt8):Bool:=(32≤b.toNat∧b.toNat<127∧b≠42:Bool)
def Ts(s:ByteArray)(i:Nat):List UInt8:=(s.data.toList.take i).filter AH
theorem Yz(s:ByteArray)(i:Nat):uG (Ts s i):=by
 intro x hx
 have:=(List.mem_filter.1 hx).2
 simpa [AH] using this
theorem Ik(s:ByteArray)(i:Nat):(Ts s i).length≤s.size:=by
 have:=List.length_filter_le AH (s.data.toList.take i)
 unfold Ts
 rw [List.length_take,←Lib.size_eq] at this
 omega
theorem iM(a b:ByteArray):(a++b).data.toList=a.data.toList++b.data.toList:=by
 simp
theorem AA(s:ByteArray)(i:Nat)(h:(i:Int)<s.size)(k:32≤A4 s i∧A4 s i<127∧¬ A4 s i=42):Ts s (i+1)=Ts s i++(sub s i ((i:Int)+1)).data.toList:=by
 obtain⟨c,e1,e2⟩:=fG s i ⟨by omega,h⟩
 rw [Int.toNat_natCast] at e1
 have hlx:Lx s i ([c]++s.data.toList.drop (i+1)):=by
  refine⟨by omega,?_,by omega⟩
  rw [Int.toNat_natCast]
  obtain⟨hi,e3⟩:=List.getElem?_eq_some_iff.1 e1
  rw [List.drop_eq_getElem_cons hi,e3]
  rfl
 have hp:=hlx.part
 have e4:(sub s i ((i:Int)+1)).data.toList=[c]:=by
  rw [show ((i:Int)+1)=(i:Int)+([c].length:Int) from rfl,hp]
 have e5:AH c=true:=by
  have:¬ c=42:=fun q=>k.2.2 (by rw [e2,q];rfl)
  simp [AH,this]
  omega
 rw [e4]
 unfold Ts
 rw [List.take_add_one,e1,List.filter_append]
 simp [e5]
theorem Zz(s:ByteArray)(i:Nat)(h:(i:Int)<s.size)(k:¬ (32≤A4 s i∧A4 s i<127∧¬ A4 s i=42)):Ts s (i+1)=Ts s i:=by
 obtain⟨c,e1,e2⟩:=fG s i ⟨by omega,h⟩
 rw [Int.toNat_natCast] at e1
 have e5:AH c=false:=by
  rw [Bool.eq_false_iff]
  intro q
  apply k
  have q2:32≤c.toNat∧c.toNat<127∧¬ c=42:=by simpa [AH] using q
  refine⟨by omega,by omega,fun q3=>q2.2.2 ?_⟩
  rw [e2] at q3
  have:c.toNat=42:=by omega
  exact UInt8.toNat_inj.1 this
 unfold Ts
 rw [List.take_add_one,e1,List.filter_append]
 simp [e5]
theorem Jx{s C t:ByteArray}{cc e:List UInt8}{T:List M7}{i:Nat}(hC:C.data.toList=cc)(hi:i<T.length):(t++(N5 s (B1 C4.dflt T (i:Int))++C)).data.toList++tB s cc e (T.drop (i+1))=t.data.toList++tB s cc e (T.drop i):=by
 have e1:B1 C4.dflt T (i:Int)=T[i]:=by
  unfold B1
  simp [hi]
 rw [List.drop_eq_getElem_cons hi,e1,iM,iM,hC]
 show _=t.data.toList++((N5 s T[i]).data.toList++(cc++tB s cc e (T.drop (i+1))))
 simp only [List.append_assoc]
theorem Jr{s:ByteArray}(t:M7)(h:0≤t.frm∧t.frm≤t.to∧t.to≤s.size):(N5 s t).size≤s.size+1:=by
 unfold N5
 split
 ·have:(⟨#[59]⟩:ByteArray).size=1:=rfl
  omega
 ·have:=J1 s t.frm t.to h
  omega
theorem pQ(n:Int)(s note:ByteArray)(h:A3)(hn0:0≤n∧n<256)(ht:D2 h)(hz:s.size≤140737488355328)(hz2:note.size≤140737488355328) :
 CH Tryz.prog 7 #[.int .u8 n,.string s,.string note] h fun v h'=>v = .bool true∧A5 h h':=by
 refine Q0 3 [0,1,2,6,7,8,9,10,11,12,13,14,15,16,17,18,19,20,45,50,68,82] [] [.val (.int .u8 n),.val (.string s),.val (.string note)] Tryz.func7 rfl ?_
 have cg:=fun h1=>Dp n h1 hn0
 obtain⟨goal,hgo⟩:∃ goal,1+n % 4=goal:=⟨_,rfl⟩
 rw [hgo] at cg
 have cp:=fun h1 (ht:D2 h1)=>lJ s goal h1 ht hz (fun T x h=>⟨(bF h).nn,(bF h).wrd⟩)
 unfold Oq at cp
 have ca:=fun h1 (ht:D2 h1)=>Wb s h1 ht hz
 have cs:=fun h1 (ht:D2 h1)=>vT s goal h1 ht hz
 unfold CZ at cs
 obtain⟨O,hO⟩:∃ O,aK s goal=O:=⟨_,rfl⟩
 rw [hO] at cp cs
 rcases O with ⟨e,a⟩|⟨T,x⟩
 ·have hne:=yY hO
  dsimp only at cp
  generalize P2 s=R at *
  obtain⟨TL,e0,a0⟩:=R
  ((repeat' (conv=>whnf);first|(refine VC.mk (by omega) ?_)|(refine Br.mk ?_ ?_<;>intro hb<;>(try replace hb:=nN hb))|(refine E5.mk ?_;intro b hb)|(refine A7 ?_ fun h1 hs=>cg h1)|(refine CK.anewQ (f:=16) (Q:=fun h u h'=>u = .tuple #[.slice none 0 0,.agg #[.int .i64 e,.int .i64 a] ]) (fun h hs=>cp h (ht.at hs)) ?_;rintro h1 u h2 hs1 hg1 rfl;refine⟨.tup [.val (.slice none 0 0),.agg [.val (.int .i64 e),.val (.int .i64 a)] ],rfl,?_⟩;have hl1:G1 h [] h2 _:=(hs1.later hg1).lB)|(refine CK.slf (f:=17) (fun h hs=>ca h (ht.later (hl1.trans hs.lB))) ?_;intro h4 A2 n2 c2 hl3 hA2 hfr;have hl3':=hl1.trans hl3)|(refine A7 ?_ fun h1 hs=>eX _ _ h1)|(refine A7 ?_ fun h1 hs=>oL h1 (ht.later (hl3'.trans hs.lB)))|fail);all_goals try conv=>whnf)
  all_goals first
   |exact⟨fun h' hs=>⟨D0 rfl,hl3'.bas.fin hs⟩⟩
   |exact⟨fun h' hs=>⟨rfl,hl3'.bas.fin hs⟩⟩
   |(exfalso;simp only [decide_eq_true_eq] at *;omega)
   |(exfalso;apply hb;simp [hne];done)
 ·have hW:=bF hO
  dsimp only at cp cs
  rw [hW.sem] at ca
  have hnn:=hW.nn
  have htok:=hW.tok
  obtain⟨L,hL⟩:∃ L,(I5 x).map (M0 ⟨s,T,[]⟩)=L:=⟨_,rfl⟩
  have hLn:L.length=(I5 x).length:=by rw [←hL,List.length_map]
  rw [hL] at cp cs
  obtain⟨F,hF⟩:∃ F,kR L=F:=⟨_,rfl⟩
  rw [hF] at cs
  by_cases hsz:(1000:Int)<s.size∨(20:Int)<note.size
  ·((repeat' (conv=>whnf);first|(refine VC.mk (by omega) ?_)|(refine Br.mk ?_ ?_<;>intro hb<;>(try replace hb:=nN hb)<;>(try omega))|(refine E5.mk ?_;intro b hb)|(refine A7 ?_ fun h1 hs=>cg h1)|(refine CK.anewQ (f:=16) (Q:=fun h u h'=>∃ B m d,u = .tuple #[.slice B m d,.agg #[.int .i64 0,.int .i64 0] ]∧(D3 P3 h' [] B m L∧∀ x,0<m→B=some x→h.size≤x.block)) (fun h hs=>cp h (ht.at hs)) ?_;rintro h1 u h2 hs1 hg1 ⟨B,m,d,rfl,hP0,hPf⟩;refine⟨.tup [.val (.slice B m d),.agg [.val (.int .i64 0),.val (.int .i64 0)] ],rfl,?_⟩;have hl1:G1 h [] h2 _:=(hs1.later hg1).lB;have hP1:=hP0.freshen hPf hs1;have hPn:=hP0.sl.len_eq)|(refine CK.slf (f:=17) (fun h hs=>ca h (ht.later (hl1.trans hs.lB))) ?_;intro h4 A2 n2 c2 hl3 hA2 hfr;have hl3':=hl1.trans hl3)|(refine A7 ?_ fun h1 hs=>eX _ _ h1)|(refine A7 ?_ fun h1 hs=>oL h1 (ht.later (hl3'.trans hs.lB)))|fail);all_goals try conv=>whnf)
   all_goals first
    |exact⟨fun h' hs=>⟨D0 rfl,hl3'.bas.fin hs⟩⟩
    |exact⟨fun h' hs=>⟨rfl,hl3'.bas.fin hs⟩⟩
    |(exfalso;simp only [decide_eq_true_eq] at *;omega)
  ·have hs1000:s.size≤1000:=by omega
   have hs20:note.size≤20:=by omega
   clear hsz
   ((repeat' (conv=>whnf);first|(refine VC.mk (by omega) ?_)|(refine Br.mk ?_ ?_<;>intro hb<;>(try replace hb:=nN hb)<;>(try omega))|(refine E5.mk ?_;intro b hb)|(refine A7 ?_ fun h1 hs=>cg h1)|(refine CK.anewQ (f:=16) (Q:=fun h u h'=>∃ B m d,u = .tuple #[.slice B m d,.agg #[.int .i64 0,.int .i64 0] ]∧(D3 P3 h' [] B m L∧∀ x,0<m→B=some x→h.size≤x.block)) (fun h hs=>cp h (ht.at hs)) ?_;rintro h1 u h2 hs1 hg1 ⟨B,m,d,rfl,hP0,hPf⟩;refine⟨.tup [.val (.slice B m d),.agg [.val (.int .i64 0),.val (.int .i64 0)] ],rfl,?_⟩;have hl1:G1 h [] h2 _:=(hs1.later hg1).lB;have hP1:=hP0.freshen hPf hs1;have hPn:=hP0.sl.len_eq)|(refine CK.slf (f:=17) (fun h hs=>ca h (ht.later (hl1.trans hs.lB))) ?_;intro h4 A2 n2 c2 hl3 hA2 hfr;have hl3':=hl1.trans hl3)|(refine A7 ?_ fun h1 hs=>eX _ _ h1)|fail);all_goals try conv=>whnf)
   all_goals (try (exfalso;apply hb;simp;done))
   rename_i b8 hb8 hb10 hbd hbs
   have hPa:D3 P3 h4 [b8] B m L:=hP1.later hl3
   have hTa:D3 C4 h4 [b8] A2 n2 T:=hA2
   subst hPn
   clear hP1 hA2 hP0 hPf hfr cp ca hbd hbs hb hW
   have hTn:=hTa.sl.len_eq
   have hsm:=hTa.sl.small
   refine gG tO [11,12] (fun x:ByteArray×Nat=>[(11,.val (.string x.1)),(12,.val (.int .i64 x.2))]) (fun _=>⟨h4,[b8],[(10,b,.box 28 [.val (.int .i64 0),.val (.int .i64 0)]),(8,b8,.box 28 [.val (.int .i64 0),.val (.int .i64 0)])]⟩) (fun μ x=>x.2+μ=note.size∧x.1.data.toList=32::47::42::Ts note x.2) ?_
   conv=>whnf
   refine⟨fun h5 hs=>⟨note.size,(⟨#[32,47,42]⟩,0),⟨by dsimp only;omega,rfl⟩,?_,hs.ren [10,8] ⟨⟨_,rfl,by first|exact SC.rfl|exact SC.box rfl⟩,rfl,⟨_,rfl,by first|exact SC.rfl|exact SC.box rfl⟩,rfl,trivial⟩⟩,?_⟩
   ·(repeat (refine And.intro ⟨_,rfl,by first|rfl|(simp [B0,A1,A0];done)⟩ ?_));exact trivial
   rintro μ x hφ
   refine hφ.elim fun hi hc=>?_
   have hcz:x.1.size≤23:=by
    have q:=congrArg List.length hc
    have:=Ik note x.2
    rw [←Lib.size_eq] at q
    simp only [List.length_cons] at q
    omega
   have e3:(⟨#[42,47,32]⟩:ByteArray).size=3:=rfl
   by_cases hii:x.2<note.size
   ·((repeat' (conv=>whnf);first|(refine Ar.fit (by omega) ?_)|(refine VC.mk (by (first|omega|(and_intros<;>first|(simp only [ByteArray.size_extract,ByteArray.size_append];omega)))) ?_)|(refine Br.mk ?_ ?_<;>intro hb<;>(try replace hb:=nN hb)<;>(try omega))|fail);all_goals try conv=>whnf)
    all_goals first
     |omega
     | (intro h6 hs
        refine⟨μ-1,(x.1++sub note x.2 ((x.2:Int)+1),x.2+1),⟨by dsimp only;omega,by dsimp only;rw [AA note x.2 (by omega) (by omega),iM,hc];rfl⟩,by omega,?_,hs.ren [10,8] ⟨⟨_,rfl,by first|exact SC.rfl|exact SC.box rfl⟩,rfl,⟨_,rfl,by first|exact SC.rfl|exact SC.box rfl⟩,rfl,trivial⟩⟩
        (repeat (refine And.intro ⟨_,rfl,by first|rfl|(simp [B0,A1,A0];done)⟩ ?_));exact trivial)
     | (intro h6 hs
        refine⟨μ-1,(x.1,x.2+1),⟨by dsimp only;omega,by dsimp only;rw [Zz note x.2 (by omega) (by omega)];exact hc⟩,by omega,?_,hs.ren [10,8] ⟨⟨_,rfl,by first|exact SC.rfl|exact SC.box rfl⟩,rfl,⟨_,rfl,by first|exact SC.rfl|exact SC.box rfl⟩,rfl,trivial⟩⟩
        (repeat (refine And.intro ⟨_,rfl,by first|rfl|(simp [B0,A1,A0];done)⟩ ?_));exact trivial)
   ·((repeat' (conv=>whnf);first|(refine VC.mk (by omega) ?_)|(refine Br.mk ?_ ?_<;>intro hb<;>(try replace hb:=nN hb)<;>(try omega))|fail);all_goals try conv=>whnf)
    all_goals (try omega)
    generalize hC:x.1++(⟨#[42,47,32]⟩:ByteArray)=C
    obtain⟨nt,hnt⟩:∃ nt,Ts note x.2=nt:=⟨_,rfl⟩
    have hok:uG nt:=hnt▸Yz note x.2
    have hln:nt.length≤20:=by
     have:=Ik note x.2
     rw [hnt] at this
     omega
    have hCl:C.data.toList=eG nt:=by rw [←hC,iM,hc,hnt];unfold eG;simp
    have hCz:C.size≤26:=by
     rw [Lib.size_eq,hCl]
     unfold eG
     simp
     omega
    have hcom:=fun e he u hu=>Ay (u:=u) (note:=nt) (e:=e) hO hs1000 hok hln he hu
    have hbig:(eG nt++tB s (eG nt) oB T).length≤65536:=by
     have q:=(hcom oB (.inr rfl) ⟨(eG nt++tB s (eG nt) oB T).toArray⟩ (by simp)).1
     rw [Lib.size_eq] at q
     simpa using q
    clear hc hcz hφ hi hC hii
    refine gG tO [13,14] (fun x:ByteArray×Nat=>[(13,.val (.string x.1)),(14,.val (.int .i64 x.2))]) (fun _=>⟨h4,[b8],[(10,b,.box 28 [.val (.int .i64 0),.val (.int .i64 0)]),(8,b8,.box 28 [.val (.int .i64 0),.val (.int .i64 0)])]⟩) (fun μ x=>x.2+μ=T.length∧∀ e,x.1.data.toList++tB s (eG nt) e (T.drop x.2)=eG nt++tB s (eG nt) e T) ?_
    conv=>whnf
    refine⟨fun h5 hs=>⟨T.length,(C,0),⟨by dsimp only;omega,fun e=>by dsimp only;rw [hCl];rfl⟩,?_,hs.ren [10,8] ⟨⟨_,rfl,by first|exact SC.rfl|exact SC.box rfl⟩,rfl,⟨_,rfl,by first|exact SC.rfl|exact SC.box rfl⟩,rfl,trivial⟩⟩,?_⟩
    ·(repeat (refine And.intro ⟨_,rfl,by first|rfl|(simp [B0,A1,A0];done)⟩ ?_));exact trivial
    rintro μ2 y hφ
    refine hφ.elim fun hi hy=>?_
    have hyz:y.1.size≤65536:=by
     have q:=congrArg List.length (hy oB)
     rw [List.length_append,←Lib.size_eq] at q
     omega
    by_cases hii:y.2<T.length
    ·have hplT:O1 A2:=hTa.sl.plain (by omega)
     have htk:=htok _ (W8 C4.dflt T (y.2:Int) (by omega) (by omega))
     have htz:=Jr (B1 C4.dflt T (y.2:Int)) htk
     have hsc:(N5 s (B1 C4.dflt T (y.2:Int))++C).size≤1027:=by
      rw [ByteArray.size_append]
      omega
     ((repeat' (conv=>whnf);first|(refine Ar.fit (by omega) ?_)|(refine VC.mk (by omega) ?_)|(refine Br.mk ?_ ?_<;>intro hb<;>(try replace hb:=nN hb)<;>(try omega))|(refine C1.held hTa rfl (by omega) (by omega) rfl ?_)|(refine A7 ?_ fun h1 hs=>Km s _ h1 htk)|fail);all_goals try conv=>whnf)
     all_goals first
      |omega
      | (intro h6 hs
         refine⟨μ2-1,(y.1++(N5 s (B1 C4.dflt T (y.2:Int))++C),y.2+1),⟨by dsimp only;omega,fun e=>by dsimp only;rw [Jx hCl (by omega)];exact hy e⟩,by omega,?_,hs.ren [10,8] ⟨⟨_,rfl,by first|exact SC.rfl|exact SC.box rfl⟩,rfl,⟨_,rfl,by first|exact SC.rfl|exact SC.box rfl⟩,rfl,trivial⟩⟩
         (repeat (refine And.intro ⟨_,rfl,by first|rfl|(simp [B0,A1,A0];done)⟩ ?_));exact trivial)
    ·have hd:T.drop y.2=[]:=List.drop_eq_nil_of_le (by omega)
     have h1t:=(hcom [] (.inl rfl) y.1 (by have q:=hy [];rw [hd] at q;simpa [tB] using q)).2
     have h1e:=(hcom oB (.inr rfl) (y.1++⟨#[47,47,32,101,110,100]⟩) (by have q:=hy oB;rw [hd] at q;rw [iM];exact q)).2
     have hze:(y.1++(⟨#[47,47,32,101,110,100]⟩:ByteArray)).size≤140737488355328:=by
      rw [ByteArray.size_append]
      have:(⟨#[47,47,32,101,110,100]⟩:ByteArray).size=6:=rfl
      omega
     have e6:(⟨#[47,47,32,101,110,100]⟩:ByteArray).size=6:=rfl
     obtain⟨U,hU1,hU2⟩:=h1t
     obtain⟨V,hV1,hV2⟩:=h1e
     have c16:=fun h1 (ht:D2 h1)=>lJ (y.1++⟨#[47,47,32,101,110,100]⟩) goal h1 ht hze (fun T x h=>⟨(bF h).nn,(bF h).wrd⟩)
     unfold Oq at c16
     rw [hV1] at c16
     dsimp only at c16
     rw [hV2,hL] at c16
     have c20:=fun h1 (ht:D2 h1)=>vT y.1 goal h1 ht (by omega)
     unfold CZ at c20
     rw [hU1] at c20
     dsimp only at c20
     rw [hU2,hL,hF] at c20
     clear hcom hU1 hU2 hV1 hV2
     ((repeat' (conv=>whnf);first|(refine VC.mk (by omega) ?_)|(refine Br.mk ?_ ?_<;>intro hb<;>(try replace hb:=nN hb)<;>(try (first|omega|exact absurd rfl hb|contradiction)))|(refine E5.mk ?_;intro b hb)|(refine A7 ?_ fun h1 hs=>cg h1)|(refine CK.anewQ (f:=16) (Q:=fun h u h'=>∃ B m d,u = .tuple #[.slice B m d,.agg #[.int .i64 0,.int .i64 0] ]∧(D3 P3 h' [] B m L∧∀ x,0<m→B=some x→h.size≤x.block)) (fun h hs=>c16 h (ht.later (hl3'.trans hs.lB))) ?_;rintro h5 u g5 hs5 hg5 ⟨B5,m5,d5,rfl,hP5,hPf5⟩;refine⟨.tup [.val (.slice B5 m5 d5),.agg [.val (.int .i64 0),.val (.int .i64 0)] ],rfl,?_⟩;have hl5:=hl3'.trans ((hs5.later hg5).lB);obtain rfl:=hP5.sl.len_eq;have hP5':=hP5.freshen hPf5 hs5;have hPb:=hPa.later ((hs5.later hg5).lB))|(refine CK.anewQ (f:=20) (Q:=fun h u h'=>∃ B m d,u = .tuple #[.slice B m d,.agg #[.int .i64 0,.int .i64 0] ]∧(D3 pY h' [] B m F∧∀ x,0<m→B=some x→h.size≤x.block)) (fun h hs=>cs h (ht.later (hl5.trans hs.lB))) ?_;rintro h6 u g6 hs6 hg6 ⟨B6,m6,d6,rfl,hP6,hPf6⟩;refine⟨.tup [.val (.slice B6 m6 d6),.agg [.val (.int .i64 0),.val (.int .i64 0)] ],rfl,?_⟩;have hl6:=hl5.trans ((hs6.later hg6).lB);obtain rfl:=hP6.sl.len_eq;have hP6':=hP6.freshen hPf6 hs6;have hPc:=hPb.later ((hs6.later hg6).lB);have hP5c:=hP5'.later ((hs6.later hg6).lB))|(refine CK.anewQ (f:=20) (Q:=fun h u h'=>∃ B m d,u = .tuple #[.slice B m d,.agg #[.int .i64 0,.int .i64 0] ]∧(D3 pY h' [] B m F∧∀ x,0<m→B=some x→h.size≤x.block)) (fun h hs=>c20 h (ht.later (hl6.trans hs.lB))) ?_;rintro h7 u g7 hs7 hg7 ⟨B7,m7,d7,rfl,hP7,hPf7⟩;refine⟨.tup [.val (.slice B7 m7 d7),.agg [.val (.int .i64 0),.val (.int .i64 0)] ],rfl,?_⟩;have hl7:=hl6.trans ((hs7.later hg7).lB);obtain rfl:=hP7.sl.len_eq;have hP7':=hP7.freshen hPf7 hs7;have hPd:=hPc.later ((hs7.later hg7).lB);have hP5d:=hP5c.later ((hs7.later hg7).lB);have hP6d:=hP6'.later ((hs7.later hg7).lB))|(refine A7 ?_ fun h1 hs=>eX _ _ h1)|(refine A7 ?_ fun h1 hs=>Ym B B5 _ d d5 L h1 (hPd.at_ hs) (hP5d.at_ hs))|(refine A7 ?_ fun h1 hs=>Zm B6 B7 _ d6 d7 F h1 (hP6d.at_ hs) (hP7'.at_ hs))|(refine A7 ?_ fun h1 hs=>oL h1 (ht.later (hl7.trans hs.lB)))|fail);all_goals try conv=>whnf)
     all_goals first
      |omega
      |(exfalso;apply hb;simp;done)
      |exact⟨fun h' hs=>⟨D0 rfl,hl7.bas.fin hs⟩⟩
      |exact⟨fun h' hs=>⟨rfl,hl7.bas.fin hs⟩⟩
end Go.Ex
