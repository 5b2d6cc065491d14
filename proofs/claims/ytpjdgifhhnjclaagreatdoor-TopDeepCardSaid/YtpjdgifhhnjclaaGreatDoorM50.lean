/-
  Top: TopDeep: whatever the input, the law answers true (part 50)
-/
import Derived.Lib.RuneCountTail
import Derived.Test.YtpjdgifhhnjclaaGreatDoorM49
set_option linter.unusedVariables false
set_option linter.unusedSimpArgs false
set_option maxHeartbeats 4000000
set_option maxRecDepth 10000
namespace Go.Ex
open Go.Proofs
attribute [local irreducible] CH readF badF LetterF DigitP WordP
def namGo(s:ByteArray):Nat→Nat→Prop
 |0,_=>True
 |f+1,p=>p<s.size→(LetterF ((Utf8.decode s p).1:Int)=true∨¬ p=0∧DigitP ((Utf8.decode s p).1:Int))∧namGo s f (p+(Utf8.decode s p).2)
structure NameP(s:ByteArray):Prop where
 ne:¬ s=⟨#[]⟩
 word:¬ WordP s
 bad:badF s<0
 all:namGo s s.size 0
theorem cname_any(s:ByteArray)(h:Heap)(ht:TabsH h)(hs0:s.size≤140737488355328)(hN:NameP s):CH Tryz.prog 46 #[.string s] h fun v h'=>v = .bool true∧Grows h h':=by
 refine enter (rep:=rep) (m:=1) (ex:=[0,2,3,4,15,17,18,19,33]) (cu:=[]) tO Tryz.func46 rfl (by decide) (rs:=[.tmp 2]) rfl rfl [.val (.string s)] rfl ?_
 obtain⟨n1,n2,n3,n4⟩:=hN
 have cw:∀ h1,CH Tryz.prog 72 #[.string s] h1 fun v h'=>v = .bool false∧Grows h1 h':=fun h1=>(cword_any s h1).mono (fun v h' ⟨e1,e2⟩=>⟨e1.trans (prop_false n2),e2⟩)
 have cb:=fun h1 ht=>bad_any s h1 ht hs0
 ((repeat' ((conv=>whnf);(first|(refine Br.mk ?_ ?_<;>intro hb<;>(try (first|(exfalso;omega)|exact Bool.noConfusion hb|contradiction)))|(refine New.mk ?_;intro b hb)|(apply CK.pure;(case hh=>(intro h1 hs;exact cw h1)))|(apply CK.pure;(case hh=>(intro h1 hs;exact cb h1 (ht.at hs))))|fail)));all_goals (try (conv=>whnf)))
 all_goals (try (exact absurd ‹s = _› n1))
 all_goals (try (exfalso;omega))
 refine loop_rule tO [] (fun p:Nat=>[]) (fun p=>[(17,b,.iter s p)]) (fun μ p=>s.size≤p+μ∧namGo s μ p) s.size 0 ?_
 conv=>whnf
 refine⟨by ((repeat (refine⟨rfl,?_⟩));trivial),⟨rfl,rfl,trivial⟩,⟨by omega,n4⟩,?_⟩
 rintro μ p ⟨a0,a1⟩
 have hw:=width_pos s p
 dsimp only
 by_cases hp:p<s.size
 ·obtain⟨f,rfl⟩:∃ f,μ=f+1:=⟨μ-1,by omega⟩
  obtain⟨a2,a3⟩:=a1 hp
  obtain⟨lb,hl⟩:∃ lb,LetterF ((Utf8.decode s p).1:Int)=lb:=⟨_,rfl⟩
  rw [hl] at a2
  rcases lb with _|_
  ·have a4:¬ p=0∧DigitP ((Utf8.decode s p).1:Int):=by rcases a2 with a2|a2;cases a2;exact a2
   ((repeat' ((conv=>whnf);(first|(refine VC.mk (by omega) ?_)|(refine Br.mk ?_ ?_<;>intro hb<;>(try (first|(exfalso;omega)|exact absurd rfl hb|contradiction)))|(apply CK.pure;(case hh=>(intro h1 hs;exact letter_eq hl h1)))|(apply CK.pure;(case hh=>(intro h1 hs;exact (digit_any _ h1).mono (fun v h' ⟨e1,e2⟩=>⟨e1.trans (prop_true a4.2),e2⟩))))|fail)));all_goals (try (conv=>whnf)))
   all_goals first
    |(exfalso;omega)
    |exact⟨f,p+(Utf8.decode s p).2,⟨by omega,a3⟩,by omega,by ((repeat (refine⟨rfl,?_⟩));trivial),rfl,rfl,⟨rfl,rfl,trivial⟩⟩
  ·((repeat' ((conv=>whnf);(first|(refine VC.mk (by omega) ?_)|(refine Br.mk ?_ ?_<;>intro hb<;>(try (first|(exfalso;omega)|exact absurd rfl hb)))|(apply CK.pure;(case hh=>(intro h1 hs;exact letter_eq hl h1)))|fail)));all_goals (try (conv=>whnf)))
   all_goals first
    |(exfalso;omega)
    |exact⟨f,p+(Utf8.decode s p).2,⟨by omega,a3⟩,by omega,by ((repeat (refine⟨rfl,?_⟩));trivial),rfl,rfl,⟨rfl,rfl,trivial⟩⟩
 ·((repeat' ((conv=>whnf);(first|(refine VC.mk (by omega) ?_)|(refine Br.mk ?_ ?_<;>intro hb<;>(try (exfalso;omega)))|fail)));all_goals (try (conv=>whnf)))
  all_goals first
   |exact⟨fun h' hs=>⟨prop_true rfl,hs.grows⟩⟩
   |exact⟨fun h' hs=>⟨rfl,hs.grows⟩⟩
end Go.Ex
namespace Go.Ex
open Go.Proofs
theorem decodeN_local(n n' b0 b1 b2 b3 c1 c2 c3:Nat)(h:¬ ((Lib.decodeN n b0 b1 b2 b3).1=65533∧(Lib.decodeN n b0 b1 b2 b3).2<2))(hw:(Lib.decodeN n b0 b1 b2 b3).2≤n')(e1:1<(Lib.decodeN n b0 b1 b2 b3).2→c1=b1)(e2:2<(Lib.decodeN n b0 b1 b2 b3).2→c2=b2)(e3:3<(Lib.decodeN n b0 b1 b2 b3).2→c3=b3) :
 Lib.decodeN n' b0 c1 c2 c3=Lib.decodeN n b0 b1 b2 b3:=by
 have key:b0<128∨(b0 / 32=6∧(1<n∧b1 / 64=2)∧Lib.decodeN n b0 b1 b2 b3=(b0 % 32*64+b1 % 64,2)∧¬ b0<128∧b0 % 32*64+b1 % 64≥128) ∨
  (b0 / 16=14∧(1<n∧b1 / 64=2)∧(2<n∧b2 / 64=2)∧Lib.decodeN n b0 b1 b2 b3=(b0 % 16*4096+b1 % 64*64+b2 % 64,3)∧(b0 % 16*4096+b1 % 64*64+b2 % 64≥2048∧(b0 % 16*4096+b1 % 64*64+b2 % 64<55296∨(57344≤b0 % 16*4096+b1 % 64*64+b2 % 64∧b0 % 16*4096+b1 % 64*64+b2 % 64≤1114111)))) ∨
  (b0 / 8=30∧(1<n∧b1 / 64=2)∧(2<n∧b2 / 64=2)∧(3<n∧b3 / 64=2)∧Lib.decodeN n b0 b1 b2 b3=(b0 % 8*262144+b1 % 64*4096+b2 % 64*64+b3 % 64,4)∧(b0 % 8*262144+b1 % 64*4096+b2 % 64*64+b3 % 64≥65536∧(b0 % 8*262144+b1 % 64*4096+b2 % 64*64+b3 % 64<55296∨(57344≤b0 % 8*262144+b1 % 64*4096+b2 % 64*64+b3 % 64∧b0 % 8*262144+b1 % 64*4096+b2 % 64*64+b3 % 64≤1114111)))):=by
  unfold Lib.decodeN at h ⊢
  split at h
  ·exact .inl (by assumption)
  ·rename_i hb
   rw [if_neg hb]
   split at h
   ·rename_i c
    rw [if_pos c]
    split at h
    ·rename_i c2;rw [if_pos c2];exact .inr (.inl ⟨c.1,c.2,rfl,hb,c2⟩)
    ·exact absurd ⟨rfl,by show 1<2;decide⟩ h
   ·rename_i c
    rw [if_neg c]
    split at h
    ·rename_i d
     rw [if_pos d]
     split at h
     ·rename_i c2;rw [if_pos c2];exact .inr (.inr (.inl ⟨d.1,d.2.1,d.2.2,rfl,c2⟩))
     ·exact absurd ⟨rfl,by show 1<2;decide⟩ h
    ·rename_i d
     rw [if_neg d]
     split at h
     ·rename_i f
      rw [if_pos f]
      split at h
      ·rename_i c2;rw [if_pos c2];exact .inr (.inr (.inr ⟨f.1,f.2.1,f.2.2.1,f.2.2.2,rfl,c2⟩))
      ·exact absurd ⟨rfl,by show 1<2;decide⟩ h
     ·exact absurd ⟨rfl,by show 1<2;decide⟩ h
 rcases key with k|⟨k1,k2,k3,k4,t⟩|⟨k1,k2,k3,k4,t⟩|⟨k1,k2,k3,k4,k5,t⟩
 ·unfold Lib.decodeN
  rw [if_pos k,if_pos k]
 ·rw [k3] at hw e1 ⊢
  have:=e1 (by show 1<2;decide)
  subst this
  have hn:1<n':=by simp only at hw;omega
  unfold Lib.decodeN
  rw [if_neg k4,if_pos ⟨k1,hn,k2.2⟩,if_pos t]
 ·rw [k4] at hw e1 e2 ⊢
  have h1:=e1 (by show 1<3;decide)
  have h2:=e2 (by show 2<3;decide)
  subst h1 h2
  have hn:2<n':=by simp only at hw;omega
  have a1:¬ b0<128:=by omega
  have a2:∀ m,¬ (b0 / 32=6∧(1<m∧c1 / 64=2)):=fun m q=>by omega
  unfold Lib.decodeN
  rw [if_neg a1,if_neg (a2 n'),if_pos ⟨k1,⟨by omega,k2.2⟩,⟨hn,k3.2⟩⟩,if_pos t]
 ·rw [k5] at hw e1 e2 e3 ⊢
  have h1:=e1 (by show 1<4;decide)
  have h2:=e2 (by show 2<4;decide)
  have h3:=e3 (by show 3<4;decide)
  subst h1 h2 h3
  have hn:3<n':=by simp only at hw;omega
  have a1:¬ b0<128:=by omega
  have a2:∀ m,¬ (b0 / 32=6∧(1<m∧c1 / 64=2)):=fun m q=>by omega
  have a3:∀ m,¬ (b0 / 16=14∧(1<m∧c1 / 64=2)∧(2<m∧c2 / 64=2)):=fun m q=>by omega
  unfold Lib.decodeN
  rw [if_neg a1,if_neg (a2 n'),if_neg (a3 n'),if_pos ⟨k1,⟨by omega,k2.2⟩,⟨by omega,k3.2⟩,⟨hn,k4.2⟩⟩,if_pos t]
theorem get_sub(s:ByteArray)(a b:Nat)(i:Nat)(hb:b≤s.size)(hi:a+i<b):(s.extract a b).get! i=s.get! (a+i):=by
 have e:(s.extract a b).data=s.data.extract a b:=ByteArray.data_extract
 show ((s.extract a b).data[i]!)=s.data[a+i]!
 rw [e,getElem!_def,getElem!_def,Array.getElem?_extract]
 have hz:s.data.size=s.size:=rfl
 rw [if_pos (by omega)]
theorem decode_part(s:ByteArray)(a b p:Nat)(hb:b≤s.size)(h:¬ ((Utf8.decode s (a+p)).1=65533∧(Utf8.decode s (a+p)).2<2))(hw:a+p+(Utf8.decode s (a+p)).2≤b):Utf8.decode (s.extract a b) p=Utf8.decode s (a+p):=by
 have hpos:=width_pos s (a+p)
 have hz:(s.extract a b).size=b-a:=by rw [ByteArray.size_extract];omega
 rw [Lib.decode_at] at h hw hpos
 rw [Lib.decode_at,Lib.decode_at,hz]
 have g0:(s.extract a b).get! p=s.get! (a+p):=get_sub s a b p hb (by omega)
 rw [g0]
 refine decodeN_local _ _ _ _ _ _ _ _ _ h (by omega) (fun q=>?_) (fun q=>?_) (fun q=>?_)
 ·rw [get_sub s a b (p+1) hb (by omega),show a+(p+1)=a+p+1 by omega]
 ·rw [get_sub s a b (p+2) hb (by omega),show a+(p+2)=a+p+2 by omega]
 ·rw [get_sub s a b (p+3) hb (by omega),show a+(p+3)=a+p+3 by omega]
end Go.Ex
namespace Go.Ex
open Go.Proofs
theorem decodeN_le(n b0 b1 b2 b3:Nat)(hn:1≤n):(Lib.decodeN n b0 b1 b2 b3).2≤n:=by
 unfold Lib.decodeN
 repeat' split
 all_goals (dsimp only;omega)
theorem decode_in(s:ByteArray)(p:Nat)(hp:p<s.size):p+(Utf8.decode s p).2≤s.size:=by
 rw [Lib.decode_at]
 have:=decodeN_le (s.size-p) (s.get! p).toNat (s.get! (p+1)).toNat (s.get! (p+2)).toNat (s.get! (p+3)).toNat (by omega)
 omega
theorem letterR:¬ LetterF 65533=true:=by decide
theorem digitR:¬ DigitP 65533:=by decide
theorem name_go(s:ByteArray)(a:Nat)(ha:a<s.size)(hl:LetterF ((Utf8.decode s a).1:Int)=true)(g:Int)(G:Nat)(hG:(G:Int)=if 0≤g then g else (s.size:Int)-a)(hGl:a+G≤s.size) :
 ∀ (f p f':Nat),s.size-a≤p+f'→wordGo (s.extract a s.size) f' p=g→p≤G→namGo (s.extract a (a+G)) f p∧badGo (s.extract a (a+G)) f p = -1
 |0,p,f',h1,h2,h3=>⟨trivial,rfl⟩
 |f+1,p,f',h1,h2,h3=>by
  have hz:(s.extract a (a+G)).size=G:=by rw [ByteArray.size_extract];omega
  have hu:(s.extract a s.size).size=s.size-a:=by rw [ByteArray.size_extract];omega
  simp only [namGo,badGo,hz]
  by_cases hp:p<G
  ·match f',h1,h2 with
   |0,h1,h2=>omega
   |f'+1,h1,h2=>
    have hd:Utf8.decode (s.extract a s.size) p=Utf8.decode s (a+p):=Lib.tail_decode s a p
    simp only [wordGo,hu] at h2
    rw [if_pos (by omega),hd] at h2
    have hle:=decode_in s (a+p) (by omega)
    by_cases hc:LetterF ((Utf8.decode s (a+p)).1:Int)=false∧¬ DigitP ((Utf8.decode s (a+p)).1:Int)
    ·rw [if_pos hc] at h2
     rw [if_pos (by omega)] at hG
     omega
    ·rw [if_neg hc] at h2
     have hr:=wordGo_rng (s.extract a s.size) f' (p+(Utf8.decode s (a+p)).2)
     rw [h2,hu] at hr
     have hpw:p+(Utf8.decode s (a+p)).2≤G:=by
      split at hG<;>omega
     have hne:¬ (Utf8.decode s (a+p)).1=65533:=fun e=>by
      rw [e] at hc
      refine hc ⟨?_,digitR⟩
      have:=letterR
      revert this
      cases LetterF ((65533:Nat):Int)<;>simp
     have hv:Utf8.decode (s.extract a (a+G)) p=Utf8.decode s (a+p):=decode_part s a (a+G) p hGl (fun q=>hne q.1) (by omega)
     obtain⟨i1,i2⟩:=name_go s a ha hl g G hG hGl f (p+(Utf8.decode s (a+p)).2) f' (by have:=width_pos s (a+p);omega) h2 hpw
     rw [hv]
     refine⟨fun _=>⟨?_,i1⟩,?_⟩
     ·by_cases h0:p=0
      ·left
       rw [h0]
       exact hl
      ·by_cases hL:LetterF ((Utf8.decode s (a+p)).1:Int)=true
       ·exact .inl hL
       ·refine .inr ⟨h0,Classical.byContradiction fun hD=>hc ⟨?_,hD⟩⟩
        simpa using hL
     ·rw [if_pos hp,if_neg (fun q=>hne (by have:=q.1;omega))]
      exact i2
  ·refine⟨fun h=>absurd h hp,?_⟩
   rw [if_neg hp]
theorem name_word(s:ByteArray)(a:Int)(ha:0≤a∧a<s.size)(h0:¬ (readF s a).1=0)(hl:LetterF (readF s a).1=true)(hk:(wordF s a).1=1):NameP (sub s a (wordT s a)):=by
 obtain⟨h1,h2⟩:=wordT_pos s a ha h0 hl
 obtain⟨h3,h4⟩:=readF_dec s a h0
 rw [h4] at hl
 have hwt:wordT s a=a+((wordT s a-a).toNat:Int):=by omega
 obtain⟨g,hg⟩:∃ g,wordGo (sub s a s.size) (sub s a s.size).size 0=g:=⟨_,rfl⟩
 have hT:wordT s a=if 0≤g then a+g else s.size:=by unfold wordT;rw [hg]
 have hsz:(sub s a s.size)=s.extract a.toNat s.size:=by show s.extract a.toNat (s.size:Int).toNat = _;rw [Int.toNat_natCast]
 have hu:(s.extract a.toNat s.size).size=s.size-a.toNat:=by rw [ByteArray.size_extract];omega
 rw [hsz,hu] at hg
 have key:=name_go s a.toNat (by omega) hl g (wordT s a-a).toNat (by rw [hT];split<;>omega) (by omega) (wordT s a-a).toNat 0 (s.size-a.toNat) (by omega) hg (by omega)
 have e:sub s a (wordT s a)=s.extract a.toNat (a.toNat+(wordT s a-a).toNat):=by
  show s.extract a.toNat (wordT s a).toNat = _
  congr 1
  omega
 have hz:(s.extract a.toNat (a.toNat+(wordT s a-a).toNat)).size=(wordT s a-a).toNat:=by rw [ByteArray.size_extract];omega
 rw [e]
 refine⟨?_,?_,?_,?_⟩
 ·intro q
  rw [q] at hz
  have:(⟨#[]⟩:ByteArray).size=0:=rfl
  omega
 ·intro q
  rw [←e] at q
  unfold wordF at hk
  rw [if_pos q] at hk
  cases hk
 ·unfold badF
  rw [hz,key.2]
  decide
 ·rw [hz]
  exact key.1
end Go.Ex
namespace Go.Ex
open Go.Proofs
theorem sub_sz(s:ByteArray)(a b:Int)(h:0≤a∧a≤b∧b≤s.size):((sub s a b).size:Int)=b-a:=by
 show ((s.extract a.toNat b.toNat).size:Int) = _
 rw [ByteArray.size_extract]
 omega
theorem numS_part(s:ByteArray)(a b base:Int)(h:0≤a∧a≤b∧b≤s.size):∀ (c:Nat) (p n:Int),0≤p→(numS s base c (a+p) n).2.2=false→(numS s base c (a+p) n).2.1=a+p+c∧(a+p+c≤b→numS (sub s a b) base c p n=((numS s base c (a+p) n).1,p+c,false))
 |0,p,n,h0,h1=>⟨by simp [numS],fun _=>by simp [numS]⟩
 |c+1,p,n,h0,h1=>by
  have hz:=sub_sz s a b h
  simp only [numS] at h1 ⊢
  by_cases hc:a+p<s.size∧0≤baseF (byteI s (a+p))∧baseF (byteI s (a+p))<base
  ·rw [if_pos hc] at h1 ⊢
   rw [show a+p+1=a+(p+1) by omega] at h1 ⊢
   obtain⟨i1,i2⟩:=numS_part s a b base h c (p+1) (n*base+baseF (byteI s (a+p))) (by omega) h1
   refine⟨by rw [i1];omega,fun hb=>?_⟩
   have e:=byteI_sub s a b p h.1 h.2.1 h.2.2 h0 (by omega)
   rw [e,if_pos ⟨by omega,hc.2⟩,i2 (by omega)]
   congr 2
   omega
  ·rw [if_neg hc] at h1
   cases h1
theorem escS_part(s:ByteArray)(mk a b:Int)(h:0≤a∧a≤b∧b≤s.size)(p:Int)(h0:0≤p)(h1:(escS s mk (a+p)).2=false)(h2:(escS s mk (a+p)).1≤b) :
 escS (sub s a b) mk p=((escS s mk (a+p)).1-a,false):=by
 have hz:=sub_sz s a b h
 have n2:=numS_part s a b 16 h 2 (p+1) 0 (by omega)
 have n8:=numS_part s a b 16 h 8 (p+1) 0 (by omega)
 have n4:=numS_part s a b 16 h 4 (p+1) 0 (by omega)
 have n3:=numS_part s a b 8 h 3 p 0 (by omega)
 rw [show a+(p+1)=a+p+1 by omega] at n2 n8 n4
 have hb:=byteI_sub s a b p h.1 h.2.1 h.2.2 h0
 unfold escS at h1 h2 ⊢
 by_cases c1:(s.size:Int)≤a+p
 ·rw [if_pos c1] at h1;cases h1
 rw [if_neg c1] at h1 h2 ⊢
 by_cases c2:0≤idxB escT (byteI s (a+p))
 ·rw [if_pos c2] at h1 h2 ⊢
  rw [if_neg (by dsimp only at h2;omega),hb (by dsimp only at h2;omega),if_pos c2]
  congr 1
  dsimp only;omega
 rw [if_neg c2] at h1 h2 ⊢
 by_cases c3:byteI s (a+p)=mk
 ·rw [if_pos c3] at h1 h2 ⊢
  rw [if_neg (by dsimp only at h2;omega),hb (by dsimp only at h2;omega),if_neg c2,if_pos c3]
  congr 1
  dsimp only;omega
 rw [if_neg c3] at h1 h2 ⊢
 by_cases c4:byteI s (a+p)=120
 ·rw [if_pos c4] at h1 h2 ⊢
  dsimp only at h1 h2 ⊢
  obtain⟨q1,q2⟩:=Bool.or_eq_false_iff.1 h1
  obtain⟨e1,e2⟩:=n2 q1
  rw [e1] at h2
  rw [if_neg (by omega),hb (by omega),if_neg c2,if_neg c3,if_pos c4,e2 h2,e1]
  simp only [q2]
  congr 1
  omega
 rw [if_neg c4] at h1 h2 ⊢
 by_cases c5:byteI s (a+p)=85
 ·rw [if_pos c5] at h1 h2 ⊢
  dsimp only at h1 h2 ⊢
  obtain⟨q1,q2⟩:=Bool.or_eq_false_iff.1 h1
  obtain⟨e1,e2⟩:=n8 q1
  rw [e1] at h2
  rw [if_neg (by omega),hb (by omega),if_neg c2,if_neg c3,if_neg c4,if_pos c5,e2 h2,e1]
  simp only [q2]
  congr 1
  omega
 rw [if_neg c5] at h1 h2 ⊢
 by_cases c6:byteI s (a+p)=117
 ·rw [if_pos c6] at h1 h2 ⊢
  dsimp only at h1 h2 ⊢
  obtain⟨q1,q2⟩:=Bool.or_eq_false_iff.1 h1
  obtain⟨e1,e2⟩:=n4 q1
  rw [e1] at h2
  rw [if_neg (by omega),hb (by omega),if_neg c2,if_neg c3,if_neg c4,if_neg c5,if_pos c6,e2 h2,e1]
  simp only [q2]
  congr 1
  omega
 rw [if_neg c6] at h1 h2 ⊢
 dsimp only at h1 h2 ⊢
 obtain⟨q1,q2⟩:=Bool.or_eq_false_iff.1 h1
 obtain⟨q3,q4⟩:=Bool.or_eq_false_iff.1 q1
 obtain⟨e1,e2⟩:=n3 q3
 rw [e1] at h2
 rw [if_neg (by omega),hb (by omega),if_neg c2,if_neg c3,if_neg c4,if_neg c5,if_neg c6,e2 h2,e1]
 simp only [q2,q4]
 congr 1
 omega
theorem readF_part(s:ByteArray)(a b p:Int)(h:0≤a∧a≤b∧b≤s.size)(h0:0≤p)(h1:¬ (readF s (a+p)).2=0)(h2:a+p+(readF s (a+p)).2≤b):readF (sub s a b) p=readF s (a+p):=by
 have hz:=sub_sz s a b h
 unfold readF at h1 h2 ⊢
 by_cases c1:a+p<0∨(s.size:Int)≤a+p
 ·rw [if_pos c1] at h1;exact absurd rfl h1
 rw [if_neg c1] at h1 h2 ⊢
 by_cases c2:(Utf8.decode s (a+p).toNat).1=65533∧(Utf8.decode s (a+p).toNat).2<2
 ·rw [if_pos c2] at h1;exact absurd rfl h1
 rw [if_neg c2] at h1 h2 ⊢
 rw [show (a+p).toNat=a.toNat+p.toNat by omega] at *
 have hp:=width_pos s (a.toNat+p.toNat)
 have e:Utf8.decode (sub s a b) p.toNat=Utf8.decode s (a.toNat+p.toNat):=decode_part s a.toNat b.toNat p.toNat (by omega) c2 (by dsimp only at h2;omega)
 rw [if_neg (by dsimp only at h2;omega),e,if_neg c2]
theorem itemS_part(s:ByteArray)(mk a b:Int)(h:0≤a∧a≤b∧b≤s.size)(p:Int)(h0:0≤p)(hp:a+p<s.size)(h1:(itemS s mk (a+p)).2=false)(h2:(itemS s mk (a+p)).1≤b) :
 itemS (sub s a b) mk p=((itemS s mk (a+p)).1-a,false):=by
 have hr:=itemS_rng s mk (a+p) ⟨by omega,hp⟩
 have hg:=hr.2 h1
 have hb:=byteI_sub s a b p h.1 h.2.1 h.2.2 h0 (by omega)
 unfold itemS at h1 h2 ⊢
 rw [hb]
 by_cases c1:byteI s (a+p)=92
 ·rw [if_pos c1] at h1 h2 ⊢
  rw [if_pos c1]
  rw [show a+p+1=a+(p+1) by omega] at h1 h2 ⊢
  exact escS_part s mk a b h (p+1) (by omega) h1 h2
 ·rw [if_neg c1] at h1 h2 ⊢
  rw [if_neg c1]
  unfold plainS at h1 h2 ⊢
  dsimp only at h1 h2 ⊢
  have hw:plainW (sub s a b) mk p=plainW s mk (a+p):=by
   simp only [decide_eq_false_iff_not,not_or] at h1
   unfold plainW at h1 h2 ⊢
   by_cases c2:mk=39
   ·rw [if_pos c2] at h1 h2 ⊢
    rw [if_pos c2,readF_part s a b p h h0 h1.1 h2]
   ·rw [if_neg c2,if_neg c2]
  rw [hw,hb,h1]
  congr 1
  omega
theorem readGo_part(s:ByteArray)(mk a b:Int)(h:0≤a∧a≤b∧b≤s.size):∀ (f:Nat) (it p:Int) (f':Nat),0≤p→b-a<p+f'→readGo s mk f it (a+p)=some b→readGo (sub s a b) mk f' it p=some (b-a)
 |0,it,p,f',h0,hf,h1=>by cases h1
 |f+1,it,p,f',h0,hf,h1=>by
  have hz:=sub_sz s a b h
  simp only [readGo] at h1
  by_cases c1:(s.size:Int)≤a+p
  ·rw [if_pos c1] at h1;cases h1
  rw [if_neg c1] at h1
  by_cases c2:byteI s (a+p)=mk
  ·rw [if_pos c2] at h1
   by_cases c3:mk=34∨it=1
   ·rw [if_pos c3] at h1
    injection h1 with h1
    match f',hf with
    |0,hf=>omega
    |f'+1,hf=>
     simp only [readGo]
     rw [if_neg (by omega),byteI_sub s a b p h.1 h.2.1 h.2.2 h0 (by omega),if_pos c2,if_pos c3]
     congr 1
     omega
   ·rw [if_neg c3] at h1;cases h1
  rw [if_neg c2] at h1
  by_cases c3:mk=39∧it=1
  ·rw [if_pos c3] at h1;cases h1
  rw [if_neg c3] at h1
  by_cases c4:(itemS s mk (a+p)).2=true
  ·rw [if_pos c4] at h1;cases h1
  rw [if_neg c4] at h1
  have c4:(itemS s mk (a+p)).2=false:=by simpa using c4
  obtain⟨g1,g2⟩:=itemS_rng s mk (a+p) ⟨by omega,by omega⟩
  have g2:=g2 c4
  have hle : (itemS s mk (a+p)).1≤b:=by
   have key:∀ (f:Nat) (it q:Int),readGo s mk f it q=some b→0≤q→q≤b:=by
    intro f
    induction f with
    |zero=>intro it q e _;cases e
    |succ f ih=>
     intro it q e hq
     simp only [readGo] at e
     split at e
     ·cases e
     ·rename_i d1
      split at e
      ·split at e
       ·injection e with e;omega
       ·cases e
      ·split at e
       ·cases e
       ·split at e
        ·cases e
        ·have:=(itemS_rng s mk q ⟨hq,by omega⟩).1
         have:=ih _ _ e (by omega)
         omega
   exact key f (it+1) _ h1 (by omega)
  have hi:=itemS_part s mk a b h p h0 (by omega) c4 hle
  match f',hf with
  |0,hf=>omega
  |f'+1,hf=>
   simp only [readGo]
   rw [if_neg (by omega),byteI_sub s a b p h.1 h.2.1 h.2.2 h0 (by omega),if_neg c2,if_neg c3,hi,if_neg (fun q=>by cases q)]
   have e:a+((itemS s mk (a+p)).1-a)=(itemS s mk (a+p)).1:=by omega
   exact readGo_part s mk a b h f (it+1) ((itemS s mk (a+p)).1-a) f' (by omega) (by omega) (by rw [e];exact h1)
end Go.Ex
namespace Go.Ex
open Go.Proofs
theorem ibyte_take(c:UInt8):∀ (l:List UInt8) (n:Nat),0≤Go.Lib.indexByte l c→Go.Lib.indexByte l c<n→Go.Lib.indexByte (l.take n) c=Go.Lib.indexByte l c
 |[],n,h0,h1=>by rw [List.take_nil]
 |b::l,0,h0,h1=>by omega
 |b::l,n+1,h0,h1=>by
  rw [List.take_succ_cons]
  unfold Go.Lib.indexByte at h0 h1 ⊢
  split
  ·rfl
  ·rename_i hb
   rw [if_neg hb] at h0 h1
   have hge:=Go.Lib.indexByte_ge l c
   by_cases hn:(Go.Lib.indexByte l c == -1)=true
   ·rw [if_pos hn] at h0;omega
   ·rw [if_neg hn] at h0 h1 ⊢
    rw [beq_iff_eq] at hn
    have:=ibyte_take c l n (by omega) (by omega)
    rw [this]
    rw [if_neg (by rw [beq_iff_eq];exact hn)]
theorem idxB_part(s:ByteArray)(a b c:Int)(h:0≤a∧a≤b∧b≤s.size)(h0:0≤idxB (sub s a s.size) c)(h1:idxB (sub s a s.size) c<b-a):idxB (sub s a b) c=idxB (sub s a s.size) c:=by
 have e:(sub s a b).data.toList=(sub s a s.size).data.toList.take (b.toNat-a.toNat):=by
  show (s.extract a.toNat b.toNat).data.toList=(s.extract a.toNat (s.size:Int).toNat).data.toList.take _
  rw [ByteArray.data_extract,ByteArray.data_extract,Array.toList_extract,Array.toList_extract]
  simp only [List.extract,List.take_take]
  congr 1
  omega
 unfold idxB at h0 h1 ⊢
 rw [e]
 exact ibyte_take _ _ _ h0 (by omega)
theorem sub_sub(s:ByteArray)(a b c:Int)(h:0≤a∧a≤b∧b≤s.size)(h0:0≤c∧c≤b-a):sub (sub s a b) c (b-a)=sub s (a+c) b:=by
 show (s.extract a.toNat b.toNat).extract c.toNat (b-a).toNat=s.extract (a+c).toNat b.toNat
 rw [ByteArray.extract_extract]
 congr 1
 ·omega
 ·omega
theorem val_scan(s:ByteArray)(a:Int)(ha:0≤a∧a<s.size)(h:(begF s a).2.2=0)(he:a<(begF s a).2.1∧(begF s a).2.1≤s.size):ValP (sub s a (begF s a).2.1):=by
 obtain⟨e,hE⟩:∃ e,(begF s a).2.1=e:=⟨_,rfl⟩
 rw [hE] at he ⊢
 have hr:0≤a∧a≤e∧e≤s.size:=by omega
 have hz:=sub_sz s a e hr
 have hb:=byteI_sub s a e 0 hr.1 hr.2.1 hr.2.2 (Int.le_refl _) (by omega)
 rw [Int.add_zero] at hb
 have key:(begF (sub s a e) 0).2.2=0∧(begF (sub s a e) 0).2.1=e-a:=by
  unfold begF at h hE ⊢
  rw [hb]
  by_cases c1:a<0∨(s.size:Int)≤a∨idxB marksT (byteI s a)<0
  ·rw [if_pos c1] at h;cases h
  rw [if_neg c1] at h hE
  rw [if_neg (by omega)]
  by_cases c2:byteI s a=96
  ·rw [if_pos c2] at h hE ⊢
   by_cases c3:idxB (sub s (a+1) s.size) 96<0
   ·rw [if_pos c3] at h;cases h
   rw [if_neg c3] at h hE
   dsimp only at hE
   have e1:sub (sub s a e) (0+1) (sub s a e).size=sub s (a+1) e:=by
    rw [hz]
    exact sub_sub s a e (0+1) hr (by omega)
   have e2:=idxB_part s (a+1) e 96 (by omega) (by omega) (by omega)
   rw [e1,e2,if_neg c3]
   exact⟨rfl,by dsimp only;omega⟩
  ·rw [if_neg c2] at h hE ⊢
   cases hS:readS s a with
   |none=>rw [hS] at h;cases h
   |some q=>
    rw [hS] at h hE
    have hq:q=e:=by
     revert hE
     dsimp only
     split<;>exact fun x=>x
    subst hq
    have hG:readS (sub s a q) 0=some (q-a):=by
     unfold readS at hS ⊢
     rw [hb]
     exact readGo_part s (byteI s a) a q hr _ 0 (0+1) _ (by omega) (by omega) hS
    rw [hG]
    dsimp only
    split<;>exact⟨rfl,rfl⟩
 exact⟨key.1,by rw [key.2,hz]⟩
end Go.Ex
namespace Go.Ex
open Go.Proofs
attribute [local irreducible] CH kindF
def LitP(w:ByteArray):Prop:=ValP w∨¬ kindF w=0
def SpP(k:Int)(w:ByteArray):Prop:=
 if k=26 then NameP w else if k=27 then LitP w else if k=5 then w=⟨#[]⟩∨w=(⟨#[46]⟩:ByteArray) else if k=7 then w=⟨#[]⟩∨w=(⟨#[61]⟩:ByteArray) else
 if k=15∨k=34 then w=⟨#[]⟩∨w=(⟨#[46,46,46]⟩:ByteArray) else if k=66 then w=⟨#[]⟩∨w=(⟨#[61]⟩:ByteArray)∨w=(⟨#[58,61]⟩:ByteArray) else
 if wordsT k=⟨#[]⟩ then w=⟨#[]⟩ else ¬ w=⟨#[]⟩∧Lib.contains w.data.toList [32]=false∧Lib.contains (wordsT k).data.toList ((⟨#[32]⟩:ByteArray)++w++(⟨#[32]⟩:ByteArray)).data.toList=true
theorem app_blank(w:ByteArray):((⟨#[32]⟩:ByteArray)++w++(⟨#[32]⟩:ByteArray)).size=w.size+2:=by simp only [ByteArray.size_append];show 1+w.size+1 = _;omega
theorem spelt_any(k:Int)(w:ByteArray)(h:Heap)(ht:TabsH h)(hk:0≤k∧k<256)(hz:w.size≤1000000)(hS:SpP k w):CH Tryz.prog 38 #[.int .u8 k,.string w] h fun v h'=>v = .bool true∧Grows h h':=by
 refine enter (rep:=rep) (m:=2) (ex:=[0,1,4,6,7,8,9,13,27,35,43,52,67]) (cu:=[]) tO Tryz.func38 rfl (by decide) (rs:=[.tmp 4]) rfl rfl [.val (.int .u8 k),.val (.string w)] rfl ?_
 unfold SpP at hS
 by_cases h26:k=26
 ·rw [if_pos h26] at hS
  have cn:=fun h1 ht=>cname_any w h1 ht (by omega) hS
  ((repeat' ((conv=>whnf);(first|(refine Br.mk ?_ ?_<;>intro hb<;>(try (exfalso;omega)))|(apply CK.pure;(case hh=>(intro h1 hs;exact cn h1 (ht.at hs))))|fail)));all_goals (try (conv=>whnf)))
  all_goals first
   |exact⟨fun h' hs=>⟨prop_true rfl,hs.grows⟩⟩
   |exact⟨fun h' hs=>⟨rfl,hs.grows⟩⟩
 rw [if_neg h26] at hS
 by_cases h27:k=27
 ·rw [if_pos h27] at hS
  have ck:=fun h1=>kind_any w h1 (by omega)
  by_cases hv:ValP w
  ·have cv:∀ h1,TabsH h1→CH Tryz.prog 47 #[.string w] h1 fun v h'=>(∃ kv,den kv=v∧∃ t,kv = .tup [.val (.string t),.val (.int .i64 0)])∧Grows h1 h':=fun h1 ht=>(qvalue_any w h1 ht (by omega)).mono fun v h' ⟨t,e1,e2⟩=>⟨⟨.tup [.val (.string t),.val (.int .i64 0)],by rw [e1,if_pos hv];rfl,t,rfl⟩,e2⟩
   ((repeat' ((conv=>whnf);(first|(refine Br.mk ?_ ?_<;>intro hb<;>(try (exfalso;omega)))|(refine CK.sumy (fun kv=>∃ t,kv = .tup [.val (.string t),.val (.int .i64 0)]) (fun h1 hs=>cv h1 (ht.at hs)) ?_;rintro _ ⟨t,rfl⟩)|fail)));all_goals (try (conv=>whnf)))
   all_goals first
    |exact⟨fun h' hs=>⟨prop_true rfl,hs.grows⟩⟩
    |exact⟨fun h' hs=>⟨rfl,hs.grows⟩⟩
    |(exfalso;omega)
  ·have hn:¬ kindF w=0:=hS.resolve_left hv
   generalize kindF w=kf at hn ck
   have cv:∀ h1,TabsH h1→CH Tryz.prog 47 #[.string w] h1 fun v h'=>(∃ kv,den kv=v∧∃ t,kv = .tup [.val (.string t),.val (.int .i64 4)])∧Grows h1 h':=fun h1 ht=>(qvalue_any w h1 ht (by omega)).mono fun v h' ⟨t,e1,e2⟩=>⟨⟨.tup [.val (.string t),.val (.int .i64 4)],by rw [e1,if_neg hv];rfl,t,rfl⟩,e2⟩
   ((repeat' ((conv=>whnf);(first|(refine Br.mk ?_ ?_<;>intro hb<;>(try (exfalso;omega)))|(refine CK.sumy (fun kv=>∃ t,kv = .tup [.val (.string t),.val (.int .i64 4)]) (fun h1 hs=>cv h1 (ht.at hs)) ?_;rintro _ ⟨t,rfl⟩)|(apply CK.pure;(case hh=>(intro h1 hs;exact ck h1)))|fail)));all_goals (try (conv=>whnf)))
   all_goals first
    |exact⟨fun h' hs=>⟨prop_true (by simpa using hn),hs.grows⟩⟩
    |(exfalso;omega)
 rw [if_neg h27] at hS
 by_cases h5:k=5
 ·rw [if_pos h5] at hS
  rcases hS with rfl|rfl
  all_goals ((repeat' ((conv=>whnf);(first|(refine Br.mk ?_ ?_<;>intro hb<;>(try (first|(exfalso;omega)|exact absurd rfl hb|contradiction)))|fail)));all_goals (try (conv=>whnf)))
  all_goals first
   |exact⟨fun h' hs=>⟨prop_true rfl,hs.grows⟩⟩
   |exact⟨fun h' hs=>⟨rfl,hs.grows⟩⟩
   |exact⟨fun h' hs=>⟨prop_true (by simp),hs.grows⟩⟩
   |(exfalso;omega)
 rw [if_neg h5] at hS
 by_cases h7:k=7
 ·rw [if_pos h7] at hS
  rcases hS with rfl|rfl
  all_goals ((repeat' ((conv=>whnf);(first|(refine Br.mk ?_ ?_<;>intro hb<;>(try (first|(exfalso;omega)|exact absurd rfl hb|contradiction)))|fail)));all_goals (try (conv=>whnf)))
  all_goals first
   |exact⟨fun h' hs=>⟨prop_true rfl,hs.grows⟩⟩
   |exact⟨fun h' hs=>⟨rfl,hs.grows⟩⟩
   |exact⟨fun h' hs=>⟨prop_true (by simp),hs.grows⟩⟩
   |(exfalso;omega)
 rw [if_neg h7] at hS
 by_cases h15:k=15∨k=34
 ·rw [if_pos h15] at hS
  rcases hS with rfl|rfl
  all_goals ((repeat' ((conv=>whnf);(first|(refine Br.mk ?_ ?_<;>intro hb<;>(try (first|(exfalso;omega)|exact absurd rfl hb|contradiction)))|fail)));all_goals (try (conv=>whnf)))
  all_goals first
   |exact⟨fun h' hs=>⟨prop_true rfl,hs.grows⟩⟩
   |exact⟨fun h' hs=>⟨rfl,hs.grows⟩⟩
   |exact⟨fun h' hs=>⟨prop_true (by simp),hs.grows⟩⟩
   |(exfalso;omega)
 rw [if_neg h15] at hS
 by_cases h66:k=66
 ·rw [if_pos h66] at hS
  rcases hS with rfl|rfl|rfl
  all_goals ((repeat' ((conv=>whnf);(first|(refine Br.mk ?_ ?_<;>intro hb<;>(try (first|(exfalso;omega)|exact absurd rfl hb|contradiction)))|fail)));all_goals (try (conv=>whnf)))
  all_goals first
   |exact⟨fun h' hs=>⟨prop_true rfl,hs.grows⟩⟩
   |exact⟨fun h' hs=>⟨rfl,hs.grows⟩⟩
   |exact⟨fun h' hs=>⟨prop_true (by simp),hs.grows⟩⟩
   |(exfalso;omega)
 rw [if_neg h66] at hS
 have cw:=fun h1=>words_any k h1 hk
 have hwz:(wordsT k).size≤100:=by unfold wordsT;(repeat' split)<;>decide
 by_cases he:wordsT k=⟨#[]⟩
 ·rw [if_pos he] at hS
  subst hS
  rw [he] at cw
  ((repeat' ((conv=>whnf);(first|(refine Br.mk ?_ ?_<;>intro hb<;>(try (first|(exfalso;omega)|exact absurd rfl hb)))|(apply CK.pure;(case hh=>(intro h1 hs;exact cw h1)))|fail)));all_goals (try (conv=>whnf)))
  all_goals first
   |exact⟨fun h' hs=>⟨prop_true rfl,hs.grows⟩⟩
   |exact⟨fun h' hs=>⟨rfl,hs.grows⟩⟩
   |exact⟨fun h' hs=>⟨prop_true (by simp),hs.grows⟩⟩
   |(exfalso;omega)
 ·rw [if_neg he] at hS
  obtain⟨s1,s2,s3⟩:=hS
  generalize wordsT k=W at *
  have c1:=fun h1 ht=>contains_any w (⟨#[32]⟩:ByteArray) h1 ht (by omega)
  rw [show ((⟨#[32]⟩:ByteArray)).data.toList=[32] from rfl,s2] at c1
  have c2:=fun h1 ht=>contains_any W ((⟨#[32]⟩:ByteArray)++w++(⟨#[32]⟩:ByteArray)) h1 ht (by omega)
  rw [s3] at c2
  have hzz:=app_blank w
  have h32:((⟨#[32]⟩:ByteArray)).size=1:=rfl
  have hz1:((⟨#[32]⟩:ByteArray)++w).size=w.size+1:=by simp only [ByteArray.size_append];show 1+w.size = _;omega
  ((repeat' ((conv=>whnf);(first|(refine VC.mk (by omega) ?_)|(refine Br.mk ?_ ?_<;>intro hb<;>(try (first|(exfalso;omega)|contradiction)))|(apply CK.pure;(case hh=>(intro h1 hs;exact cw h1)))|(apply CK.pure;(case hh=>(intro h1 hs;exact c1 h1 (ht.at hs))))|(apply CK.pure;(case hh=>(intro h1 hs;exact c2 h1 (ht.at hs))))|fail)));all_goals (try (conv=>whnf)))
  all_goals (try (exact absurd ‹W = _› he))
  all_goals (try (exact absurd ‹w = _› s1))
  all_goals first
   |exact⟨fun h' hs=>⟨prop_true rfl,hs.grows⟩⟩
   |exact⟨fun h' hs=>⟨rfl,hs.grows⟩⟩
   |exact⟨fun h' hs=>⟨prop_true (by simp),hs.grows⟩⟩
   |(exfalso;omega)
end Go.Ex
namespace Go.Ex
open Go.Proofs
theorem letterZ:¬ LetterF 0=true:=by decide
theorem wordF_to(s:ByteArray)(a:Int):(wordF s a).2=wordT s a∧((wordF s a).1=1∨(wordF s a).1=2):=by
 unfold wordF
 split
 ·exact⟨rfl,.inr rfl⟩
 ·exact⟨rfl,.inl rfl⟩
theorem numF_lit(s:ByteArray)(a:Int)(h:¬ (numF s a).1=0):LitP (sub s a (numF s a).2.1):=by
 unfold numF at h ⊢
 by_cases c1:¬ Begs s a
 ·rw [if_pos c1] at h;exact absurd rfl h
 rw [if_neg c1] at h ⊢
 by_cases c2:¬ kindF (sub s a (numTo s a))=0
 ·rw [if_pos c2];exact .inr c2
 ·rw [if_neg c2] at h;exact absurd rfl h
theorem begF_ok(s:ByteArray)(a:Int)(h:¬ (begF s a).1=0):(begF s a).2.2=0:=by
 revert h
 unfold begF
 by_cases c1:a<0∨(s.size:Int)≤a∨idxB marksT (byteI s a)<0
 ·rw [if_pos c1];exact fun h=>absurd rfl h
 rw [if_neg c1]
 by_cases c2:byteI s a=96
 ·rw [if_pos c2]
  by_cases c3:idxB (sub s (a+1) s.size) 96<0
  ·rw [if_pos c3];exact fun h=>absurd rfl h
  ·rw [if_neg c3];exact fun _=>rfl
 ·rw [if_neg c2]
  cases readS s a with
  |none=>exact fun h=>absurd rfl h
  |some e=>
   dsimp only
   by_cases c3:byteI s a=34
   ·rw [if_pos c3];exact fun _=>rfl
   ·rw [if_neg c3];exact fun _=>rfl
theorem lexK_txt(s:ByteArray)(a:Int)(ha:0≤a∧a<s.size):((lexK s a).1=1→NameP (sub s a (lexK s a).2))∧(3≤(lexK s a).1→(lexK s a).1≤7→LitP (sub s a (lexK s a).2)):=by
 obtain⟨K,hK⟩:∃ K,lexK s a=K:=⟨_,rfl⟩
 rw [hK]
 unfold lexK at hK
 by_cases c1:(readF s a).1=65279
 ·rw [if_pos c1] at hK;subst hK
  exact⟨fun h=>(by cases h),fun _ h=>(by dsimp only at h;omega)⟩
 rw [if_neg c1] at hK
 by_cases c2:BlankP (readF s a).1
 ·rw [if_pos c2] at hK;subst hK
  exact⟨fun h=>(by cases h),fun _ h=>(by dsimp only at h;omega)⟩
 rw [if_neg c2] at hK
 by_cases c3:HasP (sub s a s.size) lineT
 ·rw [if_pos c3] at hK
  by_cases c4:0≤idxB (sub s a s.size) 10
  ·rw [if_pos c4] at hK;subst hK
   exact⟨fun h=>(by cases h),fun _ h=>(by dsimp only at h;omega)⟩
  ·rw [if_neg c4] at hK;subst hK
   exact⟨fun h=>(by cases h),fun _ h=>(by dsimp only at h;omega)⟩
 rw [if_neg c3] at hK
 by_cases c5:HasP (sub s a s.size) blockT
 ·rw [if_pos c5] at hK
  split at hK
  ·subst hK
   exact⟨fun h=>(by cases h),fun _ h=>(by dsimp only at h;omega)⟩
  ·subst hK
   exact⟨fun h=>(by cases h),fun h _=>(by dsimp only at h;omega)⟩
 rw [if_neg c5] at hK
 by_cases c6:LetterF (readF s a).1=true
 ·rw [if_pos c6] at hK
  subst hK
  obtain⟨w1,w2⟩:=wordF_to s a
  refine⟨fun h=>?_,fun h _=>(by omega)⟩
  rw [w1]
  exact name_word s a ha (fun q=>letterZ (by rw [q] at c6;exact c6)) c6 h
 rw [if_neg c6] at hK
 by_cases c7:(readF s a).1=59
 ·rw [if_pos c7] at hK;subst hK
  exact⟨fun h=>(by cases h),fun _ h=>(by dsimp only at h;omega)⟩
 rw [if_neg c7] at hK
 by_cases c8:¬ (numF s a).2.2=15
 ·rw [if_pos c8] at hK
  subst hK
  have hr:=numF_rng s a
  exact⟨fun h=>(by dsimp only at h;omega),fun h _=>numF_lit s a (by dsimp only at h;omega)⟩
 rw [if_neg c8] at hK
 by_cases c9:¬ (begF s a).2.2=15
 ·rw [if_pos c9] at hK
  subst hK
  have hr:=begF_rng s a
  exact⟨fun h=>(by dsimp only at h;omega),fun h _=>.inl (val_scan s a ha (begF_ok s a (by dsimp only at h;omega)) (by dsimp only at h;omega))⟩
 rw [if_neg c9] at hK
 split at hK
 ·subst hK
  exact⟨fun h=>(by cases h),fun _ h=>(by dsimp only at h;omega)⟩
 ·subst hK
  exact⟨fun h=>(by cases h),fun h _=>(by dsimp only at h;omega)⟩
end Go.Ex
