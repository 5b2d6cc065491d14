/-
  Top: TopDeep: whatever the input, the law answers true (part 47)
-/
import Derived.Test.YtpjdgifhhnjclaaGreatDoorM46
set_option linter.unusedVariables false
set_option linter.unusedSimpArgs false
set_option maxHeartbeats 4000000
set_option maxRecDepth 10000
namespace Go.Ex
open Go.Proofs
structure Lx(s:ByteArray)(a:Int)(u:List UInt8):Prop where
 lo:0≤a
 eq:s.data.toList.drop a.toNat=u
 hi:a≤s.size
theorem Lx.len{s:ByteArray}{a:Int}{u:List UInt8}(h:Lx s a u):(s.size:Int)=a+u.length:=by
 have h1:s.data.toList.length=s.size:=(Lib.size_eq s).symm
 have h2:=congrArg List.length h.eq
 rw [List.length_drop,h1] at h2
 have:=h.lo
 have:=h.hi
 omega
theorem Lx.skip{s:ByteArray}{a:Int}(w:List UInt8){u:List UInt8}(h:Lx s a (w++u)):Lx s (a+w.length) u:=by
 have hl:=h.len
 have h0:=h.lo
 rw [List.length_append] at hl
 refine⟨by omega,?_,by omega⟩
 rw [show (a+(w.length:Int)).toNat=a.toNat+w.length by omega,←List.drop_drop,h.eq,List.drop_left]
theorem Lx.tl{s:ByteArray}{a:Int}{c:UInt8}{r:List UInt8}(h:Lx s a (c::r)):Lx s (a+1) r:=Lx.skip [c] h
theorem Lx.lt{s:ByteArray}{a:Int}{c:UInt8}{r:List UInt8}(h:Lx s a (c::r)):0≤a∧a<s.size:=by
 have h1:=h.len
 have h0:=h.lo
 rw [List.length_cons] at h1
 omega
theorem drop_getD{l:List UInt8}{n:Nat}{c:UInt8}{r:List UInt8}(h:l.drop n=c::r):l.getD n 0=c:=by
 have h1:=congrArg (fun l=>l[0]?) h
 simp only [List.getElem?_drop,List.getElem?_cons_zero,Nat.add_zero] at h1
 rw [List.getD_eq_getElem?_getD,h1]
 rfl
theorem Lx.byte{s:ByteArray}{a:Int}{c:UInt8}{r:List UInt8}(h:Lx s a (c::r)):byteI s a=c.toNat:=by
 unfold byteI
 rw [drop_getD h.eq]
theorem Lx.lst{s:ByteArray}{a:Int}{u:List UInt8}(h:Lx s a u):(sub s a s.size).data.toList=u:=(sub_list s a ⟨h.lo,h.hi⟩).trans h.eq
theorem Lx.part{s:ByteArray}{a:Int}(w:List UInt8){u:List UInt8}(h:Lx s a (w++u)):sub s a (a+w.length)=⟨w.toArray⟩:=by
 have h0:=h.lo
 refine ByteArray.ext ?_
 show (s.extract a.toNat (a+w.length).toNat).data=w.toArray
 rw [ByteArray.data_extract]
 apply Array.ext'
 rw [Array.toList_extract,List.extract_eq_take_drop,h.eq,show (a+(w.length:Int)).toNat-a.toNat=w.length by omega,List.take_left]
theorem decode_of_ascii(s:ByteArray)(p:Nat)(c:UInt8)(r:List UInt8)(h:s.data.toList.drop p=c::r)(hc:c.toNat<128):Utf8.decode s p=(c.toNat,1):=by
 have h1:=get_byte s p
 have h2:byteI s p=c.toNat:=by
  unfold byteI
  rw [Int.toNat_natCast,drop_getD h]
 rw [h2] at h1
 have hp:p<s.size:=by
  have h3:=congrArg List.length h
  have h4:s.data.toList.length=s.size:=(Lib.size_eq s).symm
  rw [List.length_drop,h4,List.length_cons] at h3
  omega
 rw [Lib.decode_at]
 have h5:(s.get! p).toNat=c.toNat:=by omega
 rw [h5]
 unfold Lib.decodeN
 rw [if_pos (by omega)]
theorem Lx.read{s:ByteArray}{a:Int}{c:UInt8}{r:List UInt8}(h:Lx s a (c::r))(hc:c.toNat<128):readF s a=((c.toNat:Int),1):=by
 rw [readF_of_ascii s a h.lt (by rw [h.byte];omega),h.byte]
def extS(c:UInt8)(o:Option UInt8):Bool:=signs.any fun w=>match w.data.toList,o with
 |x::y::_,some d=>x == c && y == d
 |_,_=>false
theorem extS_no{c d:UInt8}{l:List UInt8}{w:ByteArray}(h:extS c (some d)=false)(hw:w.data.toList=c::d::l):¬ SignP w:=by
 intro hm
 have:extS c (some d)=true:=List.any_eq_true.2 ⟨w,hm,by rw [hw];simp⟩
 rw [h] at this
 cases this
theorem take_list(u:ByteArray)(k:Nat):(u.extract 0 k).data.toList=u.data.toList.take k:=by
 rw [ByteArray.data_extract,Array.toList_extract,List.extract_eq_take_drop]
 simp
theorem signF_one{u:ByteArray}{c:UInt8}{r:List UInt8}(h:u.data.toList=c::r)(h1:SignP ⟨#[c]⟩)(h2:extS c r.head?=false):signF u=1:=by
 have hz:u.size=r.length+1:=by rw [Lib.size_eq,h,List.length_cons]
 have e1:u.extract 0 1=⟨#[c]⟩:=by
  refine ByteArray.ext (Array.ext' ?_)
  rw [take_list,h]
  rfl
 have g1:signGo u 1=1:=by
  unfold signGo
  rw [show (0+1:Nat)=1 from rfl,e1,if_pos h1]
  rfl
 unfold signF
 match r,h,h2,hz with
 |[],h,h2,hz=>
  rw [hz]
  exact g1
 |d::r',h,h2,hz=>
  have no:∀ k,¬ SignP (u.extract 0 (k+2)):=fun k=>extS_no (l:=r'.take k) h2 (by rw [take_list,h,show k+2=(k+1)+1 by omega,List.take_succ_cons,List.take_succ_cons])
  have g2:signGo u 2=1:=by
   unfold signGo
   rw [if_neg (no 0)]
   exact g1
  rw [hz,List.length_cons]
  rcases Nat.eq_zero_or_pos r'.length with q|q
  ·rw [q]
   exact g2
  ·rw [show min 3 (r'.length+1+1)=3 by omega]
   unfold signGo
   rw [if_neg (no 1)]
   exact g2
def SgC(c:UInt8):Prop:=c.toNat<128∧¬ BlankP c.toNat∧¬ c=47∧¬ LetterF c.toNat=true∧¬ (c.toNat:Int)=59∧¬ valD c.toNat<10∧¬ (c.toNat:Int)=46∧idxB marksT c.toNat<0∧SignP ⟨#[c]⟩
instance (c:UInt8):Decidable (SgC c):=by unfold SgC;exact inferInstance
theorem hasp_no{u p:ByteArray}{c d:UInt8}{r l:List UInt8}(h:u.data.toList=c::r)(hp:p.data.toList=d::l)(hn:¬ c=d):¬ HasP u p:=by
 intro h1
 obtain⟨x,hx⟩:=h1.head
 rw [h,hp] at hx
 simp only [List.cons_append,List.cons.injEq] at hx
 exact hn hx.1
theorem lex_sign{s:ByteArray}{a:Int}{c:UInt8}{r:List UInt8}(h:Lx s a (c::r))(hc:SgC c)(he:extS c r.head?=false):lexK s a=(8,a+1):=by
 obtain⟨c1,c2,c3,c4,c5,c6,c7,c8,c9⟩:=hc
 have hs:=h.lst
 have hb:=h.byte
 have hl:=h.lt
 unfold lexK
 rw [h.read c1]
 dsimp only
 rw [if_neg (by omega),if_neg c2,if_neg (hasp_no (d:=47) hs rfl c3),if_neg (hasp_no (d:=47) hs rfl c3),if_neg c4,if_neg c5]
 have n1:numF s a=(0,0,15):=by
  unfold numF
  rw [if_pos]
  unfold Begs
  rw [hb]
  omega
 have n2:begF s a=(0,0,15):=by
  unfold begF
  rw [if_pos]
  rw [hb]
  omega
 rw [n1,n2]
 dsimp only
 rw [if_neg (fun q=>q rfl),if_neg (fun q=>q rfl),signF_one hs c9 he]
 rfl
theorem lex_blank{s:ByteArray}{a:Int}{r:List UInt8}(h:Lx s a (32::r))(hr:∀ d l,r=d::l→blankT.data.toList.contains d=false):lexK s a=(10,a+1):=by
 have hs:=h.lst
 have hz:=h.len
 unfold lexK
 rw [h.read (by decide)]
 dsimp only
 rw [if_neg (by decide),if_pos (by decide)]
 have e:(trimF (sub s a s.size)).size=r.length:=by
  unfold trimF Lib.trimLeftS
  show (List.dropWhile _ (sub s a s.size).data.toList).toArray.size = _
  rw [hs,List.dropWhile_cons,if_pos (by decide),List.size_toArray]
  match r,hr with
  |[],hr=>rfl
  |d::l,hr=>
   rw [List.dropWhile_cons,if_neg (by rw [hr d l rfl];decide)]
 rw [e]
 rw [List.length_cons] at hz
 rw [show (s.size:Int)-(r.length:Int)=a+1 by omega]
def EndW(u:List UInt8):Prop:=∀ d l,u=d::l→d.toNat<128∧LetterF d.toNat=false∧¬ DigitP d.toNat
theorem wordGo_app(x:ByteArray)(u:List UInt8)(hu:EndW u):∀ (w:List UInt8) (f p:Nat),x.data.toList.drop p=w++u→(∀ c∈w,c.toNat<128∧LetterF c.toNat=true)→w.length<f→wordGo x f p=if u=[] then -1 else (p:Int)+w.length
 |w,0,p,h,hw,hf=>absurd hf (Nat.not_lt_zero _)
 |[],f+1,p,h,hw,hf=>by
  rw [List.nil_append] at h
  rw [wordGo]
  have hz:x.data.toList.length=x.size:=(Lib.size_eq x).symm
  match u,hu,h with
  |[],hu,h=>
   have h3:=congrArg List.length h
   rw [List.length_drop,hz,List.length_nil] at h3
   rw [if_neg (by omega),if_pos rfl]
  |d::l,hu,h=>
   have h3:=congrArg List.length h
   rw [List.length_drop,hz,List.length_cons] at h3
   obtain⟨d1,d2,d3⟩:=hu d l rfl
   rw [if_pos (by omega),decode_of_ascii x p d l h d1]
   dsimp only
   rw [if_pos ⟨d2,d3⟩,if_neg (by simp)]
   simp
 |c::w,f+1,p,h,hw,hf=>by
  rw [wordGo]
  have hz:x.data.toList.length=x.size:=(Lib.size_eq x).symm
  have h3:=congrArg List.length h
  rw [List.length_drop,hz,List.cons_append,List.length_cons] at h3
  obtain⟨c1,c2⟩:=hw c List.mem_cons_self
  rw [if_pos (by omega),decode_of_ascii x p c (w++u) h c1]
  dsimp only
  rw [if_neg (by rw [c2];simp)]
  have h4:x.data.toList.drop (p+1)=w++u:=by
   rw [←List.drop_drop,h]
   rfl
  rw [wordGo_app x u hu w f (p+1) h4 (fun c hc=>hw c (List.mem_cons_of_mem _ hc)) (by simpa using hf)]
  split
  ·rfl
  ·rw [List.length_cons];omega
theorem lex_word{s:ByteArray}{a:Int}{c:UInt8}{w u:List UInt8}(h:Lx s a ((c::w)++u))(hw:∀ x∈c::w,x.toNat<128∧LetterF x.toNat=true)(hu:EndW u)(hb:¬ BlankP c.toNat∧¬ c=47) :
 lexK s a=(if WordP ⟨(c::w).toArray⟩ then 2 else 1,a+(c::w).length):=by
 obtain⟨c1,c4⟩:=hw c List.mem_cons_self
 have h':Lx s a (c::(w++u)):=h
 have hs:=h'.lst
 have hz:=h.len
 rw [List.length_append] at hz
 have hl:=h'.lt
 unfold lexK
 rw [h'.read c1]
 dsimp only
 rw [if_neg (by omega),if_neg hb.1,if_neg (hasp_no (d:=47) hs rfl hb.2),if_neg (hasp_no (d:=47) hs rfl hb.2),if_pos c4]
 have hsz:(sub s a s.size).size=((c::w).length+u.length):=by rw [Lib.size_eq,hs];simp;omega
 have ht:wordT s a=a+(c::w).length:=by
  unfold wordT
  by_cases hu0:u=[]
  ·have hg:=wordGo_app (sub s a s.size) u hu (c::w) ((c::w).length+1) 0 (by rw [List.drop_zero];exact hs) hw (by omega)
   rw [hsz]
   subst hu0
   rw [List.length_nil] at hz ⊢
   have hg2:wordGo (sub s a s.size) ((c::w).length+0) 0<0:=by
    have hr:=wordGo_rng (sub s a s.size) ((c::w).length+0) 0
    have key:∀ (w:List UInt8) (f p:Nat),(sub s a s.size).data.toList.drop p=w++[]→(∀ c∈w,c.toNat<128∧LetterF c.toNat=true)→wordGo (sub s a s.size) f p = -1:=by
     intro w f
     induction f generalizing w with
     |zero=>intro p _ _;rfl
     |succ f ih=>
      intro p h hw
      rw [wordGo]
      have hz:(sub s a s.size).data.toList.length=(sub s a s.size).size:=(Lib.size_eq _).symm
      match w,h,hw with
      |[],h,hw=>
       have h3:=congrArg List.length h
       rw [List.length_drop,hz,List.append_nil,List.length_nil] at h3
       rw [if_neg (by omega)]
      |c::w,h,hw=>
       have h3:=congrArg List.length h
       rw [List.length_drop,hz,List.cons_append,List.length_cons] at h3
       obtain⟨c1,c2⟩:=hw c List.mem_cons_self
       rw [if_pos (by omega),decode_of_ascii _ p c (w++[]) h c1]
       dsimp only
       rw [if_neg (by rw [c2];simp)]
       exact ih w (p+1) (by rw [←List.drop_drop,h];rfl) (fun c hc=>hw c (List.mem_cons_of_mem _ hc))
    rw [key (c::w) _ 0 (by rw [List.drop_zero];exact hs) hw]
    decide
   rw [if_neg (by omega)]
   omega
  ·have hl2:0<u.length:=List.length_pos_iff.2 hu0
   have hg:=wordGo_app (sub s a s.size) u hu (c::w) (sub s a s.size).size 0 (by rw [List.drop_zero];exact hs) hw (by rw [hsz];omega)
   rw [if_neg hu0] at hg
   rw [hg,if_pos (by omega)]
   omega
 unfold wordF
 rw [ht,h.part]
 split<;>rfl
theorem lex_one{s:ByteArray}{a:Int}{r:List UInt8}(h:Lx s a (49::32::r)):lexK s a=(3,a+1):=by
 have hs:=h.lst
 have hb:=h.byte
 have hb2:=h.tl.byte
 have hl:=h.lt
 have hl2:=h.tl.lt
 unfold lexK
 rw [h.read (by decide)]
 dsimp only
 rw [if_neg (by decide),if_neg (by decide),if_neg (hasp_no (d:=47) hs rfl (by decide)),if_neg (hasp_no (d:=47) hs rfl (by decide)),if_neg (by decide),if_neg (by decide)]
 have n1:numF s a=(3,a+1,0):=by
  have ht:numTo s a=a+1:=by
   unfold numTo
   obtain⟨f,hf⟩:∃ f,s.size=f+1+1:=⟨s.size-2,by omega⟩
   rw [show toGo s a (decide (HexF s a)) s.size a=toGo s a (decide (HexF s a)) (f+1+1) a by rw [←hf]]
   rw [toGo,if_pos ⟨hl.2,.inl (by rw [hb];unfold NumB;decide)⟩,toGo,if_neg]
   intro q
   obtain⟨_,q⟩:=q
   rw [hb2] at q
   revert q
   rintro (q|q)
   ·exact absurd q (by unfold NumB;decide)
   ·exact absurd q.1 (by decide)
  have hb3:Begs s a:=⟨hl.1,hl.2,.inl (by rw [hb];decide)⟩
  have hp:sub s a (a+1)=⟨#[49]⟩:=Lx.part [49] h
  unfold numF
  rw [if_neg (fun q=>q hb3),ht,hp]
  have hk:kindF ⟨#[49]⟩=3:=by kernel_rfl
  rw [hk,if_pos (by decide)]
 rw [n1]
 dsimp only
 rw [if_pos (by decide)]
def Asc(s:ByteArray):Prop:=∀ c∈s.data.toList,0<c.toNat∧c.toNat<128
theorem asc_drop{s:ByteArray}(h:Asc s){p:Nat}(hp:p<s.size):∃ c r,s.data.toList.drop p=c::r∧0<c.toNat∧c.toNat<128:=by
 have hz:s.data.toList.length=s.size:=(Lib.size_eq s).symm
 have hl:p<s.data.toList.length:=by omega
 refine⟨s.data.toList[p],s.data.toList.drop (p+1),List.drop_eq_getElem_cons hl,h _ (List.getElem_mem hl)⟩
theorem clean_asc{s:ByteArray}(h:Asc s):¬ 0≤cleanF s:=by
 have hb:∀ f p,badGo s f p = -1:=by
  intro f
  induction f with
  |zero=>intro p;rfl
  |succ f ih=>
   intro p
   rw [badGo]
   split
   ·rename_i hp
    obtain⟨c,r,h1,h2,h3⟩:=asc_drop h hp
    rw [decode_of_ascii s p c r h1 h3]
    dsimp only
    rw [if_neg (by omega),ih]
   ·rfl
 have hc:∀ f p,cleanGo s f p = -1:=by
  intro f
  induction f with
  |zero=>intro p;rfl
  |succ f ih=>
   intro p
   rw [cleanGo]
   split
   ·rename_i hp
    obtain⟨c,r,h1,h2,h3⟩:=asc_drop h hp
    rw [decode_of_ascii s p c r h1 h3]
    dsimp only
    rw [if_neg (by omega),ih]
   ·rfl
 have e1:badE s=s.size:=by
  unfold badE badF
  rw [hb,if_pos (by decide)]
 unfold cleanF
 rw [e1,Int.toNat_natCast,ext_all,hc,if_neg (by decide),if_neg (by omega)]
 decide
def Lexes(s:ByteArray)(a:Int)(al:List Tok):Prop:=∀ (f:Nat) (acc:List Tok),(s.size:Int)-a<f→allGo s f acc a=(acc++al,0,0)
theorem Lexes.end_{s:ByteArray}{a:Int}(h:(s.size:Int)≤a)(h1:a≤s.size):Lexes s a []:=by
 intro f acc hf
 obtain⟨f,rfl⟩:∃ g,f=g+1:=⟨f-1,by omega⟩
 rw [allGo,if_pos h,List.append_nil]
theorem Lexes.cons{s:ByteArray}{a b k:Int}{al:List Tok}(h:lexK s a=(k,b))(h0:a<s.size)(hk:¬ k=0)(hb:a<b)(hn:Lexes s b al):Lexes s a (⟨k,a,b⟩::al):=by
 intro f acc hf
 obtain⟨f,rfl⟩:∃ g,f=g+1:=⟨f-1,by omega⟩
 rw [allGo,if_neg (by omega),h]
 dsimp only
 rw [if_neg hk,hn f _ (by omega),List.append_assoc]
 rfl
def vw(s:ByteArray)(t:Tok):Int×ByteArray:=(t.kind,sub s t.frm t.to)
def RdT(s:ByteArray)(a:Int)(V:List (Int×ByteArray)):Prop:=
 ∃ (al T:List Tok) (e:Int),Lexes s a al∧(∀ acc e0,al.foldl (semStep s) (acc,e0)=(acc++T,e))∧T.map (vw s)=V∧0≤e
theorem RdT.last{s:ByteArray}{a k:Int}{w:List UInt8}(h:Lx s a w)(hl:lexK s a=(k,a+w.length))(hw:0<w.length)(hk:¬ k=0)(hs:¬ SilP k)(he:EndsP k ⟨w.toArray⟩):RdT s a [(k,⟨w.toArray⟩)]:=by
 have h':Lx s a (w++[]):=by rw [List.append_nil];exact h
 have hz:=h.len
 have h0:=h.lo
 refine⟨[⟨k,a,a+w.length⟩],[⟨k,a,a+w.length⟩],a+w.length,Lexes.cons hl (by omega) hk (by omega) (Lexes.end_ (by omega) (by omega)),?_,?_,by omega⟩
 ·intro acc e0
  show semStep s (acc,e0) _ = _
  unfold semStep
  rw [if_neg hs]
  dsimp only
  rw [h'.part,if_pos he]
 ·show [vw s ⟨k,a,a+w.length⟩] = _
  unfold vw
  dsimp only
  rw [h'.part]
theorem RdT.cons{s:ByteArray}{a k:Int}{w u:List UInt8}{V:List (Int×ByteArray)}(h:Lx s a (w++u))(hl:lexK s a=(k,a+w.length))(hw:0<w.length)(hk:¬ k=0)(hs:¬ SilP k)(hr:RdT s (a+w.length) V):RdT s a ((k,⟨w.toArray⟩)::V):=by
 obtain⟨al,T,e,h1,h2,h3,h4⟩:=hr
 have hz:=h.len
 have h0:=h.lo
 rw [List.length_append] at hz
 refine⟨⟨k,a,a+w.length⟩::al,⟨k,a,a+w.length⟩::T,e,Lexes.cons hl (by omega) hk (by omega) h1,?_,?_,h4⟩
 ·intro acc e0
  rw [List.foldl_cons]
  have:semStep s (acc,e0) ⟨k,a,a+w.length⟩=(acc++[⟨k,a,a+w.length⟩],if EndsP k (sub s a (a+w.length)) then a+w.length else -1):=by
   unfold semStep
   rw [if_neg hs]
  rw [this,h2,List.append_assoc]
  rfl
 ·rw [List.map_cons,h3]
  unfold vw
  dsimp only
  rw [h.part]
theorem RdT.blank{s:ByteArray}{a:Int}{u:List UInt8}{V:List (Int×ByteArray)}(h:Lx s a (32::u))(hl:lexK s a=(10,a+1))(hr:RdT s (a+1) V):RdT s a V:=by
 obtain⟨al,T,e,h1,h2,h3,h4⟩:=hr
 have hlt:=h.lt
 refine⟨⟨10,a,a+1⟩::al,T,e,Lexes.cons hl (by omega) (by decide) (by omega) h1,?_,h3,h4⟩
 intro acc e0
 rw [List.foldl_cons]
 have hp:sub s a (a+1)=⟨#[32]⟩:=Lx.part [32] h
 have:semStep s (acc,e0) ⟨10,a,a+1⟩=(acc,e0):=by
  unfold semStep
  rw [if_pos (.inl rfl)]
  dsimp only
  rw [hp,if_neg (by decide)]
 rw [this,h2]
theorem sem_of_rd{s:ByteArray}{V:List (Int×ByteArray)}(ha:Asc s)(hz:s.size≤65536)(h:RdT s 0 V):∃ T,semF s=(T,0,0)∧T.map (vw s)=V++[(9,⟨#[]⟩)]:=by
 obtain⟨al,T,e,h1,h2,h3,h4⟩:=h
 have e1:allF s=(al,0,0):=by
  unfold allF
  rw [if_neg (by omega),if_neg (clean_asc ha),h1 _ _ (by omega)]
  rfl
 refine⟨T++[⟨9,e,e⟩],?_,?_⟩
 ·unfold semF
  rw [e1]
  dsimp only
  rw [if_pos ⟨rfl,rfl⟩]
  unfold semL
  rw [h2,flush_yes h4]
  rfl
 ·rw [List.map_append,h3]
  have:vw s ⟨9,e,e⟩=(9,⟨#[]⟩):=by
   unfold vw
   dsimp only
   congr 1
   refine ByteArray.ext (Array.eq_empty_of_size_eq_zero ?_)
   show (s.extract e.toNat e.toNat).size=0
   rw [ByteArray.size_extract]
   omega
  rw [List.map_cons,this]
  rfl
end Go.Ex
namespace Go.Ex
open Go.Proofs
def stk:List (Int×ByteArray)→List Int→Int
 |[],st=>if st=[] then 0 else 5
 |(k,w)::r,st=>
  if ¬ k=8∨¬ w.size=1 then stk r st else
  if ¬ partF (byteI w 0)=0 then (if st.length=100 then 6 else stk r (byteI w 0::st)) else
  if byteI w 0=41∨byteI w 0=93∨byteI w 0=125 then (if st=[] then 5 else if partF (st.headD 0)=byteI w 0 then stk r st.tail else 5)
  else stk r st
structure StI(s:ByteArray)(T:List Tok)(x:NsS)(st:List Int):Prop where
 n:x.n=st.length
 le:st.length≤100
 ol:x.O.length=100
 at_:∀ k:Nat,k<st.length→byteI s (frmT T (getI (intR .i64).dflt x.O (k:Int)))=st.getD (st.length-1-k) 0
theorem vw_size{s:ByteArray}{t:Tok}(h:0≤t.frm∧t.frm≤t.to∧t.to≤s.size):((sub s t.frm t.to).size:Int)=t.to-t.frm:=by
 show ((s.extract t.frm.toNat t.to.toNat).size:Int) = _
 rw [ByteArray.size_extract]
 omega
theorem vw_byte{s:ByteArray}{t:Tok}(h:0≤t.frm∧t.frm≤t.to∧t.to≤s.size)(h1:t.to-t.frm=1):byteI (sub s t.frm t.to) 0=byteI s t.frm:=by
 rw [byteI_sub s t.frm t.to 0 h.1 h.2.1 h.2.2 (Int.le_refl _) (by omega),Int.add_zero]
theorem stI_set{s:ByteArray}{T:List Tok}{x:NsS}{st:List Int}(h:StI s T x st)(P:List Int):StI s T ⟨P,x.O,x.n,x.m⟩ st:=⟨h.n,h.le,h.ol,h.at_⟩
theorem nestGo_yes{s:ByteArray}{T:List Tok}{f:Nat}{x y:NsS}{i a:Int}(h:nestStep s T x i=(y,0,a)):nestGo s T (f+1) x i=nestGo s T f y (i+1):=by
 rw [nestGo,h]
 rfl
theorem nestGo_no{s:ByteArray}{T:List Tok}{f:Nat}{x y:NsS}{i e a:Int}(h:nestStep s T x i=(y,e,a))(he:¬ e=0):nestGo s T (f+1) x i=([],0,e,a):=by
 rw [nestGo,h,if_neg he]
theorem nestGo_stk(s:ByteArray)(T:List Tok)(hT:∀ t∈T,0≤t.frm∧t.frm≤t.to∧t.to≤s.size):∀ (f:Nat) (x:NsS) (i:Nat) (st:List Int),i+f=T.length→StI s T x st→(nestGo s T f x i).2.2.1=stk ((T.map (vw s)).drop i) st
 |0,x,i,st,hi,h=>by
  have e:(T.map (vw s)).drop i=[]:=List.drop_eq_nil_of_le (by rw [List.length_map];omega)
  rw [e]
  unfold nestGo stk
  have hn:=h.n
  match st,hn with
  |[],hn=>
   rw [if_neg (by rw [hn];simp),if_pos rfl]
  |b::st,hn=>
   rw [List.length_cons] at hn
   rw [if_pos (by omega),if_neg (by simp)]
 |f+1,x,i,st,hi,h=>by
  have hl:i<T.length:=by omega
  have e:(T.map (vw s)).drop i=vw s (getI tokR.dflt T (i:Int))::(T.map (vw s)).drop (i+1):=by
   rw [List.drop_eq_getElem_cons (by rw [List.length_map];exact hl),List.getElem_map]
   congr 2
   unfold getI
   rw [Int.toNat_natCast,List.getD_eq_getElem?_getD,List.getElem?_eq_getElem hl]
   rfl
  have hm:=hT _ (getI_mem tokR.dflt T (i:Int) (by omega) (by omega))
  have hz:=vw_size hm
  have hcast:(i:Int)+1=((i+1:Nat):Int):=by omega
  have ih:∀ (y:NsS) (a:Int) (st':List Int),nestStep s T x i=(y,0,a)→StI s T y st'→(nestGo s T (f+1) x i).2.2.1=stk ((T.map (vw s)).drop (i+1)) st':=fun y a st' h1 hy=>by
   rw [nestGo_yes h1,hcast]
   exact nestGo_stk s T hT f y (i+1) st' (by omega) hy
  rw [e]
  unfold vw
  generalize hR:(T.map (fun t=>(t.kind,sub s t.frm t.to))).drop (i+1)=R
  have hR':(T.map (vw s)).drop (i+1)=R:=hR
  rw [hR'] at ih
  by_cases c1:¬ (getI tokR.dflt T (i:Int)).kind=8∨¬ (getI tokR.dflt T (i:Int)).to-(getI tokR.dflt T (i:Int)).frm=1
  ·rw [stk,if_pos (by rcases c1 with c1|c1;exact .inl c1;exact .inr (by omega))]
   refine ih _ _ _ (by unfold nestStep frmT;rw [if_pos c1]) (stI_set h _)
  have c1':¬ (¬ (getI tokR.dflt T (i:Int)).kind=8∨¬ (sub s (getI tokR.dflt T (i:Int)).frm (getI tokR.dflt T (i:Int)).to).size=1):=by
   intro q
   apply c1
   rcases q with q|q
   ·exact .inl q
   ·exact .inr (by omega)
  have hb:=vw_byte hm (by omega)
  rw [stk,if_neg c1',hb]
  by_cases c2:¬ partF (byteI s (getI tokR.dflt T (i:Int)).frm)=0
  ·rw [if_pos c2]
   have hn:=h.n
   by_cases c3:x.n=100
   ·rw [if_pos (by omega)]
    have h1:nestStep s T x i=(x,6,(getI tokR.dflt T (i:Int)).frm):=by unfold nestStep frmT;rw [if_neg c1,if_pos c2,if_pos c3]
    rw [nestGo_no h1 (by decide)]
   ·have hle:=h.le
    rw [if_neg (by omega)]
    refine ih _ _ _ (by unfold nestStep frmT;rw [if_neg c1,if_pos c2,if_neg c3]) ⟨by simp only [List.length_cons];omega,by simp only [List.length_cons];omega,by simp only [List.length_set];exact h.ol,?_⟩
    intro k hk
    simp only [List.length_cons] at hk ⊢
    have hol:=h.ol
    by_cases ck:k=st.length
    ·have e1:getI (intR .i64).dflt (x.O.set x.n.toNat (i:Int)) (k:Int)=(i:Int):=by
      unfold getI
      rw [List.getD_eq_getElem?_getD,show ((k:Nat):Int).toNat=x.n.toNat by omega,List.getElem?_set_self (by omega)]
      rfl
     rw [e1,ck,show st.length+1-1-st.length=0 by omega]
     rfl
    ·have e1:getI (intR .i64).dflt (x.O.set x.n.toNat (i:Int)) (k:Int)=getI (intR .i64).dflt x.O (k:Int):=by
      unfold getI
      rw [List.getD_eq_getElem?_getD,List.getD_eq_getElem?_getD,List.getElem?_set_ne (by omega)]
     rw [e1]
     have h4:=h.at_ k (by omega)
     rw [h4,show st.length+1-1-k=(st.length-1-k)+1 by omega]
     rfl
  rw [if_neg c2]
  by_cases c3:byteI s (getI tokR.dflt T (i:Int)).frm=41∨byteI s (getI tokR.dflt T (i:Int)).frm=93∨byteI s (getI tokR.dflt T (i:Int)).frm=125
  ·rw [if_pos c3]
   have hn:=h.n
   match st,h,hn,ih with
   |[],h,hn,ih=>
    rw [List.length_nil] at hn
    rw [if_pos rfl]
    have h1:nestStep s T x i=(x,5,(getI tokR.dflt T (i:Int)).frm):=by unfold nestStep frmT;rw [if_neg c1,if_neg c2,if_pos c3,if_pos (.inl (by omega))]
    rw [nestGo_no h1 (by decide)]
   |b::st',h,hn,ih=>
    rw [List.length_cons] at hn
    have h4:=h.at_ st'.length (by rw [List.length_cons];omega)
    rw [List.length_cons,show st'.length+1-1-st'.length=0 by omega] at h4
    have h5:byteI s (frmT T (getI (intR .i64).dflt x.O (x.n-1)))=b:=by
     rw [show x.n-1=(st'.length:Int) by omega]
     exact h4
    rw [if_neg (by simp)]
    by_cases c4:partF b=byteI s (getI tokR.dflt T (i:Int)).frm
    ·rw [if_pos (show partF ((b::st').headD 0) = _ from c4)]
     have hle:=h.le
     rw [List.length_cons] at hle
     refine ih ⟨((x.P.set (i:Int).toNat (-1)).set (i:Int).toNat (getI (intR .i64).dflt x.O (x.n-1))).set (getI (intR .i64).dflt x.O (x.n-1)).toNat (i:Int),x.O,x.n-1,x.m⟩ 0 st' (by
      unfold nestStep
      rw [if_neg c1,if_neg c2,if_pos c3,if_neg (by rw [h5];rintro (q|q);omega;exact q c4)]) ⟨by dsimp only;omega,by omega,h.ol,?_⟩
     intro k hk
     have h6:=h.at_ k (by rw [List.length_cons];omega)
     rw [h6,List.length_cons,show st'.length+1-1-k=(st'.length-1-k)+1 by omega]
     rfl
    ·rw [if_neg (show ¬ partF ((b::st').headD 0) = _ from c4)]
     have h1:nestStep s T x i=(x,5,(getI tokR.dflt T (i:Int)).frm):=by
      unfold nestStep
      rw [if_neg c1,if_neg c2,if_pos c3,if_pos (by rw [h5];exact .inr c4)]
     rw [nestGo_no h1 (by decide)]
  ·rw [if_neg c3]
   exact ih _ _ _ (by unfold nestStep;rw [if_neg c1,if_neg c2,if_neg c3]) (stI_set h _)
theorem nest_of{s:ByteArray}{T:List Tok}(h:semF s=(T,0,0)):nestE s=stk (T.map (vw s)) []∧(nestE s=0→nestA s=0∧nestT s=T):=by
 have hok:=semF_ok s
 rw [h] at hok
 have key:=nestGo_stk s T hok.1 T.length ⟨List.replicate T.length (intR .i64).dflt,List.replicate 100 (intR .i64).dflt,0,0⟩ 0 [] (by omega) ⟨rfl,by decide,by simp,fun k hk=>absurd hk (Nat.not_lt_zero _)⟩
 rw [List.drop_zero] at key
 have e1:nestE s=(nestL s T).2.2.1:=by
  unfold nestE nestF
  rw [h]
  dsimp only
  rw [if_pos ⟨rfl,rfl⟩]
  split
  ·rfl
  ·rfl
 refine⟨e1.trans key,fun h0=>?_⟩
 rw [e1] at h0
 have hz:=nestGo_z s T T.length ⟨List.replicate T.length (intR .i64).dflt,List.replicate 100 (intR .i64).dflt,0,0⟩ 0 h0
 unfold nestA nestT nestF
 rw [h]
 dsimp only
 rw [if_pos ⟨rfl,rfl⟩,if_pos h0]
 exact⟨hz,rfl⟩
def At(I:In):Int→List (Int×ByteArray)→Prop
 |n,[]=>n=I.L
 |n,x::r=>((0≤n∧n<I.L)∧kindT I n=x.1∧word I n=if x.1=9 then (⟨#[59]⟩:ByteArray) else if x.1=8∨x.1=2 then x.2 else ⟨#[]⟩)∧At I (n+1) r
theorem at_of(s:ByteArray)(T:List Tok)(p:List Int):∀ (k n:Nat),n+k=T.length→At ⟨s,T,p⟩ n ((T.map (vw s)).drop n)
 |0,n,h=>by
  rw [List.drop_eq_nil_of_le (by rw [List.length_map];omega)]
  show (n:Int)=(T.length:Int)
  omega
 |k+1,n,h=>by
  have hl:n<T.length:=by omega
  have e:(T.map (vw s)).drop n=vw s (getI tokR.dflt T (n:Int))::(T.map (vw s)).drop (n+1):=by
   rw [List.drop_eq_getElem_cons (by rw [List.length_map];exact hl),List.getElem_map]
   congr 2
   unfold getI
   rw [Int.toNat_natCast,List.getD_eq_getElem?_getD,List.getElem?_eq_getElem hl]
   rfl
  rw [e]
  have hL:(⟨s,T,p⟩:In).L=T.length:=rfl
  refine⟨⟨⟨by omega,by rw [hL];omega⟩,?_,?_⟩,?_⟩
  ·unfold kindT
   rw [if_neg (by rw [hL];omega)]
   rfl
  ·unfold word
   rw [if_neg (by rw [hL];omega)]
   unfold vw
   dsimp only
  ·rw [show (n:Int)+1=((n+1:Nat):Int) by omega]
   exact at_of s T p k (n+1) (by omega)
theorem At.le{I:In}:∀ {V:List (Int×ByteArray)} {n:Int},At I n V→I.L=n+V.length
 |[],n,h=>by
  have h':n=I.L:=h
  simp only [List.length_nil]
  omega
 |x::r,n,h=>by
  have h1:=At.le h.2
  simp only [List.length_cons]
  omega
end Go.Ex
