/-
  Top: TopDeep: whatever the input, the law answers true (part 23)
-/
import Derived.Test.YtpjdgifhhnjclaaGreatDoorM22
set_option linter.unusedVariables false
set_option linter.unusedSimpArgs false
set_option maxHeartbeats 4000000
set_option maxRecDepth 10000
namespace Go.Ex
open Go.Proofs
theorem get_byte(s:ByteArray)(p:Nat):((s.get! p).toNat:Int)=byteI s p:=by
 unfold byteI
 rw [Int.toNat_natCast,List.getD_eq_getElem?_getD,Array.getElem?_toList]
 show ((s.data[p]!).toNat:Int) = _
 rw [getElem!_def]
 cases s.data[p]?<;>rfl
theorem decode_ascii(s:ByteArray)(p:Nat)(h:(Utf8.decode s p).1<128):byteI s p=(Utf8.decode s p).1∧(Utf8.decode s p).2=1:=by
 rw [←get_byte]
 rw [Lib.decode_at] at h ⊢
 generalize (s.get! p).toNat=b at h ⊢
 have key:∀ n b1 b2 b3,(Lib.decodeN n b b1 b2 b3).1<128→b<128:=fun n b1 b2 b3 h=>by
  rcases Nat.lt_or_ge b 128 with h0|h0
  ·exact h0
  ·exfalso
   unfold Lib.decodeN at h
   rw [if_neg (by omega)] at h
   revert h
   repeat' split
   all_goals (intro h;dsimp only at h;omega)
 have h0:=key _ _ _ _ h
 unfold Lib.decodeN
 rw [if_pos h0]
 exact⟨rfl,rfl⟩
theorem readF_w(s:ByteArray)(a:Int)(h:¬ (readF s a).1=0):1≤(readF s a).2:=by
 unfold readF at h ⊢
 split
 ·rename_i h1;rw [if_pos h1] at h;exact absurd rfl h
 ·rename_i h1
  rw [if_neg h1] at h
  split
  ·rename_i h2;rw [if_pos h2] at h;exact absurd rfl h
  ·have:=width_pos s a.toNat
   dsimp only
   omega
theorem readF_dec(s:ByteArray)(a:Int)(h:¬ (readF s a).1=0):(0≤a∧a<s.size)∧readF s a=(((Utf8.decode s a.toNat).1:Int),((Utf8.decode s a.toNat).2:Int)):=by
 unfold readF at h ⊢
 split
 ·rename_i h1;rw [if_pos h1] at h;exact absurd rfl h
 ·rename_i h1
  rw [if_neg h1] at h
  split
  ·rename_i h2;rw [if_pos h2] at h;exact absurd rfl h
  ·exact⟨by omega,rfl⟩
theorem readF_ascii(s:ByteArray)(a:Int)(h:¬ (readF s a).1=0)(h1:(readF s a).1<128):byteI s a=(readF s a).1∧(readF s a).2=1:=by
 obtain⟨h2,h3⟩:=readF_dec s a h
 rw [h3] at h1 ⊢
 dsimp only at h1 ⊢
 have:=decode_ascii s a.toNat (by omega)
 rw [show ((a.toNat:Nat):Int)=a from Int.toNat_of_nonneg h2.1] at this
 exact⟨this.1,by rw [this.2];rfl⟩
theorem sub_list(s:ByteArray)(a:Int)(ha:0≤a∧a≤s.size):(sub s a s.size).data.toList=s.data.toList.drop a.toNat:=by
 show (s.extract a.toNat (s.size:Int).toNat).data.toList = _
 rw [Int.toNat_natCast]
 exact Lib.extract_to_end s a.toNat
theorem byteI_at(s:ByteArray)(a:Int)(ha:0≤a∧a<s.size):∃ c:UInt8,s.data.toList[a.toNat]?=some c∧byteI s a=(c.toNat:Int):=by
 have hl:a.toNat<s.data.toList.length:=by
  have:s.data.toList.length=s.size:=(Lib.size_eq s).symm
  omega
 refine⟨s.data.toList[a.toNat],List.getElem?_eq_getElem hl,?_⟩
 unfold byteI
 rw [List.getD_eq_getElem?_getD,List.getElem?_eq_getElem hl]
 rfl
theorem sub_head(s:ByteArray)(a:Int)(ha:0≤a∧a<s.size):∃ (c:UInt8) (r:List UInt8),(sub s a s.size).data.toList=c::r∧byteI s a=(c.toNat:Int):=by
 obtain⟨c,h1,h2⟩:=byteI_at s a ha
 rw [sub_list s a (by omega)]
 obtain⟨hl,he⟩:=List.getElem?_eq_some_iff.1 h1
 exact⟨c,_,by rw [List.drop_eq_getElem_cons hl,he],h2⟩
theorem trimF_less(s:ByteArray)(a:Int)(ha:0≤a∧a<s.size)(h:BlankP (byteI s a)):(trimF (sub s a s.size)).size<(sub s a s.size).size:=by
 obtain⟨c,r,h1,h2⟩:=sub_head s a ha
 unfold trimF Lib.trimLeftS
 show (List.dropWhile _ (sub s a s.size).data.toList).toArray.size<(sub s a s.size).data.size
 have hz:(sub s a s.size).data.size=r.length+1:=by rw [←Array.length_toList,h1,List.length_cons]
 rw [hz,h1]
 have hc:blankT.data.toList.contains c=true:=by
  unfold BlankP at h
  rw [h2] at h
  have e1:(32:UInt8).toNat=32:=rfl
  have e2:(9:UInt8).toNat=9:=rfl
  have e3:(13:UInt8).toNat=13:=rfl
  have e4:(10:UInt8).toNat=10:=rfl
  have:c=32∨c=9∨c=13∨c=10:=by
   rcases h with h|h|h|h
   ·exact .inl (UInt8.toNat_inj.1 (by omega))
   ·exact .inr (.inl (UInt8.toNat_inj.1 (by omega)))
   ·exact .inr (.inr (.inr (UInt8.toNat_inj.1 (by omega))))
   ·exact .inr (.inr (.inl (UInt8.toNat_inj.1 (by omega))))
  rcases this with rfl|rfl|rfl|rfl<;>decide
 rw [List.dropWhile_cons,if_pos hc,List.size_toArray]
 exact Nat.lt_succ_of_le (List.IsSuffix.length_le (List.dropWhile_suffix _))
theorem HasP.head{s p:ByteArray}(h:HasP s p):∃ r,s.data.toList=p.data.toList++r:=by
 obtain⟨h1,h2⟩:=h
 refine⟨s.data.toList.drop p.size,?_⟩
 have:p.data.toList=s.data.toList.take p.size:=by
  rw [←h2]
  show (s.extract (0:Int).toNat (p.size:Int).toNat).data.toList = _
  simp [ByteArray.data_extract,Array.toList_extract]
 rw [this,List.take_append_drop]
theorem sgn_pos(s:ByteArray)(a to:Int)(ha:0≤a∧a<s.size)(h0:a≤to)(hk:¬ kindF (sub s a to)=0):a<to:=by
 rcases Int.lt_or_eq_of_le h0 with h|h
 ·exact h
 ·subst h
  exfalso
  apply hk
  have e:sub s a a=⟨#[]⟩:=ByteArray.ext (Array.eq_empty_of_size_eq_zero (by show (s.extract a.toNat a.toNat).size=0;rw [ByteArray.size_extract];omega))
  rw [e]
  decide
theorem kindF_rng(s:ByteArray):kindF s=0∨(3≤kindF s∧kindF s≤5):=by
 have hw:∀ t b,wholeF t b=0∨wholeF t b=3:=fun t b=>by unfold wholeF;split<;>simp
 have he:∀ t n k l,endF t n k l=0∨endF t n k l=4:=fun t n k l=>by unfold endF;split<;>simp
 have ht:∀ t,tenF t=0∨3≤tenF t∧tenF t≤4:=fun t=>by
  unfold tenF
  have h1:=hw (sub t 1 t.size) 8
  repeat' split
  all_goals first|omega|(rcases he t (rowF t 10) (rowF (sub t (rowF t 10+1) t.size) 10+1) eE with h|h<;>omega)|(rcases he t (rowF t 10) 0 eE with h|h<;>omega)
 have hs:∀ t,sixteenF t=0∨3≤sixteenF t∧sixteenF t≤4:=fun t=>by
  unfold sixteenF
  repeat' split
  all_goals omega
 have hr:∀ t,realF t=0∨3≤realF t∧realF t≤4:=fun t=>by
  unfold realF
  have h1:=hw (sub t 2 t.size) 2
  have h2:=hw (sub t 2 t.size) 8
  have h3:=hs (sub t 2 t.size)
  have h4:=ht t
  repeat' split
  all_goals omega
 unfold kindF
 have:=hr s
 repeat' split
 all_goals omega
theorem idxB_head(s:ByteArray)(c:UInt8)(r:List UInt8)(h:s.data.toList=c::r)(k:Int)(hk:0≤k∧k<256)(hne:¬ (c.toNat:Int)=k):¬ idxB s k=0:=fun e=>by
 have h1:=(Lib.indexByte_some (l:=s.data.toList) (c:=k.toNat.toUInt8) (o:=0) (by unfold idxB at e;exact e)).1
 rw [h] at h1
 simp only [List.getElem?_cons_zero,Option.some.injEq] at h1
 apply hne
 rw [h1]
 have:(k.toNat.toUInt8).toNat=k.toNat:=by
  rw [Nat.toUInt8_eq,UInt8.toNat_ofNat']
  exact Nat.mod_eq_of_lt (by omega)
 rw [this]
 omega
theorem ext_all(s:ByteArray):s.extract 0 s.size=s:=ByteArray.ext (by rw [ByteArray.data_extract];show s.data.extract 0 s.data.size=s.data;simp)
theorem decode_sub(s:ByteArray)(a:Int)(ha:0≤a∧a<s.size):Utf8.decode (sub s a s.size) 0=Utf8.decode s a.toNat:=by
 have h1:=decode_ext s a.toNat (by omega)
 have h2:=decode_ext (sub s a s.size) 0 (by have:=sub_size s a s.size (by omega) (by omega) (by omega);omega)
 have e:(sub s a s.size).extract 0 (sub s a s.size).size=s.extract a.toNat s.size:=by
  rw [ext_all]
  show s.extract a.toNat (s.size:Int).toNat = _
  rw [Int.toNat_natCast]
 rw [←h2,←h1,e]
theorem letter0:¬ LetterF 0=true:=by decide
attribute [local irreducible] LetterF DigitP
theorem wordT_pos(s:ByteArray)(a:Int)(ha:0≤a∧a<s.size)(h0:¬ (readF s a).1=0)(hl:LetterF (readF s a).1=true):a<wordT s a∧wordT s a≤s.size:=by
 obtain⟨_,h1⟩:=readF_dec s a h0
 rw [h1] at hl
 dsimp only at hl
 have hz:=sub_size s a s.size (by omega) (by omega) (by omega)
 have hr:=wordGo_rng (sub s a s.size) (sub s a s.size).size 0
 unfold wordT
 split
 ·rename_i hg
  refine⟨?_,by omega⟩
  suffices ¬ wordGo (sub s a s.size) (sub s a s.size).size 0=0 by omega
  intro e
  obtain⟨f,hf⟩:∃ f,(sub s a s.size).size=f+1:=⟨(sub s a s.size).size-1,by omega⟩
  rw [hf,wordGo,decode_sub s a ha,if_pos (by omega),if_neg (fun e=>by rw [hl] at e;exact absurd e.1 (by decide))] at e
  have hw:=width_pos s a.toNat
  have:=(wordGo_rng (sub s a s.size) f (0+(Utf8.decode s a.toNat).2)).1
  omega
 ·omega
theorem readGo_rng(s:ByteArray)(mk:Int):∀ (f:Nat) (it a e:Int),0≤a→readGo s mk f it a=some e→a<e∧e≤s.size
 |0,it,a,e,h0,h=>by simp [readGo] at h
 |f+1,it,a,e,h0,h=>by
  rw [readGo] at h
  split at h
  ·cases h
  ·split at h
   ·split at h
    ·cases h;omega
    ·cases h
   ·split at h
    ·cases h
    ·split at h
     ·cases h
     ·have hi:=itemS_rng s mk a (by omega)
      have:=readGo_rng s mk f _ _ e (by omega) h
      omega
theorem numF_rng(s:ByteArray)(a:Int)(h:¬ (numF s a).1=0):(a<(numF s a).2.1∧(numF s a).2.1≤s.size)∧(3≤(numF s a).1∧(numF s a).1≤5):=by
 unfold numF at h ⊢
 split
 ·rename_i h1;rw [if_pos h1] at h;exact absurd rfl h
 ·rename_i h1
  rw [if_neg h1] at h
  split
  ·rename_i h2
   have hb:=begs_rng (Classical.not_not.1 h1)
   have ht:=toGo_rng s a (decide (HexF s a)) s.size a (by omega)
   have hk:=kindF_rng (sub s a (numTo s a))
   dsimp only
   refine⟨⟨sgn_pos s a _ hb ht.1 h2,ht.2⟩,by omega⟩
  ·rename_i h2;rw [if_neg h2] at h;exact absurd rfl h
theorem begF_rng(s:ByteArray)(a:Int)(h:¬ (begF s a).1=0):(a<(begF s a).2.1∧(begF s a).2.1≤s.size)∧(6≤(begF s a).1∧(begF s a).1≤7):=by
 unfold begF at h ⊢
 split
 ·rename_i h1;rw [if_pos h1] at h;exact absurd rfl h
 ·rename_i h1
  rw [if_neg h1] at h
  have ha:0≤a∧a<s.size:=by omega
  have hz:=sub_size s (a+1) s.size (by omega) (by omega) (by omega)
  have hi:=idxB_rng (sub s (a+1) s.size) 96
  split
  ·rename_i h2
   rw [if_pos h2] at h
   split
   ·rename_i h3;rw [if_pos h3] at h;exact absurd rfl h
   ·dsimp only;omega
  ·rename_i h2
   rw [if_neg h2] at h
   cases hq:readS s a with
   |none=>rw [hq] at h;exact absurd rfl h
   |some e=>
    have:=readGo_rng s _ _ _ _ e (by omega) hq
    dsimp only
    split<;>(dsimp only;omega)
theorem wordF_rng(s:ByteArray)(a:Int):(wordF s a).2=wordT s a∧1≤(wordF s a).1∧(wordF s a).1≤2:=by
 unfold wordF
 split<;>simp
theorem lexK_rng(s:ByteArray)(a:Int)(ha:0≤a∧a<s.size)(h:¬ (lexK s a).1=0):(a<(lexK s a).2∧(lexK s a).2≤s.size)∧(1≤(lexK s a).1∧(lexK s a).1≤12):=by
 have hz:=sub_size s a s.size (by omega) (by omega) (by omega)
 have hrl:=readF_le s a (by omega)
 unfold lexK at h ⊢
 split
 ·rename_i h1
  have:=readF_w s a (by omega)
  dsimp only
  omega
 rename_i h1
 rw [if_neg h1] at h
 split
 ·rename_i h2
  have h20:¬ (readF s a).1=0:=by unfold BlankP at h2;omega
  have h21:=readF_ascii s a h20 (by unfold BlankP at h2;omega)
  have:=trimF_less s a ha (by rw [h21.1];exact h2)
  dsimp only
  omega
 rename_i h2
 rw [if_neg h2] at h
 split
 ·rename_i h3
  rw [if_pos h3] at h
  obtain⟨r,hr⟩:=h3.head
  have hi:=idxB_rng (sub s a s.size) 10
  have h0:=idxB_head (sub s a s.size) 47 (47::r) hr 10 (by decide) (by decide)
  split
  ·dsimp only;omega
  ·dsimp only;omega
 rename_i h3
 rw [if_neg h3] at h
 split
 ·rename_i h4
  rw [if_pos h4] at h
  have h5:=hasp2 h4
  have hi:=idx2_rng (sub (sub s a s.size) 2 (sub s a s.size).size)
  have hz2:=sub_size (sub s a s.size) 2 (sub s a s.size).size (by omega) (by omega) (by omega)
  split
  ·dsimp only;omega
  ·rename_i h6;rw [if_neg h6] at h;exact absurd rfl h
 rename_i h4
 rw [if_neg h4] at h
 split
 ·rename_i h5
  have h0:¬ (readF s a).1=0:=fun e=>by rw [e] at h5;exact letter0 h5
  have hw:=wordF_rng s a
  have:=wordT_pos s a ha h0 h5
  omega
 rename_i h5
 rw [if_neg h5] at h
 split
 ·dsimp only;omega
 rename_i h6
 rw [if_neg h6] at h
 split
 ·rename_i h7
  rw [if_pos h7] at h
  have:=numF_rng s a h
  dsimp only
  omega
 rename_i h7
 rw [if_neg h7] at h
 split
 ·rename_i h8
  rw [if_pos h8] at h
  have:=begF_rng s a h
  dsimp only
  omega
 rename_i h8
 rw [if_neg h8] at h
 have hs:=signF_rng (sub s a s.size)
 split
 ·dsimp only;omega
 ·rename_i h9;rw [if_neg h9] at h;exact absurd rfl h
end Go.Ex
namespace Go.Ex
open Go.Proofs
attribute [local irreducible] CH CsP word kindT
theorem word_lt{I:In}{n:Int}(h:¬ word I n=⟨#[]⟩):0≤n∧n<I.L:=by
 unfold word at h
 split at h
 ·exact absurd rfl h
 ·omega
theorem wlt{I:In}{n:Int}{w:ByteArray}(h:word I n=w)(hw:¬ w=⟨#[]⟩):0≤n∧n<I.L:=word_lt (by rw [h];exact hw)
theorem kind_lt{I:In}{n:Int}(h:¬ kindT I n=0):0≤n∧n<I.L:=by
 unfold kindT at h
 split at h
 ·exact absurd rfl h
 ·omega
theorem klt{I:In}{n k:Int}(h:kindT I n=k)(hw:¬ k=0):0≤n∧n<I.L:=kind_lt (by rw [h];exact hw)
section
variable {I:In}{M:Loc}{br:Nat}{t:Bool}{n:Int}{h:Heap}
theorem next_k{S:St}(ok:InOk I)(hb:Base I M S.h0 S.cap)(hs:HS S h)(hf:findC S.ch 900=some (br,rdB I M t n)):CH Tryz.prog 105 #[ptr br] h fun v h'=>v = .string (word I n)∧Grows h h':=
 next_any ok (rd_at hs hf) (hb.at1 hs hf)
theorem next_e{S:St}{w:ByteArray}(ok:InOk I)(hb:Base I M S.h0 S.cap)(hs:HS S h)(hf:findC S.ch 900=some (br,rdB I M t n))(hw:word I n=w):CH Tryz.prog 105 #[ptr br] h fun v h'=>v = .string w∧Grows h h':=by
 subst hw;exact next_k ok hb hs hf
theorem word_e{S:St}{w:ByteArray}{i:Int}(ok:InOk I)(hb:Base I M S.h0 S.cap)(hs:HS S h)(hf:findC S.ch 900=some (br,rdB I M t n))(hw:word I i=w):CH Tryz.prog 31 #[ptr br,.int .i64 i] h fun v h'=>v = .string w∧Grows h h':=by
 subst hw;exact word_k ok hb hs hf i
theorem named_k{S:St}(ok:InOk I)(hb:Base I M S.h0 S.cap)(hs:HS S h)(hf:findC S.ch 900=some (br,rdB I M t n))(i:Int):CH Tryz.prog 133 #[ptr br,.int .i64 i] h fun v h'=>v=denC (.prop (kindT I i=1))∧Grows h h':=
 named_any ok (rd_at hs hf) (hb.at1 hs hf) i
theorem quoted_k{S:St}(ok:InOk I)(hb:Base I M S.h0 S.cap)(hs:HS S h)(hf:findC S.ch 900=some (br,rdB I M t n))(i:Int):CH Tryz.prog 187 #[ptr br,.int .i64 i] h fun v h'=>v=denC (.prop (kindT I i=7))∧Grows h h':=
 quoted_tok ok (rd_at hs hf) (hb.at1 hs hf) i
theorem literal_k{S:St}(ok:InOk I)(hb:Base I M S.h0 S.cap)(hs:HS S h)(hf:findC S.ch 900=some (br,rdB I M t n))(i:Int):CH Tryz.prog 216 #[ptr br,.int .i64 i] h fun v h'=>v=denC (.prop (Lit I i))∧Grows h h':=
 literal_any ok (rd_at hs hf) (hb.at1 hs hf) i
theorem ended_k{S:St}(ok:InOk I)(hb:Base I M S.h0 S.cap)(hs:HS S h)(hf:findC S.ch 900=some (br,rdB I M t n)):CH Tryz.prog 58 #[ptr br] h fun v h'=>v=denC (.prop (n=I.L))∧Grows h h':=
 ended_any ok (rd_at hs hf) (hb.at1 hs hf)
theorem want_any(ok:InOk I)(hs:HS ⟨h,[br],rdC I M br t n⟩ h)(hB:Base I M h [br])(hn:0≤n∧n≤I.L)(w:ByteArray)(hw:¬ w=⟨#[]⟩):CsP Tryz.prog (ErrE I M br [br] h (want I w n)) 103 #[ptr br,.string w] h fun v h'=>v = .tuple #[]∧word I n=w∧HS ⟨h,[br],rdC I M br t (n+1)⟩ h':=by
 refine eP (rep:=rep) (m:=4) (ex:=[7]) (cu:=[]) (args:=[.own 900 br 0,.val (.string w)]) tO Tryz.func103 rfl (by decide) (rs:=[]) rfl rfl rfl hs ?_
 have W:=Wd.start ok hB
 have hl:=ok.len
 by_cases h1:word I n=w
 ·have hlt:=word_lt (h1▸hw)
  ((repeat' ((conv=>whnf);(first|(refine Ar.fit (by omega) ?_)|(refine VC.mk (by omega) ?_)|(refine Br.mk ?_ ?_<;>intro hb<;>(try (contradiction)))|(apply CK.pure;(case hh=>(intro h1 hs;exact next_k ok hB hs rfl)))|fail)));all_goals (try (conv=>whnf)))
  all_goals exact⟨fun h' hs=>⟨rfl,h1,hs⟩⟩
 ·((repeat' ((conv=>whnf);(first|(refine Br.mk ?_ ?_<;>intro hb<;>(try (contradiction)))|(apply CK.pure;(case hh=>(intro h1 hs;exact next_k ok hB hs rfl)))|(refine CK.fail W rfl rfl hn (by rw [want,if_neg h1]))|fail)));all_goals (try (conv=>whnf)))
theorem maybe_any(ok:InOk I)(hs:HS ⟨h,[br],rdC I M br t n⟩ h)(hB:Base I M h [br])(w:ByteArray)(hw:¬ w=⟨#[]⟩):CH Tryz.prog 57 #[ptr br,.string w] h fun v h'=>(word I n=w∧v = .bool true∧HS ⟨h,[br],rdC I M br t (n+1)⟩ h')∨(¬ word I n=w∧v = .bool false∧Grows h h'):=by
 refine eIn (rep:=rep) (m:=4) (ex:=[4,8]) (cu:=[]) (args:=[.own 900 br 0,.val (.string w)]) tO Tryz.func57 rfl (by decide) (rs:=[.tmp 4]) rfl rfl rfl hs ?_
 have hs0:=hs
 have hl:=ok.len
 by_cases h1:word I n=w
 ·have hlt:=word_lt (h1▸hw)
  ((repeat' ((conv=>whnf);(first|(refine Ar.fit (by omega) ?_)|(refine VC.mk (by omega) ?_)|(refine Br.mk ?_ ?_<;>intro hb<;>(try (contradiction)))|(apply CK.pure;(case hh=>(intro h1 hs;exact next_k ok hB hs rfl)))|fail)));all_goals (try (conv=>whnf)))
  all_goals exact⟨fun h' hs=>.inl ⟨h1,rfl,hs⟩⟩
 ·((repeat' ((conv=>whnf);(first|(refine Br.mk ?_ ?_<;>intro hb<;>(try (contradiction)))|(apply CK.pure;(case hh=>(intro h1 hs;exact next_k ok hB hs rfl)))|fail)));all_goals (try (conv=>whnf)))
  all_goals exact⟨fun h' hs=>.inr ⟨h1,rfl,hs0.gB hs rfl⟩⟩
def nodeB(k w f to:Int)(l:KV):Chunk:=.box 69 [.val (.int .u8 k),.val (.int .i64 w),.val (.int .i64 f),.val (.int .i64 to),l]
abbrev nilS:KV:=.val (.slice none 0 0)
theorem open_any(hs:HS ⟨h,[br],rdC I M br t n⟩ h)(k:Int):CH Tryz.prog 102 #[ptr br,.int .u8 k] h fun v h'=>∃ b,v=ptr b∧(h.size≤b∧b<h'.size)∧Grows h h'∧ChunkAt h' b (nodeB k (-1) n 0 nilS):=by
 refine eIn (rep:=rep) (m:=4) (ex:=[4]) (cu:=[]) (args:=[.own 900 br 0,.val (.int .u8 k)]) tO Tryz.func102 rfl (by decide) (rs:=[.tmp 4]) rfl rfl rfl hs ?_
 have hs0:=hs
 ((repeat' ((conv=>whnf);(first|(refine VC.mk (by omega) ?_)|(refine New.mk ?_;intro b hb)|fail)));all_goals (try (conv=>whnf)))
 exact⟨fun h' hs=>⟨b,rfl,⟨hb,(hs.chunk _ (List.mem_cons_self)).1⟩,hs0.gB hs rfl,(hs.chunk _ (List.mem_cons_self)).2.2⟩⟩
theorem tree_leaf{lo:Nat}{cap:List Nat}{b:Nat}{k w f to:Int}(h1:lo≤b∧b<h.size∧b∉cap)(hc:ChunkAt h b (nodeB k w f to nilS)):TrI lo h cap (some ⟨b,0,none⟩) (.mk k w f to []):=by
 simp only [TrI,TsI]
 exact⟨b,none,0,0,[],rfl,h1,hc,⟨Sl.nil _ _ _,fun h0=>absurd h0 (Nat.lt_irrefl 0)⟩,fun a h0=>absurd h0 (Nat.lt_irrefl 0),rfl⟩
theorem wf_leaf{k w f to:Int}(hk:leK k=0):Wf (.mk k w f to []):=by
 simp only [Wf,WfL,hk,List.length_nil];exact⟨Nat.le_refl _,trivial⟩
theorem HS.keepB{h h':Heap}(hs:HS ⟨h,[br],rdC I M br t n⟩ h)(hg:Grows h h'):HS ⟨h,[br],rdC I M br t n⟩ h':=hs.later hg
theorem none_con(k:Int)(hk:leK k=0)(hn:0≤n∧n≤I.L):Con I M 143 [.int .u8 k] (.ok (noneN k n) n) t n 0:=fun br h hs hB=>by
 refine eP (rep:=rep) (m:=4) (ex:=[4]) (cu:=[]) (args:=[.own 900 br 0,.val (.int .u8 k)]) tO Tryz.func143 rfl (by decide) (rs:=[.tmp 4]) rfl rfl rfl hs ?_
 have hs0:=hs
 (try (conv=>whnf))
 all_goals ((refine dW (id:=1) tO mixed (.pull 0 [9,10,11] (.pull 1 [2,3,4,9,10,11] (.pull 2 [3,4,9,10,11] (.pull 3 [4,9,10,11] (.pull 5 [6,7,8,9,10,11] (.pull 6 [7,8,9,10,11] (.pull 7 [8,9,10,11] (.pull 4 [9,10,11] (.pull 8 [9,10,11] (.pull 9 [10,11] (.one 10 (.pull 11 [] .done)))))))))))) (by kernel_rfl) (by kernel_rfl) ?_))
 ((repeat' ((conv=>whnf);(first|(refine VC.mk (by omega) ?_)|(refine New.mk ?_;intro b hb)|fail)));all_goals (try (conv=>whnf)))
 all_goals exact⟨fun h' hs=>⟨_,_,_,rfl,⟨by omega,hn.2⟩,wf_leaf hk,rfl,hs.ren [900] ⟨⟨_,rfl,SC.rfl⟩,rfl,trivial⟩,tree_leaf ⟨by assumption,(hs.chunk _ (List.mem_cons_self)).1,fun hm=>hs.ne (k:=15) (k':=900) rfl rfl (by decide) (List.mem_singleton.1 hm)⟩ (hs.chunk _ (List.mem_cons_self)).2.2⟩⟩
theorem name_con(ok:InOk I)(hn:0≤n∧n≤I.L):Con I M 104 [] (nameS I n) t n 1:=fun br h hs hB=>by
 refine eP (rep:=rep) (m:=4) (ex:=[2]) (cu:=[]) (args:=[.own 900 br 0]) tO Tryz.func104 rfl (by decide) (rs:=[.tmp 2]) rfl rfl rfl hs ?_
 have hs0:=hs
 have W:=Wd.start ok hB
 have hl:=ok.len
 by_cases h1:kindT I n=1
 ·have hlt:=kind_lt (I:=I) (n:=n) (by rw [h1];decide)
  ((repeat' ((conv=>whnf);(first|(refine Ar.fit (by omega) ?_)|(refine VC.mk (by omega) ?_)|(refine Br.mk ?_ ?_<;>intro hb<;>(try (exfalso;omega)))|(refine CK.says (.prop _) (fun h1 hs=>named_k ok hB hs rfl _) ?_)|(refine CK.inline (rep:=rep) tO Tryz.func145 rfl (by decide) (rs:=[.tmp 6]) rfl 4 [6,8] [] rfl rfl rfl ?_)|fail)));all_goals (try (conv=>whnf)))
  all_goals ((refine dW (id:=4) tO mixed (.pull 0 [15,16,17] (.pull 1 [2,3,4,5,15,16,17] (.pull 2 [3,4,5,15,16,17] (.pull 3 [4,5,15,16,17] (.pull 6 [7,8,9,10,15,16,17] (.pull 7 [8,9,10,15,16,17] (.pull 8 [9,10,15,16,17] (.pull 11 [12,13,14,15,16,17] (.pull 12 [13,14,15,16,17] (.pull 13 [14,15,16,17] (.tri 4 9 14 (.pull 5 [15,16,17] (.pull 9 [10,15,16,17] (.pull 10 [15,16,17] (.pull 14 [15,16,17] (.pull 15 [16,17] (.one 16 (.pull 17 [] .done))))))) (.pull 10 [15,16,17] (.pull 4 [5,15,16,17] (.pull 5 [15,16,17] (.pull 14 [15,16,17] (.pull 15 [16,17] (.one 16 (.pull 17 [] .done))))))) (.br 4 9 (.pull 5 [15,16,17] (.pull 9 [10,15,16,17] (.pull 10 [15,16,17] (.pull 15 [16,17] (.one 16 (.pull 17 [] .done)))))) (.pull 10 [15,16,17] (.pull 4 [5,15,16,17] (.pull 5 [15,16,17] (.pull 15 [16,17] (.one 16 (.pull 17 [] .done)))))))))))))))))) (by kernel_rfl) (by kernel_rfl) ?_))
  ((repeat' ((conv=>whnf);(first|(refine Ar.fit (by omega) ?_)|(refine VC.mk (by omega) ?_)|(refine New.mk ?_;intro b hb)|(refine Two.mk ?_ ?_)|(refine Tri.mk ?_ ?_ ?_)|fail)));all_goals (try (conv=>whnf)))
  all_goals exact⟨fun h' hs=>⟨leafN 26 n,n+1,some ⟨_,0,none⟩,by rw [nameS,if_pos h1],⟨by omega,by omega⟩,wf_leaf rfl,rfl,hs.ren [900] ⟨⟨_,rfl,SC.rfl⟩,rfl,trivial⟩,tree_leaf ⟨by assumption,(hs.chunk _ (List.mem_cons_self)).1,fun hm=>hs.ne (k:=34) (k':=900) rfl rfl (by decide) (List.mem_singleton.1 hm)⟩ (by
   have:=(hs.chunk _ (List.mem_cons_self)).2.2
   simp only [Int.add_sub_cancel] at this
   exact this)⟩⟩
 ·((repeat' ((conv=>whnf);(first|(refine VC.mk (by omega) ?_)|(refine Br.mk ?_ ?_<;>intro hb<;>(try (exfalso;omega)))|(refine CK.says (.prop _) (fun h1 hs=>named_k ok hB hs rfl _) ?_)|(refine CK.inline (rep:=rep) tO Tryz.func145 rfl (by decide) (rs:=[.tmp 6]) rfl 4 [6,8] [] rfl rfl rfl ?_)|(refine CK.fail W rfl rfl hn (by rw [nameS,if_neg h1]))|fail)));all_goals (try (conv=>whnf)))
theorem str_con(ok:InOk I)(hn:0≤n∧n≤I.L):Con I M 175 [] (strS I n) t n 1:=fun br h hs hB=>by
 refine eP (rep:=rep) (m:=4) (ex:=[2]) (cu:=[]) (args:=[.own 900 br 0]) tO Tryz.func175 rfl (by decide) (rs:=[.tmp 2]) rfl rfl rfl hs ?_
 have hs0:=hs
 have W:=Wd.start ok hB
 have hl:=ok.len
 by_cases h1:kindT I n=7
 ·have hlt:=kind_lt (I:=I) (n:=n) (by rw [h1];decide)
  ((repeat' ((conv=>whnf);(first|(refine Ar.fit (by omega) ?_)|(refine VC.mk (by omega) ?_)|(refine Br.mk ?_ ?_<;>intro hb<;>(try (exfalso;omega)))|(refine CK.says (.prop _) (fun h1 hs=>quoted_k ok hB hs rfl _) ?_)|(refine CK.inline (rep:=rep) tO Tryz.func145 rfl (by decide) (rs:=[.tmp 6]) rfl 4 [6,8] [] rfl rfl rfl ?_)|fail)));all_goals (try (conv=>whnf)))
  all_goals ((refine dW (id:=4) tO mixed (.pull 0 [15,16,17] (.pull 1 [2,3,4,5,15,16,17] (.pull 2 [3,4,5,15,16,17] (.pull 3 [4,5,15,16,17] (.pull 6 [7,8,9,10,15,16,17] (.pull 7 [8,9,10,15,16,17] (.pull 8 [9,10,15,16,17] (.pull 11 [12,13,14,15,16,17] (.pull 12 [13,14,15,16,17] (.pull 13 [14,15,16,17] (.tri 4 9 14 (.pull 5 [15,16,17] (.pull 9 [10,15,16,17] (.pull 10 [15,16,17] (.pull 14 [15,16,17] (.pull 15 [16,17] (.one 16 (.pull 17 [] .done))))))) (.pull 10 [15,16,17] (.pull 4 [5,15,16,17] (.pull 5 [15,16,17] (.pull 14 [15,16,17] (.pull 15 [16,17] (.one 16 (.pull 17 [] .done))))))) (.br 4 9 (.pull 5 [15,16,17] (.pull 9 [10,15,16,17] (.pull 10 [15,16,17] (.pull 15 [16,17] (.one 16 (.pull 17 [] .done)))))) (.pull 10 [15,16,17] (.pull 4 [5,15,16,17] (.pull 5 [15,16,17] (.pull 15 [16,17] (.one 16 (.pull 17 [] .done)))))))))))))))))) (by kernel_rfl) (by kernel_rfl) ?_))
  ((repeat' ((conv=>whnf);(first|(refine Ar.fit (by omega) ?_)|(refine VC.mk (by omega) ?_)|(refine New.mk ?_;intro b hb)|(refine Two.mk ?_ ?_)|(refine Tri.mk ?_ ?_ ?_)|fail)));all_goals (try (conv=>whnf)))
  all_goals exact⟨fun h' hs=>⟨leafN 27 n,n+1,some ⟨_,0,none⟩,by rw [strS,if_pos h1],⟨by omega,by omega⟩,wf_leaf rfl,rfl,hs.ren [900] ⟨⟨_,rfl,SC.rfl⟩,rfl,trivial⟩,tree_leaf ⟨by assumption,(hs.chunk _ (List.mem_cons_self)).1,fun hm=>hs.ne (k:=34) (k':=900) rfl rfl (by decide) (List.mem_singleton.1 hm)⟩ (by
   have:=(hs.chunk _ (List.mem_cons_self)).2.2
   simp only [Int.add_sub_cancel] at this
   exact this)⟩⟩
 ·((repeat' ((conv=>whnf);(first|(refine VC.mk (by omega) ?_)|(refine Br.mk ?_ ?_<;>intro hb<;>(try (exfalso;omega)))|(refine CK.says (.prop _) (fun h1 hs=>quoted_k ok hB hs rfl _) ?_)|(refine CK.inline (rep:=rep) tO Tryz.func145 rfl (by decide) (rs:=[.tmp 6]) rfl 4 [6,8] [] rfl rfl rfl ?_)|(refine CK.fail W rfl rfl hn (by rw [strS,if_neg h1]))|fail)));all_goals (try (conv=>whnf)))
theorem lit_con(ok:InOk I)(hn:0≤n∧n<I.L):Con I M 145 [.int .u8 27,.bool true] (.ok (leafN 27 n) (n+1)) t n 1:=fun br h hs hB=>by
 refine eP (rep:=rep) (m:=4) (ex:=[6,8]) (cu:=[]) (args:=[.own 900 br 0,.val (.int .u8 27),.val (.bool true)]) tO Tryz.func145 rfl (by decide) (rs:=[.tmp 6]) rfl rfl rfl hs ?_
 have hs0:=hs
 have hl:=ok.len
 ((repeat' ((conv=>whnf);(first|(refine Ar.fit (by omega) ?_)|(refine VC.mk (by omega) ?_)|fail)));all_goals (try (conv=>whnf)))
 all_goals ((refine dW (id:=4) tO mixed (.pull 0 [15,16,17] (.pull 1 [2,3,4,5,15,16,17] (.pull 2 [3,4,5,15,16,17] (.pull 3 [4,5,15,16,17] (.pull 6 [7,8,9,10,15,16,17] (.pull 7 [8,9,10,15,16,17] (.pull 8 [9,10,15,16,17] (.pull 11 [12,13,14,15,16,17] (.pull 12 [13,14,15,16,17] (.pull 13 [14,15,16,17] (.tri 4 9 14 (.pull 5 [15,16,17] (.pull 9 [10,15,16,17] (.pull 10 [15,16,17] (.pull 14 [15,16,17] (.pull 15 [16,17] (.one 16 (.pull 17 [] .done))))))) (.pull 10 [15,16,17] (.pull 4 [5,15,16,17] (.pull 5 [15,16,17] (.pull 14 [15,16,17] (.pull 15 [16,17] (.one 16 (.pull 17 [] .done))))))) (.br 4 9 (.pull 5 [15,16,17] (.pull 9 [10,15,16,17] (.pull 10 [15,16,17] (.pull 15 [16,17] (.one 16 (.pull 17 [] .done)))))) (.pull 10 [15,16,17] (.pull 4 [5,15,16,17] (.pull 5 [15,16,17] (.pull 15 [16,17] (.one 16 (.pull 17 [] .done)))))))))))))))))) (by kernel_rfl) (by kernel_rfl) ?_))
 ((repeat' ((conv=>whnf);(first|(refine Ar.fit (by omega) ?_)|(refine VC.mk (by omega) ?_)|(refine New.mk ?_;intro b hb)|(refine Two.mk ?_ ?_)|(refine Tri.mk ?_ ?_ ?_)|fail)));all_goals (try (conv=>whnf)))
 all_goals exact⟨fun h' hs=>⟨leafN 27 n,n+1,some ⟨_,0,none⟩,rfl,⟨by omega,by omega⟩,wf_leaf rfl,rfl,hs.ren [900] ⟨⟨_,rfl,SC.rfl⟩,rfl,trivial⟩,tree_leaf ⟨by assumption,(hs.chunk _ (List.mem_cons_self)).1,fun hm=>hs.ne (k:=34) (k':=900) rfl rfl (by decide) (List.mem_singleton.1 hm)⟩ (by
  have:=(hs.chunk _ (List.mem_cons_self)).2.2
  simp only [Int.add_sub_cancel] at this
  exact this)⟩⟩
end
end Go.Ex
namespace Go.Ex
open Go.Proofs
attribute [local irreducible] CH CsP word kindT
theorem TrI.at{lo:Nat}{h:Heap}{cap:List Nat}{b:Nat}:∀ {x:Nd},TrI lo h cap (some ⟨b,0,none⟩) x→∃ A n c ps,(lo≤b∧b<h.size∧b∉cap)∧h[b]?=some (.cells #[.int .u8 x.kind,.int .i64 x.word,.int .i64 x.frm,.int .i64 x.to,.slice A n c] 69 (0,0))∧Held ptrR h cap A n ps∧(∀ a,0<n→A=some a→lo≤a.block)∧TsI lo h cap ps x.kids
 |.mk k w f t l,hT=>by
  simp only [TrI] at hT
  obtain⟨b',A,n,c,ps,e,h1,h2,h3,h4,h5⟩:=hT
  cases e
  exact⟨A,n,c,ps,h1,h2,h3,h4,h5⟩
section
variable {S:St}{lo b:Nat}{x:Nd}{κ:KV→Prop}
theorem PLoad.node(hT:TrI lo S.h0 S.cap (some ⟨b,0,none⟩) x)(j:Nat)(v:Value)(hj:∀ A n c,(#[Value.int .u8 x.kind,.int .i64 x.word,.int .i64 x.frm,.int .i64 x.to,.slice A n c]:Array Value)[j]?=some v)(hk:readK false (mapC [v]) κ):PLoad S ⟨b,j,none⟩ 1 false κ:=by
 obtain⟨A,n,c,ps,⟨h0,h1,h2⟩,h3,_⟩:=hT.at
 refine⟨.inl ⟨h1,h2,rfl,[v],rfl,fun i u hi=>?_,_,mapC_map _,hk⟩⟩
 cases i with
 |zero=>
  cases hi
  simp only [hcell,h3,Nat.add_zero]
  exact hj A n c
 |succ i=>cases hi
theorem PLoad.kind(hT:TrI lo S.h0 S.cap (some ⟨b,0,none⟩) x)(hk:readK false (mapC [.int .u8 x.kind]) κ):PLoad S ⟨b,0+0,none⟩ 1 false κ:=PLoad.node hT 0 _ (fun _ _ _=>rfl) hk
theorem PLoad.word(hT:TrI lo S.h0 S.cap (some ⟨b,0,none⟩) x)(hk:readK false (mapC [.int .i64 x.word]) κ):PLoad S ⟨b,0+1,none⟩ 1 false κ:=PLoad.node hT 1 _ (fun _ _ _=>rfl) hk
theorem PLoad.frm(hT:TrI lo S.h0 S.cap (some ⟨b,0,none⟩) x)(hk:readK false (mapC [.int .i64 x.frm]) κ):PLoad S ⟨b,0+2,none⟩ 1 false κ:=PLoad.node hT 2 _ (fun _ _ _=>rfl) hk
theorem PLoad.to(hT:TrI lo S.h0 S.cap (some ⟨b,0,none⟩) x)(hk:readK false (mapC [.int .i64 x.to]) κ):PLoad S ⟨b,0+3,none⟩ 1 false κ:=PLoad.node hT 3 _ (fun _ _ _=>rfl) hk
theorem PLoad.kids(hT:TrI lo S.h0 S.cap (some ⟨b,0,none⟩) x)(hk:∀ A n c ps,Held ptrR S.h0 S.cap A n ps→TsI lo S.h0 S.cap ps x.kids→n=x.kids.length→readK false (mapC [.slice A n c]) κ):PLoad S ⟨b,0+4,none⟩ 1 false κ:=by
 obtain⟨A,n,c,ps,⟨h0,h1,h2⟩,h3,h4,_,h5⟩:=hT.at
 refine⟨.inl ⟨h1,h2,rfl,[.slice A n c],rfl,fun i u hi=>?_,_,mapC_map _,hk A n c ps h4 h5 (by rw [←h4.sl.len_eq,h5.len])⟩⟩
 cases i with
 |zero=>
  cases hi
  simp only [hcell,h3]
  rfl
 |succ i=>cases hi
end
theorem tree_node{lo:Nat}{h:Heap}{cap:List Nat}{b:Nat}{k w f to:Int}{A:Option Addr}{n c:Nat}{ps:List (Option Addr)}{l:List Nd}(h1:lo≤b∧b<h.size∧b∉cap)(hc:ChunkAt h b (nodeB k w f to (.val (.slice A n c))))(hk:Held ptrR h cap A n ps)(ha:∀ a,0<n→A=some a→lo≤a.block)(hT:TsI lo h cap ps l) :
 TrI lo h cap (some ⟨b,0,none⟩) (.mk k w f to l):=by
 simp only [TrI]
 exact⟨b,A,n,c,ps,rfl,h1,hc,hk,ha,hT⟩
theorem HS.two{S:St}{h:Heap}(hs:HS S h){k1 k2 b1 b2:Nat}{c1 c2:Chunk}(h1:findC S.ch k1=some (b1,c1))(h2:findC S.ch k2=some (b2,c2))(hk:k1≠k2)(j1 j2:Nat):HS ⟨h,[b1,b2],[(j1,b1,c1),(j2,b2,c2)]⟩ h:=by
 refine⟨Nat.le_refl _,fun _ _ _=>rfl,fun e he=>?_,?_⟩
 ·rcases List.mem_cons.1 he with rfl|he
  ·exact⟨(hs.chunk _ (fM h1)).1,.inr (by simp),(hs.chunk _ (fM h1)).2.2⟩
  ·rcases List.mem_cons.1 he with rfl|he
   ·exact⟨(hs.chunk _ (fM h2)).1,.inr (by simp),(hs.chunk _ (fM h2)).2.2⟩
   ·cases he
 ·refine List.pairwise_cons.2 ⟨fun e he=>?_,List.pairwise_singleton _ _⟩
  rw [List.mem_singleton.1 he]
  exact hs.ne h1 h2 hk
section
variable {I:In}{M:Loc}{br bn:Nat}{t:Bool}{n:Int}{h:Heap}
theorem none_any(hs:HS ⟨h,[br],rdC I M br t n⟩ h)(k:Int):CH Tryz.prog 143 #[ptr br,.int .u8 k] h fun v h'=>∃ b,v=ptr b∧(h.size≤b∧b<h'.size)∧Grows h h'∧ChunkAt h' b (nodeB k (-1) n n nilS):=by
 refine eIn (rep:=rep) (m:=4) (ex:=[4]) (cu:=[]) (args:=[.own 900 br 0,.val (.int .u8 k)]) tO Tryz.func143 rfl (by decide) (rs:=[.tmp 4]) rfl rfl rfl hs ?_
 have hs0:=hs
 (try (conv=>whnf))
 all_goals ((refine dW (id:=1) tO mixed (.pull 0 [9,10,11] (.pull 1 [2,3,4,9,10,11] (.pull 2 [3,4,9,10,11] (.pull 3 [4,9,10,11] (.pull 5 [6,7,8,9,10,11] (.pull 6 [7,8,9,10,11] (.pull 7 [8,9,10,11] (.pull 4 [9,10,11] (.pull 8 [9,10,11] (.pull 9 [10,11] (.one 10 (.pull 11 [] .done)))))))))))) (by kernel_rfl) (by kernel_rfl) ?_))
 ((repeat' ((conv=>whnf);(first|(refine VC.mk (by omega) ?_)|(refine New.mk ?_;intro b hb)|fail)));all_goals (try (conv=>whnf)))
 all_goals exact⟨fun h' hs=>⟨_,rfl,⟨by assumption,(hs.chunk _ (List.mem_cons_self)).1⟩,hs0.gB hs rfl,(hs.chunk _ (List.mem_cons_self)).2.2⟩⟩
theorem close_any{k w f to:Int}{A:Option Addr}{len c:Nat}{ps:List (Option Addr)}(hs:HS ⟨h,[br,bn],[(900,br,rdB I M t n),(901,bn,nodeB k w f to nilS)]⟩ h)(hy:Held ptrR h [br,bn] A len ps)(hl:ps.length≤1000000) :
 CH Tryz.prog 109 #[ptr br,ptr bn,.slice A len c] h fun v h'=>v=ptr bn∧∃ A' n' c',HS ⟨h,[br,bn],[(900,br,rdB I M t n),(901,bn,nodeB k w f n (.val (.slice A' n' c')))]⟩ h'∧Sl ptrR h' A' n' ps∧∀ a,0<n'→A'=some a→h.size≤a.block∧a.block<h'.size∧a.block≠bn:=by
 refine eIn (rep:=rep) (m:=4) (ex:=[6]) (cu:=[]) (args:=[.own 900 br 0,.own 901 bn 0,.val (.slice A len c)]) tO Tryz.func109 rfl (by decide) (rs:=[.tmp 6]) rfl rfl rfl hs ?_
 have hlen:=hy.sl.len_eq
 ((repeat' ((conv=>whnf);(first|(refine VC.mk (by (first|omega|(and_intros<;>first|omega|rfl|(simp only [maxLen];omega)))) ?_)|(refine Br.mk ?_ ?_<;>intro hb)|(refine New2.mk ?_;intro b c hb hbc)|(refine XList.held hy ?_)|fail)));all_goals (try (conv=>whnf)))
 ·have hz:ps=[]:=List.eq_nil_of_length_eq_zero (by assumption)
  subst hz
  exact⟨fun h' hs=>⟨rfl,none,0,0,hs.ren [900,901] ⟨⟨_,rfl,SC.rfl⟩,rfl,⟨_,rfl,SC.rfl⟩,rfl,trivial⟩,Sl.nil _ _ _,fun a h0=>absurd h0 (Nat.lt_irrefl 0)⟩⟩
 ·refine⟨fun h' hs=>⟨rfl,some ⟨_,0,none⟩,_,_,hs.ren [900,901] ⟨⟨_,rfl,SC.rfl⟩,rfl,⟨_,rfl,SC.box rfl⟩,rfl,trivial⟩,?_,fun a h0 e=>?_⟩⟩
  ·have:=hs.sl (k:=13) rfl (Nat.le_refl ps.length)
   rw [List.take_length] at this
   exact this
  ·cases e
   exact⟨by assumption,(hs.chunk _ (List.mem_cons_self)).1,hs.ne (k:=13) (k':=901) rfl rfl (by decide)⟩
theorem close1_any{bf cf:Nat}{ps0:List (Option Addr)}{k w f to:Int}{A:Option Addr}{len c:Nat}{ps:List (Option Addr)}(hs:HS ⟨h,[br,bn,bf],[(900,br,rdB I M t n),(901,bn,nodeB k w f to (.osl 902 bf (ps0.length:Int) cf)),(902,bf,.arr 63 ptrR ps0 cf)]⟩ h)(hy:Held ptrR h [br,bn,bf] A len ps)(hl:ps0.length+ps.length≤1000000) :
 CH Tryz.prog 109 #[ptr br,ptr bn,.slice A len c] h fun v h'=>v=ptr bn∧∃ A' n' c',HS ⟨h,[br,bn,bf],[(900,br,rdB I M t n),(901,bn,nodeB k w f n (.val (.slice A' n' c')))]⟩ h'∧Sl ptrR h' A' n' (ps0++ps)∧∀ a,0<n'→A'=some a→(h.size≤a.block∨a.block=bf)∧a.block<h'.size∧a.block≠bn∧a.block≠br:=by
 refine eIn (rep:=rep) (m:=4) (ex:=[6]) (cu:=[]) (args:=[.own 900 br 0,.own 901 bn 0,.val (.slice A len c)]) tO Tryz.func109 rfl (by decide) (rs:=[.tmp 6]) rfl rfl rfl hs ?_
 have hlen:=hy.sl.len_eq
 have hz:((ps0.length:Int)+(ps.length:Int)).toNat=ps0.length+ps.length:=by omega
 ((repeat' ((conv=>whnf);(first|(refine VC.mk (by (first|omega|(and_intros<;>first|omega|rfl|(simp only [maxLen];omega)))) ?_)|(refine NewO.mk ?_;intro b c hb hbc)|(refine XList.held hy ?_)|fail)));all_goals (try (conv=>whnf)))
 refine⟨fun h' hs=>⟨rfl,some ⟨b,0,none⟩,ps0.length+ps.length,c,hs.ren [900,901] ⟨⟨_,rfl,SC.rfl⟩,rfl,⟨_,rfl,SC.box (by simp [denC,hz])⟩,rfl,trivial⟩,?_,fun a h0 e=>?_⟩⟩
 ·have:=hs.sl (k:=13) rfl (Nat.le_refl _)
  rw [List.take_length] at this
  simpa using this
 ·cases e
  refine⟨hb.imp (fun h=>h) (fun h=>h.1),(hs.chunk _ (List.mem_cons_self)).1,hs.ne (k:=13) (k':=901) rfl rfl (by decide),hs.ne (k:=13) (k':=900) rfl rfl (by decide)⟩
end
end Go.Ex
