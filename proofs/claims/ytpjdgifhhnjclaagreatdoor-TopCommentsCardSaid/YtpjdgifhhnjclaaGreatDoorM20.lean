/-
  Top: TopComments: whatever the input, the law answers true (part 20)
-/
import Derived.Test.YtpjdgifhhnjclaaGreatDoorM19
set_option linter.unusedVariables false
set_option linter.unusedSimpArgs false
set_option maxHeartbeats 4000000
set_option maxRecDepth 10000
namespace Go.Ex
open Go.Proofs
theorem fB(s:ByteArray)(p:Nat):((s.get! p).toNat:Int)=A4 s p:=by
 unfold A4
 rw [Int.toNat_natCast,List.getD_eq_getElem?_getD,Array.getElem?_toList]
 show ((s.data[p]!).toNat:Int) = _
 rw [getElem!_def]
 cases s.data[p]?<;>rfl
theorem zV(s:ByteArray)(p:Nat)(h:(Utf8.decode s p).1<128):A4 s p=(Utf8.decode s p).1∧(Utf8.decode s p).2=1:=by
 rw [←fB]
 rw [Lib.decode_at] at h ⊢
 generalize (s.get! p).toNat=b at h ⊢
 have key:∀ n b1 b2 b3,(Lib.decodeN n b b1 b2 b3).1<128→b<128:=fun n b1 b2 b3 h=>by
  rcases Nat.lt_or_ge b 128 with h0|h0
  ·exact h0
  ·exfalso
   unfold Lib.decodeN at h
   rw [if_neg (by omega)] at h
   revert h
   repeat' split
   all_goals (intro h;dsimp only at h;omega)
 have h0:=key _ _ _ _ h
 unfold Lib.decodeN
 rw [if_pos h0]
 exact⟨rfl,rfl⟩
theorem Ak(s:ByteArray)(a:Int)(h:¬ (C9 s a).1=0):1≤(C9 s a).2:=by
 unfold C9 at h ⊢
 split
 ·rename_i h1;rw [if_pos h1] at h;exact absurd rfl h
 ·rename_i h1
  rw [if_neg h1] at h
  split
  ·rename_i h2;rw [if_pos h2] at h;exact absurd rfl h
  ·have:=width_pos s a.toNat
   dsimp only
   omega
theorem Y4(s:ByteArray)(a:Int)(h:¬ (C9 s a).1=0):(0≤a∧a<s.size)∧C9 s a=(((Utf8.decode s a.toNat).1:Int),((Utf8.decode s a.toNat).2:Int)):=by
 unfold C9 at h ⊢
 split
 ·rename_i h1;rw [if_pos h1] at h;exact absurd rfl h
 ·rename_i h1
  rw [if_neg h1] at h
  split
  ·rename_i h2;rw [if_pos h2] at h;exact absurd rfl h
  ·exact⟨by omega,rfl⟩
theorem oX(s:ByteArray)(a:Int)(h:¬ (C9 s a).1=0)(h1:(C9 s a).1<128):A4 s a=(C9 s a).1∧(C9 s a).2=1:=by
 obtain⟨h2,h3⟩:=Y4 s a h
 rw [h3] at h1 ⊢
 dsimp only at h1 ⊢
 have:=zV s a.toNat (by omega)
 rw [show ((a.toNat:Nat):Int)=a from Int.toNat_of_nonneg h2.1] at this
 exact⟨this.1,by rw [this.2];rfl⟩
theorem rF(s:ByteArray)(a:Int)(ha:0≤a∧a≤s.size):(sub s a s.size).data.toList=s.data.toList.drop a.toNat:=by
 show (s.extract a.toNat (s.size:Int).toNat).data.toList = _
 rw [Int.toNat_natCast]
 exact Lib.extract_to_end s a.toNat
theorem fG(s:ByteArray)(a:Int)(ha:0≤a∧a<s.size):∃ c:UInt8,s.data.toList[a.toNat]?=some c∧A4 s a=(c.toNat:Int):=by
 have hl:a.toNat<s.data.toList.length:=by
  have:s.data.toList.length=s.size:=(Lib.size_eq s).symm
  omega
 refine⟨s.data.toList[a.toNat],List.getElem?_eq_getElem hl,?_⟩
 unfold A4
 rw [List.getD_eq_getElem?_getD,List.getElem?_eq_getElem hl]
 rfl
theorem Lr(s:ByteArray)(a:Int)(ha:0≤a∧a<s.size):∃ (c:UInt8) (r:List UInt8),(sub s a s.size).data.toList=c::r∧A4 s a=(c.toNat:Int):=by
 obtain⟨c,h1,h2⟩:=fG s a ha
 rw [rF s a (by omega)]
 obtain⟨hl,he⟩:=List.getElem?_eq_some_iff.1 h1
 exact⟨c,_,by rw [List.drop_eq_getElem_cons hl,he],h2⟩
theorem Vf(s:ByteArray)(a:Int)(ha:0≤a∧a<s.size)(h:O3 (A4 s a)):(jM (sub s a s.size)).size<(sub s a s.size).size:=by
 obtain⟨c,r,h1,h2⟩:=Lr s a ha
 unfold jM Lib.trimLeftS
 show (List.dropWhile _ (sub s a s.size).data.toList).toArray.size<(sub s a s.size).data.size
 have hz:(sub s a s.size).data.size=r.length+1:=by rw [←Array.length_toList,h1,List.length_cons]
 rw [hz,h1]
 have hc:eC.data.toList.contains c=true:=by
  unfold O3 at h
  rw [h2] at h
  have e1:(32:UInt8).toNat=32:=rfl
  have e2:(9:UInt8).toNat=9:=rfl
  have e3:(13:UInt8).toNat=13:=rfl
  have e4:(10:UInt8).toNat=10:=rfl
  have:c=32∨c=9∨c=13∨c=10:=by
   rcases h with h|h|h|h
   ·exact .inl (UInt8.toNat_inj.1 (by omega))
   ·exact .inr (.inl (UInt8.toNat_inj.1 (by omega)))
   ·exact .inr (.inr (.inr (UInt8.toNat_inj.1 (by omega))))
   ·exact .inr (.inr (.inl (UInt8.toNat_inj.1 (by omega))))
  rcases this with rfl|rfl|rfl|rfl<;>decide
 rw [List.dropWhile_cons,if_pos hc,List.size_toArray]
 exact Nat.lt_succ_of_le (List.IsSuffix.length_le (List.dropWhile_suffix _))
theorem O2.head{s p:ByteArray}(h:O2 s p):∃ r,s.data.toList=p.data.toList++r:=by
 obtain⟨h1,h2⟩:=h
 refine⟨s.data.toList.drop p.size,?_⟩
 have:p.data.toList=s.data.toList.take p.size:=by
  rw [←h2]
  show (s.extract (0:Int).toNat (p.size:Int).toNat).data.toList = _
  simp [ByteArray.data_extract,Array.toList_extract]
 rw [this,List.take_append_drop]
theorem Kw(s:ByteArray)(a to:Int)(ha:0≤a∧a<s.size)(h0:a≤to)(hk:¬ aS (sub s a to)=0):a<to:=by
 rcases Int.lt_or_eq_of_le h0 with h|h
 ·exact h
 ·subst h
  exfalso
  apply hk
  have e:sub s a a=⟨#[]⟩:=ByteArray.ext (Array.eq_empty_of_size_eq_zero (by show (s.extract a.toNat a.toNat).size=0;rw [ByteArray.size_extract];omega))
  rw [e]
  decide
theorem So(s:ByteArray):aS s=0∨(3≤aS s∧aS s≤5):=by
 have hw:∀ t b,R3 t b=0∨R3 t b=3:=fun t b=>by unfold R3;split<;>simp
 have he:∀ t n k l,Up t n k l=0∨Up t n k l=4:=fun t n k l=>by unfold Up;split<;>simp
 have ht:∀ t,nG t=0∨3≤nG t∧nG t≤4:=fun t=>by
  unfold nG
  have h1:=hw (sub t 1 t.size) 8
  repeat' split
  all_goals first|omega|(rcases he t (J2 t 10) (J2 (sub t (J2 t 10+1) t.size) 10+1) eE with h|h<;>omega)|(rcases he t (J2 t 10) 0 eE with h|h<;>omega)
 have hs:∀ t,U0 t=0∨3≤U0 t∧U0 t≤4:=fun t=>by
  unfold U0
  repeat' split
  all_goals omega
 have hr:∀ t,dL t=0∨3≤dL t∧dL t≤4:=fun t=>by
  unfold dL
  have h1:=hw (sub t 2 t.size) 2
  have h2:=hw (sub t 2 t.size) 8
  have h3:=hs (sub t 2 t.size)
  have h4:=ht t
  repeat' split
  all_goals omega
 unfold aS
 have:=hr s
 repeat' split
 all_goals omega
theorem Zo(s:ByteArray)(c:UInt8)(r:List UInt8)(h:s.data.toList=c::r)(k:Int)(hk:0≤k∧k<256)(hne:¬ (c.toNat:Int)=k):¬ H7 s k=0:=fun e=>by
 have h1:=(Lib.indexByte_some (l:=s.data.toList) (c:=k.toNat.toUInt8) (o:=0) (by unfold H7 at e;exact e)).1
 rw [h] at h1
 simp only [List.getElem?_cons_zero,Option.some.injEq] at h1
 apply hne
 rw [h1]
 have:(k.toNat.toUInt8).toNat=k.toNat:=by
  rw [Nat.toUInt8_eq,UInt8.toNat_ofNat']
  exact Nat.mod_eq_of_lt (by omega)
 rw [this]
 omega
theorem zO(s:ByteArray):s.extract 0 s.size=s:=ByteArray.ext (by rw [ByteArray.data_extract];show s.data.extract 0 s.data.size=s.data;simp)
theorem tJ(s:ByteArray)(a:Int)(ha:0≤a∧a<s.size):Utf8.decode (sub s a s.size) 0=Utf8.decode s a.toNat:=by
 have h1:=kU s a.toNat (by omega)
 have h2:=kU (sub s a s.size) 0 (by have:=K1 s a s.size (by omega) (by omega) (by omega);omega)
 have e:(sub s a s.size).extract 0 (sub s a s.size).size=s.extract a.toNat s.size:=by
  rw [zO]
  show s.extract a.toNat (s.size:Int).toNat = _
  rw [Int.toNat_natCast]
 rw [←h2,←h1,e]
theorem Yw:¬ E7 0=true:=by decide
attribute [local irreducible] E7 R0
theorem vG(s:ByteArray)(a:Int)(ha:0≤a∧a<s.size)(h0:¬ (C9 s a).1=0)(hl:E7 (C9 s a).1=true):a<P0 s a∧P0 s a≤s.size:=by
 obtain⟨_,h1⟩:=Y4 s a h0
 rw [h1] at hl
 dsimp only at hl
 have hz:=K1 s a s.size (by omega) (by omega) (by omega)
 have hr:=T8 (sub s a s.size) (sub s a s.size).size 0
 unfold P0
 split
 ·rename_i hg
  refine⟨?_,by omega⟩
  suffices ¬ J9 (sub s a s.size) (sub s a s.size).size 0=0 by omega
  intro e
  obtain⟨f,hf⟩:∃ f,(sub s a s.size).size=f+1:=⟨(sub s a s.size).size-1,by omega⟩
  rw [hf,J9,tJ s a ha,if_pos (by omega),if_neg (fun e=>by rw [hl] at e;exact absurd e.1 (by decide))] at e
  have hw:=width_pos s a.toNat
  have:=(T8 (sub s a s.size) f (0+(Utf8.decode s a.toNat).2)).1
  omega
 ·omega
theorem sC(s:ByteArray)(mk:Int):∀ (f:Nat) (it a e:Int),0≤a→N6 s mk f it a=some e→a<e∧e≤s.size
 |0,it,a,e,h0,h=>by simp [N6] at h
 |f+1,it,a,e,h0,h=>by
  rw [N6] at h
  split at h
  ·cases h
  ·split at h
   ·split at h
    ·cases h;omega
    ·cases h
   ·split at h
    ·cases h
    ·split at h
     ·cases h
     ·have hi:=V0 s mk a (by omega)
      have:=sC s mk f _ _ e (by omega) h
      omega
theorem Qc(s:ByteArray)(a:Int)(h:¬ (S4 s a).1=0):(a<(S4 s a).2.1∧(S4 s a).2.1≤s.size)∧(3≤(S4 s a).1∧(S4 s a).1≤5):=by
 unfold S4 at h ⊢
 split
 ·rename_i h1;rw [if_pos h1] at h;exact absurd rfl h
 ·rename_i h1
  rw [if_neg h1] at h
  split
  ·rename_i h2
   have hb:=Re (nN h1)
   have ht:=iD s a (decide (jL s a)) s.size a (by omega)
   have hk:=So (sub s a (aR s a))
   dsimp only
   refine⟨⟨Kw s a _ hb ht.1 h2,ht.2⟩,by omega⟩
  ·rename_i h2;rw [if_neg h2] at h;exact absurd rfl h
theorem Te(s:ByteArray)(a:Int)(h:¬ (J7 s a).1=0):(a<(J7 s a).2.1∧(J7 s a).2.1≤s.size)∧(6≤(J7 s a).1∧(J7 s a).1≤7):=by
 unfold J7 at h ⊢
 split
 ·rename_i h1;rw [if_pos h1] at h;exact absurd rfl h
 ·rename_i h1
  rw [if_neg h1] at h
  have ha:0≤a∧a<s.size:=by omega
  have hz:=K1 s (a+1) s.size (by omega) (by omega) (by omega)
  have hi:=eZ (sub s (a+1) s.size) 96
  split
  ·rename_i h2
   rw [if_pos h2] at h
   split
   ·rename_i h3;rw [if_pos h3] at h;exact absurd rfl h
   ·dsimp only;omega
  ·rename_i h2
   rw [if_neg h2] at h
   cases hq:bE s a with
   |none=>rw [hq] at h;exact absurd rfl h
   |some e=>
    have:=sC s _ _ _ _ e (by omega) hq
    dsimp only
    split<;>(dsimp only;omega)
theorem Nl(s:ByteArray)(a:Int):(aO s a).2=P0 s a∧1≤(aO s a).1∧(aO s a).1≤2:=by
 unfold aO
 split<;>simp
theorem mA(s:ByteArray)(a:Int)(ha:0≤a∧a<s.size)(h:¬ (H0 s a).1=0):(a<(H0 s a).2∧(H0 s a).2≤s.size)∧(1≤(H0 s a).1∧(H0 s a).1≤12):=by
 have hz:=K1 s a s.size (by omega) (by omega) (by omega)
 have hrl:=sG s a (by omega)
 unfold H0 at h ⊢
 split
 ·rename_i h1
  have:=Ak s a (by omega)
  dsimp only
  omega
 rename_i h1
 rw [if_neg h1] at h
 split
 ·rename_i h2
  have h20:¬ (C9 s a).1=0:=by unfold O3 at h2;omega
  have h21:=oX s a h20 (by unfold O3 at h2;omega)
  have:=Vf s a ha (by rw [h21.1];exact h2)
  dsimp only
  omega
 rename_i h2
 rw [if_neg h2] at h
 split
 ·rename_i h3
  rw [if_pos h3] at h
  obtain⟨r,hr⟩:=h3.head
  have hi:=eZ (sub s a s.size) 10
  have h0:=Zo (sub s a s.size) 47 (47::r) hr 10 (by decide) (by decide)
  split
  ·dsimp only;omega
  ·dsimp only;omega
 rename_i h3
 rw [if_neg h3] at h
 split
 ·rename_i h4
  rw [if_pos h4] at h
  have h5:=Wt h4
  have hi:=Hd (sub (sub s a s.size) 2 (sub s a s.size).size)
  have hz2:=K1 (sub s a s.size) 2 (sub s a s.size).size (by omega) (by omega) (by omega)
  split
  ·dsimp only;omega
  ·rename_i h6;rw [if_neg h6] at h;exact absurd rfl h
 rename_i h4
 rw [if_neg h4] at h
 split
 ·rename_i h5
  have h0:¬ (C9 s a).1=0:=fun e=>by rw [e] at h5;exact Yw h5
  have hw:=Nl s a
  have:=vG s a ha h0 h5
  omega
 rename_i h5
 rw [if_neg h5] at h
 split
 ·dsimp only;omega
 rename_i h6
 rw [if_neg h6] at h
 split
 ·rename_i h7
  rw [if_pos h7] at h
  have:=Qc s a h
  dsimp only
  omega
 rename_i h7
 rw [if_neg h7] at h
 split
 ·rename_i h8
  rw [if_pos h8] at h
  have:=Te s a h
  dsimp only
  omega
 rename_i h8
 rw [if_neg h8] at h
 have hs:=vZ (sub s a s.size)
 split
 ·dsimp only;omega
 ·rename_i h9;rw [if_neg h9] at h;exact absurd rfl h
end Go.Ex
namespace Go.Ex
open Go.Proofs
attribute [local irreducible] CH X2 word B9
theorem I7{I:In}{n:Int}(h:¬ word I n=⟨#[]⟩):0≤n∧n<I.L:=by
 unfold word at h
 split at h
 ·exact absurd rfl h
 ·omega
theorem T9{I:In}{n:Int}{w:ByteArray}(h:word I n=w)(hw:¬ w=⟨#[]⟩):0≤n∧n<I.L:=I7 (by rw [h];exact hw)
theorem qN{I:In}{n:Int}(h:¬ B9 I n=0):0≤n∧n<I.L:=by
 unfold B9 at h
 split at h
 ·exact absurd rfl h
 ·omega
theorem pW{I:In}{n k:Int}(h:B9 I n=k)(hw:¬ k=0):0≤n∧n<I.L:=qN (by rw [h];exact hw)
section
variable {I:In}{M:O6}{br:Nat}{t:Bool}{n:Int}{h:A3}
theorem E0{S:St}(ok:C6 I)(hb:J4 I M S.h0 S.cap)(hs:HS S h)(hf:B3 S.ch 900=some (br,H5 I M t n)):CH Tryz.prog 105 #[ptr br] h fun v h'=>v = .string (word I n)∧A5 h h':=
 Xs ok (L9 hs hf) (hb.at1 hs hf)
theorem F5{S:St}{w:ByteArray}(ok:C6 I)(hb:J4 I M S.h0 S.cap)(hs:HS S h)(hf:B3 S.ch 900=some (br,H5 I M t n))(hw:word I n=w):CH Tryz.prog 105 #[ptr br] h fun v h'=>v = .string w∧A5 h h':=by
 subst hw;exact E0 ok hb hs hf
theorem qW{S:St}{w:ByteArray}{i:Int}(ok:C6 I)(hb:J4 I M S.h0 S.cap)(hs:HS S h)(hf:B3 S.ch 900=some (br,H5 I M t n))(hw:word I i=w):CH Tryz.prog 31 #[ptr br,.int .i64 i] h fun v h'=>v = .string w∧A5 h h':=by
 subst hw;exact T1 ok hb hs hf i
theorem I8{S:St}(ok:C6 I)(hb:J4 I M S.h0 S.cap)(hs:HS S h)(hf:B3 S.ch 900=some (br,H5 I M t n))(i:Int):CH Tryz.prog 133 #[ptr br,.int .i64 i] h fun v h'=>v=A0 (.prop (B9 I i=1))∧A5 h h':=
 Eo ok (L9 hs hf) (hb.at1 hs hf) i
theorem lV{S:St}(ok:C6 I)(hb:J4 I M S.h0 S.cap)(hs:HS S h)(hf:B3 S.ch 900=some (br,H5 I M t n))(i:Int):CH Tryz.prog 187 #[ptr br,.int .i64 i] h fun v h'=>v=A0 (.prop (B9 I i=7))∧A5 h h':=
 Ch ok (L9 hs hf) (hb.at1 hs hf) i
theorem Mo{S:St}(ok:C6 I)(hb:J4 I M S.h0 S.cap)(hs:HS S h)(hf:B3 S.ch 900=some (br,H5 I M t n))(i:Int):CH Tryz.prog 216 #[ptr br,.int .i64 i] h fun v h'=>v=A0 (.prop (La I i))∧A5 h h':=
 Bd ok (L9 hs hf) (hb.at1 hs hf) i
theorem mM{S:St}(ok:C6 I)(hb:J4 I M S.h0 S.cap)(hs:HS S h)(hf:B3 S.ch 900=some (br,H5 I M t n)):CH Tryz.prog 58 #[ptr br] h fun v h'=>v=A0 (.prop (n=I.L))∧A5 h h':=
 Tp ok (L9 hs hf) (hb.at1 hs hf)
theorem Cr(ok:C6 I)(hs:HS ⟨h,[br],G5 I M br t n⟩ h)(hB:J4 I M h [br])(hn:0≤n∧n≤I.L)(w:ByteArray)(hw:¬ w=⟨#[]⟩):X2 Tryz.prog (bN I M br [br] h (want I w n)) 103 #[ptr br,.string w] h fun v h'=>v = .tuple #[]∧word I n=w∧HS ⟨h,[br],G5 I M br t (n+1)⟩ h':=by
 refine O9 4 [7] [] [.own 900 br 0,.val (.string w)] Tryz.func103 rfl hs ?_
 have W:=Wd.start ok hB
 have hl:=ok.len
 by_cases h1:word I n=w
 ·have hlt:=I7 (h1▸hw)
  ((repeat' (conv=>whnf);first|(refine Ar.fit (by omega) ?_)|(refine VC.mk (by omega) ?_)|(refine Br.mk ?_ ?_<;>intro hb<;>(try (contradiction)))|(refine A7 ?_ fun h1 hs=>E0 ok hB hs rfl)|fail);all_goals try conv=>whnf)
  all_goals exact⟨fun h' hs=>⟨rfl,h1,hs⟩⟩
 ·((repeat' (conv=>whnf);first|(refine Br.mk ?_ ?_<;>intro hb<;>(try (contradiction)))|(refine A7 ?_ fun h1 hs=>E0 ok hB hs rfl)|(refine CK.fail W rfl rfl hn (by rw [want,if_neg h1]))|fail);all_goals try conv=>whnf)
theorem Io(ok:C6 I)(hs:HS ⟨h,[br],G5 I M br t n⟩ h)(hB:J4 I M h [br])(w:ByteArray)(hw:¬ w=⟨#[]⟩):CH Tryz.prog 57 #[ptr br,.string w] h fun v h'=>(word I n=w∧v = .bool true∧HS ⟨h,[br],G5 I M br t (n+1)⟩ h')∨(¬ word I n=w∧v = .bool false∧A5 h h'):=by
 refine hX 4 [4,8] [] [.own 900 br 0,.val (.string w)] Tryz.func57 rfl hs ?_
 have hs0:=hs
 have hl:=ok.len
 by_cases h1:word I n=w
 ·have hlt:=I7 (h1▸hw)
  ((repeat' (conv=>whnf);first|(refine Ar.fit (by omega) ?_)|(refine VC.mk (by omega) ?_)|(refine Br.mk ?_ ?_<;>intro hb<;>(try (contradiction)))|(refine A7 ?_ fun h1 hs=>E0 ok hB hs rfl)|fail);all_goals try conv=>whnf)
  all_goals exact⟨fun h' hs=>.inl ⟨h1,rfl,hs⟩⟩
 ·((repeat' (conv=>whnf);first|(refine Br.mk ?_ ?_<;>intro hb<;>(try (contradiction)))|(refine A7 ?_ fun h1 hs=>E0 ok hB hs rfl)|fail);all_goals try conv=>whnf)
  all_goals exact⟨fun h' hs=>.inr ⟨h1,rfl,hs0.gB hs rfl⟩⟩
def D6(k w f to:Int)(l:KV):D8:=.box 69 [.val (.int .u8 k),.val (.int .i64 w),.val (.int .i64 f),.val (.int .i64 to),l]
abbrev Q5:KV:=.val (.slice none 0 0)
theorem Ps(hs:HS ⟨h,[br],G5 I M br t n⟩ h)(k:Int):CH Tryz.prog 102 #[ptr br,.int .u8 k] h fun v h'=>∃ b,v=ptr b∧(h.size≤b∧b<h'.size)∧A5 h h'∧C7 h' b (D6 k (-1) n 0 Q5):=by
 refine hX 4 [4] [] [.own 900 br 0,.val (.int .u8 k)] Tryz.func102 rfl hs ?_
 have hs0:=hs
 ((repeat' (conv=>whnf);first|(refine VC.mk (by omega) ?_)|(refine E5.mk ?_;intro b hb)|fail);all_goals try conv=>whnf)
 exact⟨fun h' hs=>⟨b,rfl,⟨hb,(hs.chunk _ (List.mem_cons_self)).1⟩,hs0.gB hs rfl,(hs.chunk _ (List.mem_cons_self)).2.2⟩⟩
theorem cM{lo:Nat}{cap:List Nat}{b:Nat}{k w f to:Int}(h1:lo≤b∧b<h.size∧b∉cap)(hc:C7 h b (D6 k w f to Q5)):Q2 lo h cap (some ⟨b,0,none⟩) (.mk k w f to []):=by
 simp only [Q2,L3]
 exact⟨b,none,0,0,[],rfl,h1,hc,⟨Sl.nil _ _ _,fun h0=>absurd h0 (Nat.lt_irrefl 0)⟩,fun a h0=>absurd h0 (Nat.lt_irrefl 0),rfl⟩
theorem iT{k w f to:Int}(hk:O5 k=0):Wf (.mk k w f to []):=by
 simp only [Wf,fL,hk,List.length_nil];exact⟨Nat.le_refl _,trivial⟩
theorem G0(k:Int)(hk:O5 k=0)(hn:0≤n∧n≤I.L):N3 I M 143 [.int .u8 k] (.ok (E3 k n) n) t n 0:=fun br h hs hB=>by
 refine O9 4 [4] [] [.own 900 br 0,.val (.int .u8 k)] Tryz.func143 rfl hs ?_
 have hs0:=hs
 (try (conv=>whnf))
 all_goals ((refine C2 (id:=1) (.pl [0,1,2,3,5,6,7,4,8,9] (.on [10] (.pl [11] .e))) (by kernel_rfl) ?_))
 ((repeat' (conv=>whnf);first|(refine VC.mk (by omega) ?_)|(refine E5.mk ?_;intro b hb)|fail);all_goals try conv=>whnf)
 all_goals exact⟨fun h' hs=>⟨_,_,_,rfl,⟨by omega,hn.2⟩,iT hk,rfl,hs.ren [900] (B4 rfl rfl E8),cM ⟨by assumption,(hs.chunk _ (List.mem_cons_self)).1,fun hm=>hs.ne (k:=15) (k':=900) rfl rfl (by decide) (List.mem_singleton.1 hm)⟩ (hs.chunk _ (List.mem_cons_self)).2.2⟩⟩
theorem Q6(ok:C6 I)(hn:0≤n∧n≤I.L):N3 I M 104 [] (Q7 I n) t n 1:=fun br h hs hB=>by
 refine O9 4 [2] [] [.own 900 br 0] Tryz.func104 rfl hs ?_
 have hs0:=hs
 have W:=Wd.start ok hB
 have hl:=ok.len
 by_cases h1:B9 I n=1
 ·have hlt:=qN (I:=I) (n:=n) (by rw [h1];decide)
  ((repeat' (conv=>whnf);first|(refine Ar.fit (by omega) ?_)|(refine VC.mk (by omega) ?_)|(refine Br.mk ?_ ?_<;>intro hb<;>(try omega))|(refine CK.says (.prop _) (fun h1 hs=>I8 ok hB hs rfl _) ?_)|(refine CK.inline (rep:=rep) tO Tryz.func145 rfl (by decide) (rs:=[.tmp 6]) rfl 4 [6,8] [] rfl rfl rfl ?_)|fail);all_goals try conv=>whnf)
  all_goals ((refine C2 (id:=4) (.pl [0,1,2,3,6,7,8,11,12,13] (.alt 4 (.pl [5,9,10,14,15] (.on [16] (.pl [17] .e))) (.alt 9 (.pl [10,4,5,14,15] (.on [16] (.pl [17] .e))) (.alt 14 (.br 4 9 (.pl [5,9,10,15] (.on [16] (.pl [17] .e))) (.pl [10,4,5,15] (.on [16] (.pl [17] .e)))) .e)))) (by kernel_rfl) ?_))
  ((repeat' (conv=>whnf);first|(refine Ar.fit (by omega) ?_)|(refine VC.mk (by omega) ?_)|(refine E5.mk ?_;intro b hb)|(refine dD.mk ?_ ?_)|(refine dD.mk ?_ ?_)|fail);all_goals try conv=>whnf)
  all_goals exact⟨fun h' hs=>⟨bI 26 n,n+1,some ⟨_,0,none⟩,by rw [Q7,if_pos h1],(by omega),iT rfl,rfl,hs.ren [900] (B4 rfl rfl E8),cM ⟨by assumption,(hs.chunk _ (List.mem_cons_self)).1,fun hm=>hs.ne (k:=34) (k':=900) rfl rfl (by decide) (List.mem_singleton.1 hm)⟩ (by
   have:=(hs.chunk _ (List.mem_cons_self)).2.2
   simp only [Int.add_sub_cancel] at this
   exact this)⟩⟩
 ·((repeat' (conv=>whnf);first|(refine VC.mk (by omega) ?_)|(refine Br.mk ?_ ?_<;>intro hb<;>(try omega))|(refine CK.says (.prop _) (fun h1 hs=>I8 ok hB hs rfl _) ?_)|(refine CK.inline (rep:=rep) tO Tryz.func145 rfl (by decide) (rs:=[.tmp 6]) rfl 4 [6,8] [] rfl rfl rfl ?_)|(refine CK.fail W rfl rfl hn (by rw [Q7,if_neg h1]))|fail);all_goals try conv=>whnf)
theorem Vj(ok:C6 I)(hn:0≤n∧n≤I.L):N3 I M 175 [] (rH I n) t n 1:=fun br h hs hB=>by
 refine O9 4 [2] [] [.own 900 br 0] Tryz.func175 rfl hs ?_
 have hs0:=hs
 have W:=Wd.start ok hB
 have hl:=ok.len
 by_cases h1:B9 I n=7
 ·have hlt:=qN (I:=I) (n:=n) (by rw [h1];decide)
  ((repeat' (conv=>whnf);first|(refine Ar.fit (by omega) ?_)|(refine VC.mk (by omega) ?_)|(refine Br.mk ?_ ?_<;>intro hb<;>(try omega))|(refine CK.says (.prop _) (fun h1 hs=>lV ok hB hs rfl _) ?_)|(refine CK.inline (rep:=rep) tO Tryz.func145 rfl (by decide) (rs:=[.tmp 6]) rfl 4 [6,8] [] rfl rfl rfl ?_)|fail);all_goals try conv=>whnf)
  all_goals ((refine C2 (id:=4) (.pl [0,1,2,3,6,7,8,11,12,13] (.alt 4 (.pl [5,9,10,14,15] (.on [16] (.pl [17] .e))) (.alt 9 (.pl [10,4,5,14,15] (.on [16] (.pl [17] .e))) (.alt 14 (.br 4 9 (.pl [5,9,10,15] (.on [16] (.pl [17] .e))) (.pl [10,4,5,15] (.on [16] (.pl [17] .e)))) .e)))) (by kernel_rfl) ?_))
  ((repeat' (conv=>whnf);first|(refine Ar.fit (by omega) ?_)|(refine VC.mk (by omega) ?_)|(refine E5.mk ?_;intro b hb)|(refine dD.mk ?_ ?_)|(refine dD.mk ?_ ?_)|fail);all_goals try conv=>whnf)
  all_goals exact⟨fun h' hs=>⟨bI 27 n,n+1,some ⟨_,0,none⟩,by rw [rH,if_pos h1],(by omega),iT rfl,rfl,hs.ren [900] (B4 rfl rfl E8),cM ⟨by assumption,(hs.chunk _ (List.mem_cons_self)).1,fun hm=>hs.ne (k:=34) (k':=900) rfl rfl (by decide) (List.mem_singleton.1 hm)⟩ (by
   have:=(hs.chunk _ (List.mem_cons_self)).2.2
   simp only [Int.add_sub_cancel] at this
   exact this)⟩⟩
 ·((repeat' (conv=>whnf);first|(refine VC.mk (by omega) ?_)|(refine Br.mk ?_ ?_<;>intro hb<;>(try omega))|(refine CK.says (.prop _) (fun h1 hs=>lV ok hB hs rfl _) ?_)|(refine CK.inline (rep:=rep) tO Tryz.func145 rfl (by decide) (rs:=[.tmp 6]) rfl 4 [6,8] [] rfl rfl rfl ?_)|(refine CK.fail W rfl rfl hn (by rw [rH,if_neg h1]))|fail);all_goals try conv=>whnf)
theorem Xw(ok:C6 I)(hn:0≤n∧n<I.L):N3 I M 145 [.int .u8 27,.bool true] (.ok (bI 27 n) (n+1)) t n 1:=fun br h hs hB=>by
 refine O9 4 [6,8] [] [.own 900 br 0,.val (.int .u8 27),.val (.bool true)] Tryz.func145 rfl hs ?_
 have hs0:=hs
 have hl:=ok.len
 ((repeat' (conv=>whnf);first|(refine Ar.fit (by omega) ?_)|(refine VC.mk (by omega) ?_)|fail);all_goals try conv=>whnf)
 all_goals ((refine C2 (id:=4) (.pl [0,1,2,3,6,7,8,11,12,13] (.alt 4 (.pl [5,9,10,14,15] (.on [16] (.pl [17] .e))) (.alt 9 (.pl [10,4,5,14,15] (.on [16] (.pl [17] .e))) (.alt 14 (.br 4 9 (.pl [5,9,10,15] (.on [16] (.pl [17] .e))) (.pl [10,4,5,15] (.on [16] (.pl [17] .e)))) .e)))) (by kernel_rfl) ?_))
 ((repeat' (conv=>whnf);first|(refine Ar.fit (by omega) ?_)|(refine VC.mk (by omega) ?_)|(refine E5.mk ?_;intro b hb)|(refine dD.mk ?_ ?_)|(refine dD.mk ?_ ?_)|fail);all_goals try conv=>whnf)
 all_goals exact⟨fun h' hs=>⟨bI 27 n,n+1,some ⟨_,0,none⟩,rfl,(by omega),iT rfl,rfl,hs.ren [900] (B4 rfl rfl E8),cM ⟨by assumption,(hs.chunk _ (List.mem_cons_self)).1,fun hm=>hs.ne (k:=34) (k':=900) rfl rfl (by decide) (List.mem_singleton.1 hm)⟩ (by
  have:=(hs.chunk _ (List.mem_cons_self)).2.2
  simp only [Int.add_sub_cancel] at this
  exact this)⟩⟩
end
end Go.Ex
namespace Go.Ex
open Go.Proofs
attribute [local irreducible] CH X2 word B9
theorem Q2.at{lo:Nat}{h:A3}{cap:List Nat}{b:Nat}:∀ {x:Nd},Q2 lo h cap (some ⟨b,0,none⟩) x→∃ A n c ps,(lo≤b∧b<h.size∧b∉cap)∧h[b]?=some (.cells #[.int .u8 x.kind,.int .i64 x.word,.int .i64 x.frm,.int .i64 x.to,.slice A n c] 69 (0,0))∧D3 E1 h cap A n ps∧(∀ a,0<n→A=some a→lo≤a.block)∧L3 lo h cap ps x.kids
 |.mk k w f t l,hT=>by
  simp only [Q2] at hT
  obtain⟨b',A,n,c,ps,e,h1,h2,h3,h4,h5⟩:=hT
  cases e
  exact⟨A,n,c,ps,h1,h2,h3,h4,h5⟩
section
variable {S:St}{lo b:Nat}{x:Nd}{κ:KV→Prop}
theorem A9.node(hT:Q2 lo S.h0 S.cap (some ⟨b,0,none⟩) x)(j:Nat)(v:Value)(hj:∀ A n c,(#[Value.int .u8 x.kind,.int .i64 x.word,.int .i64 x.frm,.int .i64 x.to,.slice A n c]:Array Value)[j]?=some v)(hk:G8 false (O7 [v]) κ):A9 S ⟨b,j,none⟩ 1 false κ:=by
 obtain⟨A,n,c,ps,⟨h0,h1,h2⟩,h3,_⟩:=hT.at
 refine⟨.inl ⟨h1,h2,rfl,[v],rfl,fun i u hi=>?_,_,N9 _,hk⟩⟩
 cases i with
 |zero=>
  cases hi
  simp only [K5,h3,Nat.add_zero]
  exact hj A n c
 |succ i=>cases hi
theorem A9.kind(hT:Q2 lo S.h0 S.cap (some ⟨b,0,none⟩) x)(hk:G8 false (O7 [.int .u8 x.kind]) κ):A9 S ⟨b,0+0,none⟩ 1 false κ:=A9.node hT 0 _ (fun _ _ _=>rfl) hk
theorem A9.word(hT:Q2 lo S.h0 S.cap (some ⟨b,0,none⟩) x)(hk:G8 false (O7 [.int .i64 x.word]) κ):A9 S ⟨b,0+1,none⟩ 1 false κ:=A9.node hT 1 _ (fun _ _ _=>rfl) hk
theorem A9.frm(hT:Q2 lo S.h0 S.cap (some ⟨b,0,none⟩) x)(hk:G8 false (O7 [.int .i64 x.frm]) κ):A9 S ⟨b,0+2,none⟩ 1 false κ:=A9.node hT 2 _ (fun _ _ _=>rfl) hk
theorem A9.to(hT:Q2 lo S.h0 S.cap (some ⟨b,0,none⟩) x)(hk:G8 false (O7 [.int .i64 x.to]) κ):A9 S ⟨b,0+3,none⟩ 1 false κ:=A9.node hT 3 _ (fun _ _ _=>rfl) hk
theorem A9.kids(hT:Q2 lo S.h0 S.cap (some ⟨b,0,none⟩) x)(hk:∀ A n c ps,D3 E1 S.h0 S.cap A n ps→L3 lo S.h0 S.cap ps x.kids→n=x.kids.length→G8 false (O7 [.slice A n c]) κ):A9 S ⟨b,0+4,none⟩ 1 false κ:=by
 obtain⟨A,n,c,ps,⟨h0,h1,h2⟩,h3,h4,_,h5⟩:=hT.at
 refine⟨.inl ⟨h1,h2,rfl,[.slice A n c],rfl,fun i u hi=>?_,_,N9 _,hk A n c ps h4 h5 (by rw [←h4.sl.len_eq,h5.len])⟩⟩
 cases i with
 |zero=>
  cases hi
  simp only [K5,h3]
  rfl
 |succ i=>cases hi
end
theorem cL{lo:Nat}{h:A3}{cap:List Nat}{b:Nat}{k w f to:Int}{A:Option Addr}{n c:Nat}{ps:List (Option Addr)}{l:List Nd}(h1:lo≤b∧b<h.size∧b∉cap)(hc:C7 h b (D6 k w f to (.val (.slice A n c))))(hk:D3 E1 h cap A n ps)(ha:∀ a,0<n→A=some a→lo≤a.block)(hT:L3 lo h cap ps l) :
 Q2 lo h cap (some ⟨b,0,none⟩) (.mk k w f to l):=by
 simp only [Q2]
 exact⟨b,A,n,c,ps,rfl,h1,hc,hk,ha,hT⟩
theorem HS.two{S:St}{h:A3}(hs:HS S h){k1 k2 b1 b2:Nat}{c1 c2:D8}(h1:B3 S.ch k1=some (b1,c1))(h2:B3 S.ch k2=some (b2,c2))(hk:k1≠k2)(j1 j2:Nat):HS ⟨h,[b1,b2],[(j1,b1,c1),(j2,b2,c2)]⟩ h:=by
 refine⟨Nat.le_refl _,fun _ _ _=>rfl,fun e he=>?_,?_⟩
 ·rcases List.mem_cons.1 he with rfl|he
  ·exact⟨(hs.chunk _ (fM h1)).1,.inr (by simp),(hs.chunk _ (fM h1)).2.2⟩
  ·rcases List.mem_cons.1 he with rfl|he
   ·exact⟨(hs.chunk _ (fM h2)).1,.inr (by simp),(hs.chunk _ (fM h2)).2.2⟩
   ·cases he
 ·refine List.pairwise_cons.2 ⟨fun e he=>?_,List.pairwise_singleton _ _⟩
  rw [List.mem_singleton.1 he]
  exact hs.ne h1 h2 hk
section
variable {I:In}{M:O6}{br bn:Nat}{t:Bool}{n:Int}{h:A3}
theorem Vs(hs:HS ⟨h,[br],G5 I M br t n⟩ h)(k:Int):CH Tryz.prog 143 #[ptr br,.int .u8 k] h fun v h'=>∃ b,v=ptr b∧(h.size≤b∧b<h'.size)∧A5 h h'∧C7 h' b (D6 k (-1) n n Q5):=by
 refine hX 4 [4] [] [.own 900 br 0,.val (.int .u8 k)] Tryz.func143 rfl hs ?_
 have hs0:=hs
 (try (conv=>whnf))
 all_goals ((refine C2 (id:=1) (.pl [0,1,2,3,5,6,7,4,8,9] (.on [10] (.pl [11] .e))) (by kernel_rfl) ?_))
 ((repeat' (conv=>whnf);first|(refine VC.mk (by omega) ?_)|(refine E5.mk ?_;intro b hb)|fail);all_goals try conv=>whnf)
 all_goals exact⟨fun h' hs=>⟨_,rfl,⟨by assumption,(hs.chunk _ (List.mem_cons_self)).1⟩,hs0.gB hs rfl,(hs.chunk _ (List.mem_cons_self)).2.2⟩⟩
theorem Cq{k w f to:Int}{A:Option Addr}{len c:Nat}{ps:List (Option Addr)}(hs:HS ⟨h,[br,bn],[(900,br,H5 I M t n),(901,bn,D6 k w f to Q5)]⟩ h)(hy:D3 E1 h [br,bn] A len ps)(hl:ps.length≤1000000) :
 CH Tryz.prog 109 #[ptr br,ptr bn,.slice A len c] h fun v h'=>v=ptr bn∧∃ A' n' c',HS ⟨h,[br,bn],[(900,br,H5 I M t n),(901,bn,D6 k w f n (.val (.slice A' n' c')))]⟩ h'∧Sl E1 h' A' n' ps∧∀ a,0<n'→A'=some a→h.size≤a.block∧a.block<h'.size∧a.block≠bn:=by
 refine hX 4 [6] [] [.own 900 br 0,.own 901 bn 0,.val (.slice A len c)] Tryz.func109 rfl hs ?_
 have hlen:=hy.sl.len_eq
 ((repeat' (conv=>whnf);first|(refine VC.mk (by (first|omega|(and_intros<;>first|omega|rfl|(simp only [maxLen];omega)))) ?_)|(refine Br.mk ?_ ?_<;>intro hb)|(refine aH.mk ?_;intro b c hb hbc)|(refine If.held hy ?_)|fail);all_goals try conv=>whnf)
 ·have hz:ps=[]:=List.eq_nil_of_length_eq_zero (by assumption)
  subst hz
  exact⟨fun h' hs=>⟨rfl,none,0,0,hs.ren [900,901] (B4 rfl rfl (B4 rfl rfl E8)),Sl.nil _ _ _,fun a h0=>absurd h0 (Nat.lt_irrefl 0)⟩⟩
 ·refine⟨fun h' hs=>⟨rfl,some ⟨_,0,none⟩,_,_,hs.ren [900,901] (B4 rfl rfl (F9 rfl (SC.box rfl) rfl E8)),?_,fun a h0 e=>?_⟩⟩
  ·have:=hs.sl (k:=13) rfl (Nat.le_refl ps.length)
   rw [List.take_length] at this
   exact this
  ·cases e
   exact⟨by assumption,(hs.chunk _ (List.mem_cons_self)).1,hs.ne (k:=13) (k':=901) rfl rfl (by decide)⟩
theorem tM{bf cf:Nat}{ps0:List (Option Addr)}{k w f to:Int}{A:Option Addr}{len c:Nat}{ps:List (Option Addr)}(hs:HS ⟨h,[br,bn,bf],[(900,br,H5 I M t n),(901,bn,D6 k w f to (.osl 902 bf (ps0.length:Int) cf)),(902,bf,.arr 63 E1 ps0 cf)]⟩ h)(hy:D3 E1 h [br,bn,bf] A len ps)(hl:ps0.length+ps.length≤1000000) :
 CH Tryz.prog 109 #[ptr br,ptr bn,.slice A len c] h fun v h'=>v=ptr bn∧∃ A' n' c',HS ⟨h,[br,bn,bf],[(900,br,H5 I M t n),(901,bn,D6 k w f n (.val (.slice A' n' c')))]⟩ h'∧Sl E1 h' A' n' (ps0++ps)∧∀ a,0<n'→A'=some a→(h.size≤a.block∨a.block=bf)∧a.block<h'.size∧a.block≠bn∧a.block≠br:=by
 refine hX 4 [6] [] [.own 900 br 0,.own 901 bn 0,.val (.slice A len c)] Tryz.func109 rfl hs ?_
 have hlen:=hy.sl.len_eq
 have hz:((ps0.length:Int)+(ps.length:Int)).toNat=ps0.length+ps.length:=by omega
 ((repeat' (conv=>whnf);first|(refine VC.mk (by (first|omega|(and_intros<;>first|omega|rfl|(simp only [maxLen];omega)))) ?_)|(refine X0.mk ?_;intro b c hb hbc)|(refine If.held hy ?_)|fail);all_goals try conv=>whnf)
 refine⟨fun h' hs=>⟨rfl,some ⟨b,0,none⟩,ps0.length+ps.length,c,hs.ren [900,901] (B4 rfl rfl (F9 rfl (SC.box (by simp [A0,hz])) rfl E8)),?_,fun a h0 e=>?_⟩⟩
 ·have:=hs.sl (k:=13) rfl (Nat.le_refl _)
  rw [List.take_length] at this
  simpa using this
 ·cases e
  refine⟨hb.imp (fun h=>h) (fun h=>h.1),(hs.chunk _ (List.mem_cons_self)).1,hs.ne (k:=13) (k':=901) rfl rfl (by decide),hs.ne (k:=13) (k':=900) rfl rfl (by decide)⟩
end
end Go.Ex
