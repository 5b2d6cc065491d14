/-
  Top: TopComments: whatever the input, the law answers true (part 4)
-/
import Derived.Lib.AppendStr
import Derived.Test.YtpjdgifhhnjclaaGreatDoorM03
set_option linter.unusedVariables false
set_option linter.unusedSimpArgs false
set_option maxHeartbeats 4000000
set_option maxRecDepth 10000
namespace Go.Ex
variable {Df:List Deferred}
section
variable {P:Program}{ty:Nat→Option gS}{rep:Nat→Option oP}{S:St}{K:Kn}
theorem Eu(o:Nat)(xs:List Value)(acc:Array Value)(h:o+xs.length≤acc.size) :
 (xs.toArray.zipIdx.foldl (fun (cs:Array Value) (x:Value×Nat)=>cs.setIfInBounds (o+x.2) x.1) acc)=(acc.toList.take o++xs++acc.toList.drop (o+xs.length)).toArray:=by
 obtain⟨h1,h2⟩:=tE o xs 0 acc (by simpa using h)
 have e:(xs.toArray.zipIdx.foldl (fun (cs:Array Value) (x:Value×Nat)=>cs.setIfInBounds (o+x.2) x.1) acc)=xs.zipIdx.foldl (fun (cs:Array Value) (x:Value×Nat)=>cs.setIfInBounds (o+x.2) x.1) acc:=by simp
 rw [e]
 refine Array.ext_getElem? fun j=>?_
 rw [h2 j]
 simp only [Nat.add_zero]
 by_cases h2:o≤j∧j<o+xs.length
 ·rw [if_pos h2,List.getElem?_toArray,List.append_assoc,List.getElem?_append_right (by simp;omega),List.getElem?_append_left (by simp;omega)]
  congr 1;simp;omega
 ·have e2:acc[j]?=acc.toList[j]?:=by simp
  rw [if_neg h2,e2]
  simp only [List.getElem?_toArray]
  by_cases h3:j<o
  ·rw [List.append_assoc,List.getElem?_append_left (by simp;omega),List.getElem?_take_of_lt h3]
  ·rw [List.getElem?_append_right (by simp;omega),List.getElem?_drop]
   rw [show o+xs.length+(j-(List.take o acc.toList++xs).length)=j by simp;omega]
theorem mO{τ:Type}{R:Y7 τ}{n:Nat}{a:Act}(ha:H9 Df n a K):∀ (parts:List (Nat×Operand)) (m:Nat) (κ:List τ→Prop),zQ R K parts m κ →
 ∃ es,κ es∧es.length=parts.length∧∀ pre:Array Value,pre.size=(m+parts.length)*R.sz →
  Instr.fill (fun i=>some (i*R.sz,R.sz)) pre (parts.map fun (i,x)=>(i,a.eval x))=some (pre.toList.take (m*R.sz)++es.flatMap R.cells).toArray
 |[],m,κ,h=>⟨[],h,rfl,fun pre hp=>by simp at hp;simp only [Instr.fill,List.map_nil,List.flatMap_nil,List.append_nil,←hp];rw [List.take_of_length_le (by simp)]⟩
 |(j,x)::r,m,κ,h=>by
  simp only [zQ] at h
  split at h
  ·rename_i hj
   have:=Qk hj
   subst this
   split at h
   ·rename_i v hv
    obtain⟨l,h,hcl,hone⟩:=aF h
    split at h
    ·rename_i e he
     have he':=R.un_ok _ _ he
     obtain⟨es,h1,h2,h3⟩:=mO ha r (j+1) _ h
     refine⟨e::es,h1,by simp [h2],fun pre hp=>?_⟩
     have hsz:(l.map A0).length=R.sz:=by rw [←he'];exact R.len e
     simp only [List.length_cons] at hp
     have hmul:(j+(r.length+1))*R.sz=j*R.sz+R.sz+r.length*R.sz:=by rw [Nat.add_mul,Nat.succ_mul];omega
     simp only [List.map_cons,ha.eval hv,Instr.fill,hcl]
     rw [if_neg (by simp only [List.size_toArray,hsz];simp;omega)]
     rw [Eu _ _ _ (by rw [hsz];omega)]
     rw [h3 _ (by
      simp only [List.size_toArray,List.length_append,List.length_take,List.length_drop,Array.length_toList,hsz]
      rw [show (j+1+r.length)*R.sz=j*R.sz+R.sz+r.length*R.sz by rw [Nat.add_mul,Nat.add_mul];omega]
      omega)]
     simp only [List.flatMap_cons,he']
     have e4:(pre.toList.take (j*R.sz)).length=j*R.sz:=by simp;omega
     rw [List.take_append_of_le_length (by simp only [List.length_append,e4,hsz];rw [Nat.succ_mul];omega),
      List.take_of_length_le (by simp only [List.length_append,e4,hsz];rw [Nat.succ_mul];omega),List.append_assoc]
    ·exact h.elim
   ·exact h.elim
  ·exact h.elim
theorem rW{t e len:Nat}{i:gS}(hu:P.underlying t=some (.slice e))(hi:mZ P e i)(parts:Array (Nat×Value))(cells:Array Value)(hlim:len*i.sz≤16777216)
 (hf:∀ pre:Array Value,pre.size=len*i.sz→Instr.fill (fun j=>some (j*i.sz,i.sz)) pre parts.toList=some cells) (w:World) :
 (Instr.buildSlice t len parts).run P w = .ok (.slice (some ⟨w.heap.size,0,none⟩) len len) (w.alloc (.cells cells e)):=by
 have n1:¬ (16777216<len*i.sz):=by omega
 by_cases h0:len*i.sz=0
 ·simp only [Instr.buildSlice]
  simp [underlying,hu,hi.size w,h0,newRow]
  rw [hf _ (by simp [h0])]
  simp
 ·have hz:=hi.zeroR w
  simp only [Instr.buildSlice]
  simp [underlying,hu,hi.size w,h0,hz,n1,newRow]
  rw [hf _ (by simp)]
  simp
theorem rV{t e:Nat}{i:gS}(hu:P.underlying t=some (.slice e))(hi:mZ P e i)(k1 k2:IntKind)(l c:Int)(h0:0≤l)(h1:l≤c)(h2:(i.bytes:Int)*c≤281474976710656)(h3:c≤9223372036854775807)(w:World) :
 (Instr.makeSlice t (.int k1 l) (.int k2 c)).run P w = .ok (.slice (some ⟨w.heap.size,0,none⟩) l.toNat c.toNat) (w.alloc (.cells (madeCells i.zero.toArray (c.toNat*i.sz)) e)):=by
 obtain⟨x,hx,hz,hs,hb⟩:=hi.parts
 have:=run_make (P:=P) w t e x (eH i) hu hx hz k1 k2 l c h0 h1 (by rw [hb];exact h2) h3
 rw [this,hi.zcells,hs]
theorem Ko(z:List Value)(n m:Nat)(hz:0<z.length)(hmn:m≤n):(madeCells z.toArray (n*z.length)).toList.take (m*z.length)=(List.replicate m z).flatten:=by
 refine List.ext_getElem? fun j=>?_
 by_cases hj:j<m*z.length
 ·have:m*z.length≤n*z.length:=Nat.mul_le_mul_right _ hmn
  rw [List.getElem?_take_of_lt hj]
  have e1:(madeCells z.toArray (n*z.length)).toList[j]?=some (z[j % z.length]'(Nat.mod_lt _ hz)):=by
   simp only [madeCells,Array.getElem?_toList,Array.getElem?_map]
   rw [Array.getElem?_range]
   rw [if_pos (by omega)]
   simp [Nat.mod_lt _ hz]
  rw [e1]
  have key:∀ (m j:Nat),j<m*z.length→((List.replicate m z).flatten)[j]?=some (z[j % z.length]'(Nat.mod_lt _ hz)):=by
   intro m
   induction m with
   |zero=>intro j h;omega
   |succ m ih=>
    intro j h
    rw [List.replicate_succ,List.flatten_cons]
    by_cases h1:j<z.length
    ·rw [List.getElem?_append_left h1,List.getElem?_eq_getElem h1];simp [Nat.mod_eq_of_lt h1]
    ·rw [List.getElem?_append_right (by omega),ih _ (by rw [Nat.succ_mul] at h;omega)]
     have:(j-z.length) % z.length=j % z.length:=(Nat.mod_eq_sub_mod (by omega)).symm
     simp [this]
  exact (key m j hj).symm
 ·rw [List.getElem?_eq_none (by rw [List.length_take];omega),List.getElem?_eq_none (by simp;omega)]
theorem cR(w:World)(o:Obj):SE w (w.alloc o):=⟨rfl,rfl,rfl⟩
theorem aW{dst:Option Nat}{c:D8}{κ:Nat→Nat→St→Prop}(hk:Tc dst S c κ){w:World}(hs:HS S w.heap)(o:Obj)(hat:C7 (w.alloc o).heap w.heap.size c) :
 ∃ d S',dst=some d∧κ d w.heap.size S'∧HS S' (w.alloc o).heap:=by
 unfold Tc at hk
 split at hk
 ·rename_i d
  obtain⟨ch,h1,h2,_⟩:=G7 (hk.go w.heap.size hs.size)
  refine⟨d,_,rfl,S9 h1,hs.new h2 (Nat.le_refl _) (by simp) (fun k hk=>?_) hat⟩
  exact Go.RowKit.Below.heap_alloc w o k hk
 ·exact hk.elim
theorem Sl.hs{τ:Type}{R:Y7 τ}{A:Option Addr}{n:Nat}{xs:List τ}(hsl:Sl R S.h0 A n xs)(hc:∀ a,A=some a→¬ a.block∈S.cap){h:A3}(hs:HS S h):Sl R h A n xs:=by
 refine⟨hsl.len_eq,hsl.small,fun h0=>?_⟩
 obtain⟨b,o,rfl,hb,hh⟩:=hsl.at_ h0
 exact⟨b,o,rfl,Nat.lt_of_lt_of_le hb hs.size,fun i hi j v hv=>hs.sl_cell hb (hc _ rfl) (hh i hi j v hv)⟩
theorem Sl.news{τ:Type}{R:Y7 τ}{A:Option Addr}{n:Nat}{xs:List τ}{w:World}(hsl:Sl R w.heap A n xs)(hn:0<n):∃ a,A=some a∧∀ j u,(xs.flatMap R.cells)[j]?=some u→w.cell? (a.add j)=some u:=by
 obtain⟨b,o,rfl,hb,hh⟩:=hsl.at_ hn
 refine⟨_,rfl,fun j u hu=>?_⟩
 rw [bT,S0]
 have hpos:=R.pos
 have hj:j<xs.length*R.sz:=by have:=(List.getElem?_eq_some_iff.1 hu).1;rwa [G4] at this
 obtain⟨q,s,rfl,hs⟩:∃ q s,j=q*R.sz+s∧s<R.sz:=⟨j / R.sz,j % R.sz,by rw [Nat.mul_comm];exact (Nat.div_add_mod j R.sz).symm,Nat.mod_lt _ hpos⟩
 have hq:q<xs.length:=by
  rcases Nat.lt_or_ge q xs.length with h|h
  ·exact h
  ·have:=Nat.mul_le_mul_right R.sz h;omega
 rw [mH R xs q s hq hs] at hu
 have:=hh q (by rw [←hsl.len_eq];exact hq) s u hu
 rw [←Nat.add_assoc];exact this
theorem tH{τ:Type}(R:Y7 τ)(xs:List τ):∀ u∈xs.flatMap R.cells,u.oneCell'=true:=fun u hu=>by
 obtain⟨x,_,hx⟩:=List.mem_flatMap.1 hu
 exact R.one x u hx
theorem pD{τ:Type}{R:Y7 τ}{y:KV}{κ:List τ→Prop}(hk:Ok R S y κ):∃ ys,κ ys∧∀ w:World,HS S w.heap→∃ A c,B0 y = .slice A ys.length c∧(0<ys.length→∃ a,A=some a∧∀ j u,(ys.flatMap R.cells)[j]?=some u→w.cell? (a.add j)=some u)∧(∀ a,y = .val a→y = .val (.slice A ys.length c)):=by
 unfold Ok at hk
 split at hk
 ·rename_i k b m c
  split at hk
  ·rename_i b' τ2 T R2 ys c' hf
   obtain⟨⟨rfl,h0,h1,rfl⟩,⟨hk⟩⟩:=hk
   refine⟨_,hk,fun w hs=>?_⟩
   have hl:(ys.take m.toNat).length=m.toNat:=by rw [List.length_take];omega
   refine⟨some ⟨b,0,none⟩,c,by simp only [hl];rfl,fun _=>⟨_,rfl,fun j u hu=>?_⟩,fun a ha=>by cases ha⟩
   rw [bT,S0]
   obtain⟨cur,hg,htk,hcap,hcm,hcs⟩:=(hs.chunk _ (fM hf)).2.2
   have hj:j<m.toNat*R.sz:=by have:=(List.getElem?_eq_some_iff.1 hu).1;rwa [G4,hl] at this
   have hle:m.toNat*R.sz≤ys.length*R.sz:=Nat.mul_le_mul_right _ (by omega)
   have e:((ys.take m.toNat).flatMap R.cells)[j]?=(ys.flatMap R.cells)[j]?:=by
    conv=>rhs;rw [←List.take_append_drop m.toNat ys,List.flatMap_append]
    rw [List.getElem?_append_left (by rw [G4,hl];exact hj)]
   rw [e,←htk,List.getElem?_take_of_lt (by omega)] at hu
   simp only [K5,hg,Nat.zero_add]
   simpa using hu
  ·exact hk.elim
 ·rename_i k b sz o m c
  split at hk
  ·rename_i b' τ2 T R2 ys c' hf
   obtain⟨⟨rfl,ho,h0,h1,rfl,rfl⟩,⟨hk⟩⟩:=hk
   refine⟨_,hk,fun w hs=>?_⟩
   have hl:((ys.drop o.toNat).take m.toNat).length=m.toNat:=by rw [List.length_take,List.length_drop];omega
   obtain⟨cur,hg,htk,hcap,hcm,hcs⟩:=(hs.chunk _ (fM hf)).2.2
   refine⟨some ⟨b,if c=o.toNat then 0 else o.toNat*R.sz,none⟩,c-o.toNat,by simp only [hl];rfl,fun hpos=>⟨_,rfl,fun j u hu=>?_⟩,fun a ha=>by cases ha⟩
   rw [hl] at hpos
   rw [if_neg (by omega),bT,S0]
   have hj:j<m.toNat*R.sz:=by have:=(List.getElem?_eq_some_iff.1 hu).1;rwa [G4,hl] at this
   have e:(((ys.drop o.toNat).take m.toNat).flatMap R.cells)[j]?=(ys.flatMap R.cells)[o.toNat*R.sz+j]?:=by
    have e1:ys=ys.take o.toNat++((ys.drop o.toNat).take m.toNat++(ys.drop o.toNat).drop m.toNat):=by rw [List.take_append_drop,List.take_append_drop]
    have e2:(ys.take o.toNat).length=o.toNat:=by rw [List.length_take];omega
    conv=>rhs;rw [e1,List.flatMap_append,List.flatMap_append]
    rw [List.getElem?_append_right (by rw [G4,e2];omega),G4,e2,Nat.add_sub_cancel_left,List.getElem?_append_left (by rw [G4,hl];exact hj)]
   have hle:(o.toNat+m.toNat)*R.sz≤ys.length*R.sz:=Nat.mul_le_mul_right _ (by omega)
   rw [Nat.add_mul] at hle
   rw [e,←htk,List.getElem?_take_of_lt (by omega)] at hu
   simp only [K5,hg]
   simpa using hu
  ·exact hk.elim
 ·rename_i A m c
  obtain⟨xs,hsl,hcap,hk⟩:=hk
  refine⟨xs,hk,fun w hs=>⟨A,c,by rw [hsl.len_eq];rfl,fun h0=>(hsl.hs (hcap (by rw [←hsl.len_eq];exact h0)) hs).news (by rw [←hsl.len_eq];exact h0),fun a ha=>by rw [hsl.len_eq]⟩⟩
 ·exact hk.elim
theorem bM{n:Nat}{a:Act}(ha:H9 Df n a K):∀ (xs:List Operand) (acc:List KV) (κ:List KV→Prop),tT K xs acc κ→∃ vs,κ vs∧vs.map A1=acc.reverse.map A1++xs.map a.eval
 |[],acc,κ,h=>⟨_,h,by simp⟩
 |x::r,acc,κ,h=>by
  simp only [tT] at h
  split at h
  ·rename_i v hv
   obtain⟨h1,h2⟩:=qR h
   obtain⟨vs,h3,h4⟩:=bM ha r _ _ h1
   exact⟨vs,h3,by rw [h4];simp [ha.eval hv,h2]⟩
  ·exact h.elim
theorem sK{w:World}{b T n cap:Nat}{τ:Type}{R:Y7 τ}{xs:List τ}(hat:C7 w.heap b (.arr T R xs cap))(hn:n≤xs.length) :
 w.ownsRow b T R.sz (.slice (some ⟨b,0,none⟩) n cap) n ((xs.take n).flatMap R.cells):=by
 obtain⟨cur,hg,htk,hcap,hcm,hcs⟩:=hat
 refine⟨by rw [G4,List.length_take];congr 1;omega,.inr ⟨b,cap,cur,rfl,Nat.le_refl _,hg,by omega,hcm,hcs,?_⟩⟩
 have h1:n*R.sz≤xs.length*R.sz:=Nat.mul_le_mul_right _ hn
 have:=congrArg (List.take (n*R.sz)) htk
 rw [List.take_take,Nat.min_eq_left h1] at this
 rw [this]
 conv=>lhs;rw [←List.take_append_drop n xs,List.flatMap_append]
 rw [List.take_append_of_le_length (by rw [G4,List.length_take,Nat.min_eq_left hn];exact Nat.le_refl _),List.take_of_length_le (by rw [G4,List.length_take,Nat.min_eq_left hn];exact Nat.le_refl _)]
theorem Q8{w:World}{base T n cap b:Nat}{τ:Type}{R:Y7 τ}{xs:List τ}(h:w.ownsRow base T R.sz (.slice (some ⟨b,0,none⟩) n cap) n (xs.flatMap R.cells)):C7 w.heap b (.arr T R xs cap)∧xs.length=n∧base≤b∧b<w.heap.size:=by
 have hlt:=World.ownsRow.lt h b rfl
 obtain⟨h1,h2⟩:=h
 have hn:xs.length=n:=by
  rw [G4] at h1
  exact Nat.eq_of_mul_eq_mul_right R.pos h1
 rcases h2 with ⟨h2,_⟩|⟨g,cap',cur,hv,hb,hg,hnc,hcm,hcs,ht⟩
 ·cases h2
 ·cases hv
  exact⟨⟨cur,hg,by rw [hn];exact ht,by omega,hcm,hcs⟩,hn,hlt⟩
theorem jU(hty:H6 P ty){dst:Option Nat}{t:Nat}{x y:KV}{κ:KV→St→Prop}(hk:qU ty rep dst t x y S κ){w:World}(hs:HS S w.heap)(r:Nat) :
 ∃ kv S' w',κ kv S'∧SE w w'∧HS S' w'.heap∧(Builtin.append_ #[t,t] r #[B0 x,B0 y]).run P w = .ok (B0 kv) w':=by
 unfold qU at hk
 split at hk
 ·exact hk.elim
 rename_i d
 split at hk
 ·rename_i sz by_ ag ze e heq
  have hu:P.underlying t=some (.slice e):=(hty t _ heq).kind
  split at hk
  ·exact hk.elim
  rename_i i hi
  have hte:=hty e i hi
  obtain⟨inf,hinf,hz,hsz,hby⟩:=hte.parts
  split at hk
  ·split at hk
   ·exact hk.elim
   rename_i R hR
   obtain⟨ys,hk1,hy⟩:=pD hk
   clear hk
   obtain⟨⟨h1,h2,h3⟩,hk⟩:=hk1
   obtain⟨A,c,hyv,hyl,_⟩:=hy w hs
   rw [hyv]
   have hown:=World.ownsRow_nil w w.heap.size e R.sz
   by_cases h0:ys.length=0
   ·refine⟨_,_,w,hk.yes h0,SE.refl w,hs,?_⟩
    rw [h0]
    simp [Builtin.append_,run_underlying hu,sizeOf,typeInfo,hinf,Builtin.lenOf,B0,A1,A0]
    cases A with
    |none=>simp [Builtin.firstCells]
    |some a=>simp [Builtin.firstCells,loadCells,loadCellsFrom]
   ·obtain⟨a,rfl,hnews⟩:=hyl (by omega)
    obtain⟨v',w',hr,ho,hg,hv⟩:=run_append_own (P:=P) w w.heap.size t r e inf (eH i) R.sz i.bytes hu hinf hz (by rw [hsz,h1]) hby (by rw [hte.zcells];simp [hte.zlen,h1]) R.pos (.slice none 0 0) 0 [] hown a ys.length c (ys.flatMap R.cells) (G4 R ys) hnews (tH R ys) (by simp only [maxLen];omega) (by simpa using h2) (Nat.le_refl _)
    rw [Nat.zero_add,List.nil_append] at ho
    have hne:v'≠.slice none 0 0:=fun e=>h0 (hv.1 e).2
    obtain⟨b,cap,rfl⟩:∃ b cap,v' = .slice (some ⟨b,0,none⟩) ys.length cap:=by
     rcases ho.2 with ⟨h,_⟩|⟨g,cap,cur,hv',_⟩
     ·exact absurd h hne
     ·exact⟨g,cap,hv'⟩
    obtain⟨hat,_,hge,hlt⟩:=Q8 ho
    have hk':=(hk.no h0).go b cap (Nat.le_trans hs.size hge) (by obtain⟨_,_,_,hle,_⟩:=hat;exact hle)
    obtain⟨ch,h4,h5,_⟩:=G7 hk'
    exact⟨_,_,w',S9 h4,⟨hg.os,hg.tape,hg.output⟩,hs.new h5 hge hlt (fun j hj=>hg.block j hj (by simp [Value.ownBlock])) hat,hr⟩
  ·rename_i k b n c0
   split at hk
   ·rename_i b' τ T R xs c' hf
    obtain⟨ys,hk1,hy⟩:=pD hk
    clear hk
    obtain⟨⟨rfl,rfl,rfl,h1,hn0,hn1,h2,h3⟩,hk⟩:=hk1
    have hb0:=(hs.chunk _ (fM hf)).2.1
    obtain⟨A,c,hyv,hyl,_⟩:=hy w hs
    rw [hyv]
    have hmem:=fM hf
    have hch:=(hs.chunk _ hmem).2.2
    have hcb:=(hs.chunk _ hmem).1
    have hown:=sK (n:=n.toNat) hch (by omega)
    have hdx:B0 (.osl k b n c0) = .slice (some ⟨b,0,none⟩) n.toNat c0:=rfl
    rw [hdx]
    have fin:∀ (b1 cap1:Nat) (w':World),(Builtin.append_ #[t,t] r #[.slice (some ⟨b,0,none⟩) n.toNat c0,.slice A ys.length c]).run P w = .ok (.slice (some ⟨b1,0,none⟩) (n.toNat+ys.length) cap1) w' →
     (b1=b∨w.heap.size≤b1)→C7 w'.heap b1 (.arr T R (xs.take n.toNat++ys) cap1)→b1<w'.heap.size→w.grownBy w' (some b) →
     ∃ kv S' w',κ kv S'∧SE w w'∧HS S' w'.heap∧(Builtin.append_ #[t,t] r #[.slice (some ⟨b,0,none⟩) n.toNat c0,.slice A ys.length c]).run P w = .ok (B0 kv) w':=by
     intro b1 cap1 w' hr hb1 hat hlt hg
     have hge:S.h0.size≤b1∨b1=b∧b∈S.cap:=by
      rcases hb1 with rfl|hb1
      ·rcases hb0 with hb0|hb0
       ·exact .inl hb0
       ·exact .inr ⟨rfl,hb0⟩
      ·exact .inl (Nat.le_trans hs.size hb1)
     obtain⟨ch1,h4,h5,h6⟩:=G7 (hk.go b1 cap1 hge (by obtain⟨_,_,_,hle,_⟩:=hat;rw [List.length_append,List.length_take] at hle;omega))
     obtain⟨ch2,h7,h8,_⟩:=G7 h4
     refine⟨_,_,w',S9 h7,⟨hg.os,hg.tape,hg.output⟩,hs.swap hmem (h8.trans h5) (fun e he=>h6 e (h8.subset he)) hg.size (fun j hj hj'=>hg.block j hj' (by simp [hj])) hb0 hb1 hlt hat,?_⟩
     rw [hr]
     simp only [B0,A1,A0]
     congr 2
     omega
    by_cases h0:ys.length=0
    ·have hys:ys=[]:=List.eq_nil_of_length_eq_zero h0
     subst hys
     refine fin b c0 w ?_ (.inl rfl) ?_ hcb ⟨rfl,rfl,rfl,Nat.le_refl _,fun _ _ _=>rfl⟩
     ·obtain⟨cur,hg,htk,hcap,hcm,hcs⟩:=hch
      have hle:n.toNat≤c0:=by omega
      simp [Builtin.append_,run_underlying hu,sizeOf,typeInfo,hinf,Builtin.lenOf,hle]
      cases A with
      |none=>simp [Builtin.firstCells,storeCells]
      |some a=>simp [Builtin.firstCells,loadCells,loadCellsFrom,storeCells]
     ·rw [List.append_nil]
      obtain⟨cur,hg,htk,hcap,hcm,hcs⟩:=hch
      have hown':=hown
      obtain⟨_,hown'⟩:=hown'
      rcases hown' with ⟨h,_⟩|⟨g,cap,cur',hv,_,hg',_,_,_,ht'⟩
      ·cases h
      ·cases hv
       rw [hg] at hg'
       cases hg'
       have hl:(xs.take n.toNat).length=n.toNat:=by rw [List.length_take];omega
       exact⟨cur,hg,by rw [hl];exact ht',by rw [hl];omega,hcm,hcs⟩
    ·obtain⟨a,rfl,hnews⟩:=hyl (by omega)
     have hbytes:(n.toNat+ys.length)*i.bytes≤140737488355328:=h2
     by_cases hroom:n.toNat+ys.length≤c0
     ·obtain⟨w',hr,ho,hg⟩:=run_append_fits (P:=P) w b t r T inf R.sz hu hinf (by rw [hsz,h1]) b n.toNat c0 _ hown a ys.length c (ys.flatMap R.cells) (G4 R ys) hnews (tH R ys) hroom
      rw [←List.flatMap_append] at ho
      obtain⟨hat,_,_,hlt⟩:=Q8 ho
      exact fin b c0 w' hr (.inl rfl) hat hlt hg
     ·obtain⟨v',w',hr,ho,hg,hv⟩:=run_append_own (P:=P) w b t r T inf (eH i) R.sz i.bytes hu hinf hz (by rw [hsz,h1]) hby (by rw [hte.zcells];simp [hte.zlen,h1]) R.pos _ n.toNat _ hown a ys.length c (ys.flatMap R.cells) (G4 R ys) hnews (tH R ys) (by simp only [maxLen];omega) h2 (Nat.le_of_lt hcb)
      have hr':=run_append_grow (P:=P) w t r T inf (eH i) hu hinf hz ⟨b,0,none⟩ n.toNat c0 ((xs.take n.toNat).flatMap R.cells) (by rw [hsz,←h1];exact hown.1) (hown.cells (g:=b) rfl) a ys.length c (ys.flatMap R.cells) (by rw [hsz,←h1];exact G4 R ys) hnews (by omega) (by omega) (growslice_fits (by omega) (by rw [hby];exact hbytes))
      rw [hr] at hr'
      injection hr' with e1 e2
      rw [←List.flatMap_append] at ho
      rw [e1] at ho hr
      obtain⟨hat,_,_,hlt⟩:=Q8 ho
      exact fin _ _ w' hr (.inr (Nat.le_refl _)) hat hlt hg
   ·exact hk.elim
  ·exact hk.elim
 ·exact hk.elim
theorem uZ(hty:H6 P ty){dst:Option Nat}{t:Nat}{x y:KV}{κ:KV→St→Prop}(hk:Ea ty rep dst t x y S κ){w:World}(hs:HS S w.heap)(r:Nat) :
 ∃ kv S' w',κ kv S'∧SE w w'∧HS S' w'.heap∧(Builtin.append_ #[t,t] r #[B0 x,B0 y]).run P w = .ok (B0 kv) w':=by
 unfold Ea at hk
 split at hk
 ·obtain⟨k,b,rfl,hk⟩:=hk
  exact jU hty hk hs r
 ·exact jU hty hk hs r
theorem lK(s:ByteArray):Lib.strCells s=(Cl s).flatMap (E9 .u8).cells:=by
 unfold Lib.strCells Cl
 induction s.data.toList with
 |nil=>rfl
 |cons b r ih=>simp only [List.map_cons,List.flatMap_cons,ih];rfl
theorem H1(s:ByteArray):(Cl s).length=s.size:=by simp [Cl]
theorem uY(hty:H6 P ty){dst:Option Nat}{t t':Nat}{x y:KV}{κ:KV→St→Prop}(hk:Da ty dst t t' x y S κ){w:World}(hs:HS S w.heap)(r:Nat) :
 ∃ kv S' w',κ kv S'∧SE w w'∧HS S' w'.heap∧(Builtin.append_ #[t,t'] r #[B0 x,B0 y]).run P w = .ok (B0 kv) w':=by
 unfold Da at hk
 split at hk
 ·exact hk.elim
 rename_i d
 split at hk
 ·rename_i sz by_ ag ze e heq
  have hu:P.underlying t=some (.slice e):=(hty t _ heq).kind
  split at hk
  ·rename_i ag1 hi
   have hte:=hty e _ hi
   obtain⟨inf,hinf,hz,hsz,hby⟩:=hte.parts
   have hag:ag1=false:=by
    cases ag1 with
    |false=>rfl
    |true=>
     have h1:=hte.agg w
     have hk1:P.underlying e=some (.int .u8):=hte.kind
     simp [isAgg,underlying,hk1] at h1
   subst hag
   have hz:inf.zero=some (.int .u8 0):=hz
   have hby:inf.bytes=1:=hby
   have hsz:inf.size=1:=hsz
   split at hk
   ·rename_i sz2 by2 ag2 ze2 heq2
    have hu':P.underlying t'=some .string:=(hty t' _ heq2).kind
    split at hk
    ·rename_i s
     have hdy:B0 (.val (.string s)) = .string s:=rfl
     rw [hdy]
     split at hk
     ·obtain⟨h1,hk⟩:=hk
      have hown:=World.ownsRow_nil w w.heap.size e 1
      obtain⟨v',w',hr,ho,hg,hv⟩:=Lib.run_append_own_string (P:=P) w w.heap.size t t' r e inf hu hu' hinf hz hsz hby (.slice none 0 0) 0 [] hown s (by simp only [maxLen];omega) (by omega) (Nat.le_refl _)
      by_cases h0:s.size=0
      ·have hv0:=hv.2 ⟨rfl,h0⟩
       subst hv0
       refine⟨_,_,w',hk.yes h0,⟨hg.os,hg.tape,hg.output⟩,?_,hr⟩
       have hbl:∀ b,b<w.heap.size→w'.heap[b]?=w.heap[b]?:=fun b hb=>hg.block b hb (by simp [Value.ownBlock])
       exact⟨Nat.le_trans hs.size hg.size,fun b hb hn=>(hbl b (Nat.lt_of_lt_of_le hb hs.size)).trans (hs.frame b hb hn),fun e he=>by
        obtain⟨a1,a2,a3⟩:=hs.chunk e he
        exact⟨Nat.lt_of_lt_of_le a1 hg.size,a2,a3.congr (hbl _ a1)⟩,hs.apart⟩
      ·rw [Nat.zero_add,List.nil_append,lK] at ho
       have hne:v'≠.slice none 0 0:=fun e=>h0 (hv.1 e).2
       obtain⟨b,cap,rfl⟩:∃ b cap,v' = .slice (some ⟨b,0,none⟩) s.size cap:=by
        rcases ho.2 with ⟨h,_⟩|⟨g,cap,cur,hv',_⟩
        ·exact absurd h hne
        ·exact⟨g,cap,hv'⟩
       obtain⟨hat,hl,hge,hlt⟩:=Q8 (R:=E9 .u8) ho
       have hk':=(hk.no h0).go b cap (Nat.le_trans hs.size hge) (by obtain⟨_,_,_,hle,_⟩:=hat;rw [hl] at hle;exact hle)
       obtain⟨ch,h4,h5,_⟩:=G7 hk'
       exact⟨_,_,w',S9 h4,⟨hg.os,hg.tape,hg.output⟩,hs.new h5 hge hlt (fun j hj=>hg.block j hj (by simp [Value.ownBlock])) hat,hr⟩
     ·rename_i k b n c0
      split at hk
      ·rename_i b' τ T R xs c' hf
       obtain⟨⟨rfl,rfl,rfl,hn0,hn1,h2⟩,hk1⟩:=hk
       have hb0:=(hs.chunk _ (fM hf)).2.1
       have hmem:=fM hf
       have hch:=(hs.chunk _ hmem).2.2
       have hcb:=(hs.chunk _ hmem).1
       generalize hys:xs.take n.toNat=ys at hk1
       obtain⟨hk⟩:=hk1
       subst hys
       have hown:=sK (n:=n.toNat) hch (by omega)
       have hdx:B0 (.osl k b n c0) = .slice (some ⟨b,0,none⟩) n.toNat c0:=rfl
       rw [hdx]
       have hl:(xs.take n.toNat).length=n.toNat:=by rw [List.length_take];omega
       obtain⟨v',w',hr,ho,hg,hv⟩:=Lib.run_append_own_string (P:=P) w b t t' r T inf hu hu' hinf hz hsz hby _ n.toNat _ hown s (by simp only [maxLen];omega) (by omega) (Nat.le_of_lt hcb)
       rw [lK,←List.flatMap_append] at ho
       have hne:v'≠.slice none 0 0:=fun e=>by have:=(hv.1 e).1;cases this
       obtain⟨b1,cap1,rfl⟩:∃ b1 cap1,v' = .slice (some ⟨b1,0,none⟩) (n.toNat+s.size) cap1:=by
        rcases ho.2 with ⟨h,_⟩|⟨g,cap,cur,hv',_⟩
        ·exact absurd h hne
        ·exact⟨g,cap,hv'⟩
       have hb1:b1=b∨w.heap.size≤b1:=by
        obtain⟨cur,hgc,htk,hcap,hcm,hcs⟩:=hch
        have hcs:cur.size=c0:=by rw [hcs];exact Nat.mul_one c0
        by_cases hroom:n.toNat+s.size≤c0
        ·have hr':=Lib.run_append_room_string (P:=P) w t t' r T inf hu hu' hinf hsz b n.toNat c0 cur hgc s hroom (by omega)
         rw [hr] at hr'
         injection hr' with e1 e2
         injection e1 with e3
         injection e3 with e4
         injection e4 with e5
         exact .inl e5
        ·have hr':=Lib.run_append_grow_string (P:=P) w t t' r T inf (.int .u8 0) hu hu' hinf hz ⟨b,0,none⟩ n.toNat c0 _ (by rw [hsz];exact hown.1) (hown.cells (g:=b) rfl) s (by omega) (by omega) (by rw [hby];exact growslice_fits (by omega) (by omega))
         rw [hr] at hr'
         injection hr' with e1 e2
         injection e1 with e3
         injection e3 with e4
         injection e4 with e5
         exact .inr (Nat.le_of_eq e5.symm)
       obtain⟨hat,_,_,hlt⟩:=Q8 (R:=E9 .u8) ho
       have hge:S.h0.size≤b1∨b1=b∧b∈S.cap:=by
        rcases hb1 with rfl|hb1
        ·rcases hb0 with hb0|hb0
         ·exact .inl hb0
         ·exact .inr ⟨rfl,hb0⟩
        ·exact .inl (Nat.le_trans hs.size hb1)
       obtain⟨ch1,h4,h5,h6⟩:=G7 (hk.go b1 cap1 hge (by
        obtain⟨_,_,_,hle,_⟩:=hat
        rw [List.length_append,H1,hl] at hle
        exact hle))
       obtain⟨ch2,h7,h8,_⟩:=G7 h4
       refine⟨_,_,w',S9 h7,⟨hg.os,hg.tape,hg.output⟩,hs.swap hmem (h8.trans h5) (fun e he=>h6 e (h8.subset he)) hg.size (fun j hj hj'=>hg.block j hj' (by simp [Value.ownBlock,hj])) hb0 hb1 hlt hat,?_⟩
       rw [hr]
       simp only [B0,A1,A0]
       congr 2
       omega
      ·exact hk.elim
     ·exact hk.elim
    ·exact hk.elim
   ·exact hk.elim
  ·exact hk.elim
 ·exact hk.elim
theorem nZ(ik:IntKind):∀ xs:List Int,xs.flatMap (E9 ik).cells=xs.map (Value.int ik)
 |[]=>rfl
 |x::xs=>by
  have:=nZ ik xs
  show [Value.int ik x]++List.flatMap (E9 ik).cells xs = _
  rw [this];rfl
theorem Dx{h:A3}{b T cap:Nat}{ik:IntKind}{ys:List Int}{c:Array Value}(hg:h[b]?=some (.cells c T (0,0)))(ht:c.toList.take ys.length=ys.map (Value.int ik))(h1:ys.length≤cap)(h2:cap≤maxLen)(h3:c.size=cap):C7 h b (.arr T (E9 ik) ys cap):=
 ⟨c,hg,by have e:=nZ ik ys;show c.toList.take (ys.length*1) = _;rw [Nat.mul_one,ht];exact e.symm,h1,h2,by show c.size=cap*1;rw [h3,Nat.mul_one]⟩
theorem Ri{t t' r e k b T c:Nat}{o m:Int}{xs:List Int}{s:ByteArray}{i:gS}(hu:P.underlying t=some (.slice e))(hi:mZ P e i)(hsz:i.sz=1)(hf:B3 S.ch k=some (b,.arr T (E9 .u8) xs c))
 (h0:0≤o) (h1:0≤m) (h2:o+m≤xs.length) {w:World} (hs:HS S w.heap) {κ:St→Prop} (hk:dF S.ch k (.arr T (E9 .u8) (Qz xs o.toNat ((Cl s).take m.toNat)) c) fun ch=>gV S ch κ) :
 ∃ S' w',κ S'∧SE w w'∧HS S' w'.heap∧(Builtin.copy_ #[t,t'] r #[B0 (.osv k b 1 o m c),.string s]).run P w = .ok (.int .i64 (min (s.size:Int) m)) w':=by
 obtain⟨l1,r1,b1,c1,e1,e2,e3⟩:=K7 hk
 rw [hf] at e2
 cases e2
 obtain⟨cur,hg,htk,hcap,hcm,hcs⟩:=(hs.chunk _ (fM hf)).2.2
 rw [show (E9 .u8).sz=1 from rfl,Nat.mul_one] at htk hcs
 rw [nZ] at htk
 have hcap':List.length (α:=Int) xs≤c:=hcap
 have htk':cur.toList.take (List.length (α:=Int) xs)=xs.map (Value.int .u8):=htk
 clear htk hcap
 have hlen:((Cl s).take m.toNat).length=Nat.min s.size m.toNat:=by rw [List.length_take,H1];exact Nat.min_comm _ _
 have hmin:Nat.min s.size m.toNat≤m.toNat:=Nat.min_le_right _ _
 obtain⟨cells,hcells⟩:∃ cells,cells=((Cl s).take m.toNat).map (Value.int .u8):=⟨_,rfl⟩
 have hcl:cells.length=Nat.min s.size m.toNat:=by rw [hcells,List.length_map,hlen]
 obtain⟨q,hq⟩:∃ q,q=if c=o.toNat then 0 else o.toNat:=⟨_,rfl⟩
 have hqs:q+cells.length≤cur.size:=by rw [hcl,hcs];rw [hq];split<;>omega
 have hst:=run_storeCells_at P b q T cells 0 cur w hg (by omega) (by
  intro v hv;rw [hcells] at hv;obtain⟨x,_,rfl⟩:=List.mem_map.1 hv;rfl)
 rw [Nat.add_zero] at hst
 have hext:((s.extract 0 (Nat.min s.size m.toNat)).data.map fun b=>Value.int .u8 b.toNat)=cells.toArray:=by
  refine Array.ext' ?_
  rw [hcells]
  have hm:min (min s.size m.toNat) s.data.toList.length=min m.toNat s.data.toList.length:=by
   have:s.data.toList.length=s.size:=by simp
   rw [this];omega
  simp only [Cl,ByteArray.data_extract,Array.toList_map,Array.toList_extract,List.map_take,List.map_map]
  simp only [List.extract_eq_take_drop,List.drop_zero,Nat.sub_zero,List.map_take]
  rw [show Nat.min s.size m.toNat=min s.size m.toNat from rfl]
  rw [List.take_eq_take_iff.2 (by simpa using hm)]
  congr 1
 refine⟨_,w.setRow b (cur.toList.take q++cells++cur.toList.drop (q+cells.length)).toArray,S9 e3,fV _ _ _,hs.upd e1 (by simp) (fun j hj _=>setRow_other w b j _ hj) (Dx (setRow_heap w b _ _ _ _ hg) ?_ ?_ hcm ?_),?_⟩
 ·have hsl:(Qz xs o.toNat ((Cl s).take m.toNat)).length=xs.length:=by
   simp only [Qz,List.length_append,List.length_take,List.length_drop,hlen];rw [←H1] at hlen ⊢;simp only [List.length_take] at hlen;omega
  rw [hsl]
  by_cases hc:c=o.toNat
  ·have h0':cells=[]:=List.eq_nil_of_length_eq_zero (by omega)
   have hy:(Cl s).take m.toNat=[]:=by rw [hcells] at h0';simpa using h0'
   rw [h0',hy]
   simp only [Qz,List.append_nil,List.length_nil,Nat.add_zero,List.take_append_drop]
   exact htk'
  ·have hqo:q=o.toNat:=by rw [hq,if_neg hc]
   rw [hqo]
   simp only [Qz]
   have hcur:cur.toList=xs.map (Value.int .u8)++cur.toList.drop xs.length:=by rw [←htk',List.take_append_drop]
   have e5:cur.toList.take o.toNat=(xs.take o.toNat).map (Value.int .u8):=by
    rw [hcur,List.take_append_of_le_length (by simp;omega),List.map_take]
   have e6:(cur.toList.drop (o.toNat+cells.length)).take (xs.length-(o.toNat+cells.length))=(xs.drop (o.toNat+cells.length)).map (Value.int .u8):=by
    rw [hcur,List.drop_append_of_le_length (by simp;omega),List.take_append_of_le_length (by simp),List.map_drop,List.take_of_length_le (by simp)]
   have hle:o.toNat+cells.length≤xs.length:=by omega
   have hcl2:cells.length=((Cl s).take m.toNat).length:=by rw [hcl,hlen]
   rw [List.toList_toArray]
   rw [show xs.length=(cur.toList.take o.toNat++cells).length+(xs.length-(o.toNat+cells.length)) by
    simp only [List.length_append,List.length_take,Array.length_toList];omega]
   rw [List.take_length_add_append,e5,e6,hcells]
   simp [hcl2,List.map_append]
 ·simp only [Qz,List.length_append,List.length_take,List.length_drop];rw [List.length_take] at hlen;simp only [H1] at hlen ⊢;omega
 ·simp only [List.size_toArray,List.length_append,List.length_take,List.length_drop,Array.length_toList]
  omega
 ·have hd:B0 (.osv k b 1 o m c) = .slice (some ⟨b,q,none⟩) m.toNat (c-o.toNat):=by rw [hq];simp [B0,A1,A0]
  have hr:(goInt (Nat.min s.size m.toNat:Nat)) = .int .i64 (min (s.size:Int) m):=by
   simp only [goInt];congr 1
   rw [show Nat.min s.size m.toNat=min s.size m.toNat from rfl];omega
  have hfc:(Builtin.firstCells 1 (Nat.min s.size m.toNat) (.string s)).run P w = .ok cells.toArray w:=by
   simp only [Builtin.firstCells,hext];rfl
  rw [hd,←hr]
  simp only [Builtin.copy_]
  simp [underlying,hu,Builtin.lenOf,hi.size w,hsz,hfc,hst]
theorem Je(hty:H6 P ty){t t' r:Nat}{x y:KV}{κ:KV→St→Prop}(hk:Yu ty t x y S κ){w:World}(hs:HS S w.heap) :
 ∃ kv S' w',κ kv S'∧SE w w'∧HS S' w'.heap∧(Builtin.copy_ #[t,t'] r #[B0 x,B0 y]).run P w = .ok (B0 kv) w':=by
 unfold Yu at hk
 split at hk
 ·rename_i sz by_ ag ze e heq
  have hu:P.underlying t=some (.slice e):=(hty t _ heq).kind
  split at hk
  ·rename_i by2 ag2 ze2 heq2
   split at hk
   ·rename_i s
    split at hk
    ·rename_i k b sz o m c
     split at hk
     ·rename_i b' τ T R xs c' hf
      obtain⟨⟨rfl,rfl,h0,h1,h2,rfl⟩,⟨hk⟩⟩:=hk
      obtain⟨S',w',e1,e2,e3,e4⟩:=Ri (r:=r) (t':=t') hu (hty e _ heq2) rfl hf h0 h1 h2 hs hk
      exact⟨_,S',w',e1,e2,e3,e4⟩
     ·exact hk.elim
    ·exact hk.elim
   ·exact hk.elim
  ·exact hk.elim
 ·exact hk.elim
end
end Go.Ex
