/-
  Top: TopComments: whatever the input, the law answers true (part 29)
-/
import Derived.Test.YtpjdgifhhnjclaaGreatDoorM28
set_option linter.unusedVariables false
set_option linter.unusedSimpArgs false
set_option maxHeartbeats 4000000
set_option maxRecDepth 10000
namespace Go.Ex
open Go.Proofs
section
variable {P:Program}{ops:Array Oper}{Q:Exit→Act→World→Prop}{r:List Oper}{a:Act}{w w':World}{o:Oper}
theorem fN{v:Value}(hg:o.guard=none)(hv:(execOp a.eval o).run P w = .ok (.value v) w')(h:wpList P ops Q r (a.put o.dst v) w'):wpList P ops Q (o::r) a w:=by
 unfold wpList
 rw [if_pos (by simp [Region.wanted,hg])]
 refine .inl ?_
 rw [Oper.wp,hv]
 exact h
theorem I0{b:Nat}{L:List (ByteArray×Value)}{s:ByteArray}{val:Value}{t kt et:TypeId}{m k x:Operand}(hg:o.guard=none)(hd:o.dst=none)(ho:o.op = .insert t m k x)(em:a.eval m = .map (some b))(ek:a.eval k = .string s)(ex:a.eval x=val)
 (hm:P.underlying t=some (.map kt et)) (hk:P.underlying kt=some .string) (hM:Y8 w.heap b L) (hne:∀ p∈L,p.1≠s)
 (hn:∀ w2,SE w w2→Y8 w2.heap b (L++[(s,val)])→w2.heap.size=w.heap.size→(∀ i,i≠b→w2.heap[i]?=w.heap[i]?)→wpList P ops Q r a w2):wpList P ops Q (o::r) a w:=by
 obtain⟨h',e1,e2,e3,e4⟩:=Y8.insert (val:=val) hm hk hM hne
 unfold wpList
 rw [if_pos (by simp [Region.wanted,hg])]
 refine .inl ?_
 have hv:(execOp a.eval o).run P w = .ok .skip { w with heap:=h' }:=by
  simp only [execOp,ho,em,ek,ex]
  simp [e1,Result.andThen]
 rw [Oper.wp,hv,Oper.upon_skip,hd]
 exact hn _ ⟨rfl,rfl,rfl⟩ e2 e3 e4
end
theorem A5.at{h h1 h2:A3}{b:Nat}(hg:A5 h h1)(hb:h.size≤b)(hs:h2.size=h1.size)(he:∀ i,i≠b→h2[i]?=h1[i]?):A5 h h2:=
 ⟨by rw [hs];exact hg.size,fun i hi=>(he i (by omega)).trans (hg.same i hi)⟩
abbrev dH(f:Nat):Value:=.func (.func f) ⟨[]⟩ ⟨[]⟩
def fJ:List (ByteArray×Value):=[((⟨#[99,111,110,115,116]⟩:ByteArray),dH 198),((⟨#[118,97,114]⟩:ByteArray),dH 198),((⟨#[116,121,112,101]⟩:ByteArray),dH 198),((⟨#[103,111]⟩:ByteArray),dH 199),((⟨#[100,101,102,101,114]⟩:ByteArray),dH 199),((⟨#[114,101,116,117,114,110]⟩:ByteArray),dH 200),((⟨#[98,114,101,97,107]⟩:ByteArray),dH 201),((⟨#[99,111,110,116,105,110,117,101]⟩:ByteArray),dH 201),((⟨#[103,111,116,111]⟩:ByteArray),dH 201),((⟨#[102,97,108,108,116,104,114,111,117,103,104]⟩:ByteArray),dH 201),((⟨#[123]⟩:ByteArray),dH 153),((⟨#[105,102]⟩:ByteArray),dH 202),((⟨#[115,119,105,116,99,104]⟩:ByteArray),dH 203),((⟨#[115,101,108,101,99,116]⟩:ByteArray),dH 204),((⟨#[102,111,114]⟩:ByteArray),dH 205)]
theorem Dc(h:A3):CH Tryz.prog 171 #[] h fun v h'=>∃ b,v = .map (some b)∧h.size≤b∧Y8 h' b fJ∧A5 h h':=by
 refine⟨Q9 Tryz.func171 (by decide) (by rfl),fun w hw=>?_⟩
 subst hw
 have hm:=Tryz.underlying178
 have hk:=Tryz.underlying9
 refine calls_of_wp Tryz.func171 rfl ?_
 refine wp_seq (wp_region_list ?_)
 refine fN rfl rfl (wpList_nil ?_)
 refine wp_seq (wp_region_list ?_)
 refine fN rfl rfl ?_
 have hb:w.heap.size≤w.heap.size:=Nat.le_refl _
 have hA:(w.alloc (.map #[] 0)).heap=w.heap.push (.map #[] 0):=rfl
 have hM:Y8 (w.alloc (.map #[] 0)).heap w.heap.size []:=⟨#[],0,by rw [hA];simp,rfl⟩
 have hE:SE w (w.alloc (.map #[] 0)):=⟨rfl,rfl,rfl⟩
 have hG:A5 w.heap (w.alloc (.map #[] 0)).heap:=by
  rw [hA]
  exact⟨by simp,fun i hi=>by simp [Array.getElem?_push,Nat.ne_of_lt hi]⟩
 refine I0 (val:=dH 198) rfl rfl rfl rfl rfl rfl hm hk hM (by decide) fun w2 hE1 hM hs1 he1=>?_
 replace hG:=hG.at hb hs1 he1
 replace hE:=hE.trans hE1
 clear hs1 he1 hE1
 refine I0 (val:=dH 198) rfl rfl rfl rfl rfl rfl hm hk hM (by decide) fun w2 hE1 hM hs1 he1=>?_
 replace hG:=hG.at hb hs1 he1
 replace hE:=hE.trans hE1
 clear hs1 he1 hE1
 refine I0 (val:=dH 198) rfl rfl rfl rfl rfl rfl hm hk hM (by decide) fun w2 hE1 hM hs1 he1=>?_
 replace hG:=hG.at hb hs1 he1
 replace hE:=hE.trans hE1
 clear hs1 he1 hE1
 refine I0 (val:=dH 199) rfl rfl rfl rfl rfl rfl hm hk hM (by decide) fun w2 hE1 hM hs1 he1=>?_
 replace hG:=hG.at hb hs1 he1
 replace hE:=hE.trans hE1
 clear hs1 he1 hE1
 refine I0 (val:=dH 199) rfl rfl rfl rfl rfl rfl hm hk hM (by decide) fun w2 hE1 hM hs1 he1=>?_
 replace hG:=hG.at hb hs1 he1
 replace hE:=hE.trans hE1
 clear hs1 he1 hE1
 refine I0 (val:=dH 200) rfl rfl rfl rfl rfl rfl hm hk hM (by decide) fun w2 hE1 hM hs1 he1=>?_
 replace hG:=hG.at hb hs1 he1
 replace hE:=hE.trans hE1
 clear hs1 he1 hE1
 refine I0 (val:=dH 201) rfl rfl rfl rfl rfl rfl hm hk hM (by decide) fun w2 hE1 hM hs1 he1=>?_
 replace hG:=hG.at hb hs1 he1
 replace hE:=hE.trans hE1
 clear hs1 he1 hE1
 refine I0 (val:=dH 201) rfl rfl rfl rfl rfl rfl hm hk hM (by decide) fun w2 hE1 hM hs1 he1=>?_
 replace hG:=hG.at hb hs1 he1
 replace hE:=hE.trans hE1
 clear hs1 he1 hE1
 refine I0 (val:=dH 201) rfl rfl rfl rfl rfl rfl hm hk hM (by decide) fun w2 hE1 hM hs1 he1=>?_
 replace hG:=hG.at hb hs1 he1
 replace hE:=hE.trans hE1
 clear hs1 he1 hE1
 refine I0 (val:=dH 201) rfl rfl rfl rfl rfl rfl hm hk hM (by decide) fun w2 hE1 hM hs1 he1=>?_
 replace hG:=hG.at hb hs1 he1
 replace hE:=hE.trans hE1
 clear hs1 he1 hE1
 refine I0 (val:=dH 153) rfl rfl rfl rfl rfl rfl hm hk hM (by decide) fun w2 hE1 hM hs1 he1=>?_
 replace hG:=hG.at hb hs1 he1
 replace hE:=hE.trans hE1
 clear hs1 he1 hE1
 refine I0 (val:=dH 202) rfl rfl rfl rfl rfl rfl hm hk hM (by decide) fun w2 hE1 hM hs1 he1=>?_
 replace hG:=hG.at hb hs1 he1
 replace hE:=hE.trans hE1
 clear hs1 he1 hE1
 refine I0 (val:=dH 203) rfl rfl rfl rfl rfl rfl hm hk hM (by decide) fun w2 hE1 hM hs1 he1=>?_
 replace hG:=hG.at hb hs1 he1
 replace hE:=hE.trans hE1
 clear hs1 he1 hE1
 refine I0 (val:=dH 204) rfl rfl rfl rfl rfl rfl hm hk hM (by decide) fun w2 hE1 hM hs1 he1=>?_
 replace hG:=hG.at hb hs1 he1
 replace hE:=hE.trans hE1
 clear hs1 he1 hE1
 refine I0 (val:=dH 205) rfl rfl rfl rfl rfl rfl hm hk hM (by decide) fun w2 hE1 hM hs1 he1=>?_
 replace hG:=hG.at hb hs1 he1
 replace hE:=hE.trans hE1
 clear hs1 he1 hE1
 refine fN rfl rfl ?_
 refine fN rfl rfl (wpList_nil ?_)
 clear hA
 refine wp_ret ⟨rfl,.map (some w.heap.size),?_,?_⟩
 ·rw [results_tmp (t:=0) rfl];rfl
 ·exact⟨⟨hE.os,hE.tape,hE.output⟩,_,rfl,_,rfl,Nat.le_refl _,hM,hG⟩
end Go.Ex
namespace Go.Ex
open Go.Proofs
attribute [local irreducible] CH X2 word B9
theorem Qj{α β:Type}:∀ {l:List (α×β)},(l.map Prod.fst).Nodup→∀ {a:α} {b b':β},(a,b)∈l→(a,b')∈l→b=b'
 |[],_,_,_,_,h1,_=>by cases h1
 |x::r,h,a,b,b',h1,h2=>by
  simp only [List.map_cons,List.nodup_cons] at h
  rcases List.mem_cons.1 h1 with e|h5
  ·rcases List.mem_cons.1 h2 with e'|h6
   ·rw [←e] at e';exact (congrArg Prod.snd e').symm
   ·subst e;exact absurd (show a∈r.map Prod.fst from List.mem_map.2 ⟨(a,b'),h6,rfl⟩) h.1
  ·rcases List.mem_cons.1 h2 with e'|h6
   ·subst e';exact absurd (show a∈r.map Prod.fst from List.mem_map.2 ⟨(a,b),h5,rfl⟩) h.1
   ·exact Qj h.2 h5 h6
theorem yW{s:ByteArray}{v v':Value}(h1:(s,v)∈fJ)(h2:(s,v')∈fJ):v=v':=Qj (by decide) h1 h2
section
variable {I:In}{M:O6}{cE:List Nat}{hE:A3}{its:List It}{S:St}{args caps:List KV}{κ:KV→St→Prop}{E:Value→A3→Prop}{b:Nat}{s:ByteArray}{K:Kn}
theorem CK.readers(W:Wd I M cE hE S.h0 S.cap its)(ha:args.map A1++caps.map A0=[])
 (hk:∀ b h',Y8 h' b fJ→b∉blks S.ch→Wd I M cE hE h' (blks S.ch) its→κ (.val (.map (some b))) ⟨h',blks S.ch,S.ch⟩):CK Tryz.prog E 171 args caps S κ:=
 ⟨fun h hs=>.inl (by
  rw [ha]
  refine (Dc h).mono fun v h' ⟨b,e1,e2,e3,e4⟩=>?_
  refine⟨_,_,by rw [e1];rfl,(hs.later e4).anew,hk b h' e3 (fun hm=>?_) (W.anew (hs.later e4).lB)⟩
  have:=(hs.blks_of hm).1
  omega)⟩
theorem Y8.seen{L:List (ByteArray×Value)}(hM:Y8 S.h0 b L)(hb:b∉S.cap){h:A3}(hs:HS S h):Y8 h b L:=by
 obtain⟨es,cl,h1,h2⟩:=hM.go
 exact⟨es,cl,by rw [hs.frame b hM.lt hb];exact h1,h2⟩
theorem Lj(w:World):(zeroValue 176).run Tryz.prog w = .ok (.nilFunc) w:=by
 have hz:(Tryz.prog.info? 176).map (fun i=>i.zero)=some (some .nilFunc):=by kernel_rfl
 cases hi:Tryz.prog.info? 176 with
 |none=>rw [hi] at hz;cases hz
 |some i=>
  rw [hi] at hz
  have hx:i.zero=some .nilFunc:=Option.some.inj hz
  simp [zeroValue,typeInfo,hi,hx]
theorem uF.lookY{m k:Operand}{o:Oper}{v:Value}(ho:o.op = .lookup 178 m k true)(hm:H4 K m=some (.val (.map (some b))))(hk:H4 K k=some (.val (.string s)))(hM:Y8 S.h0 b fJ)(hb:b∉S.cap)(hv:(s,v)∈fJ)
 (hy:κ (.tup [.val v,.val (.bool true)]) S):uF Tryz.prog o K S κ:=⟨fun ρ w hr hs=>by
 have h1:ρ m = .map (some b):=hr m _ hm
 have h2:ρ k = .string s:=hr k _ hk
 rcases Y8.lookup (s:=s) Tryz.underlying178 Tryz.underlying9 (hM.seen hb hs) (Lj w) with ⟨v',h3,h4⟩|⟨h3,_⟩
 ·obtain rfl:=yW h3 hv
  refine⟨_,S,w,?_,⟨rfl,rfl,rfl⟩,hs,hy⟩
  simp only [execOp,ho,h1,h2]
  simp [h4,Result.andThen,B0,A1,A0]
 ·exact absurd rfl (h3 _ hv)⟩
theorem uF.lookN{m k:Operand}{o:Oper}(ho:o.op = .lookup 178 m k true)(hm:H4 K m=some (.val (.map (some b))))(hk:H4 K k=some (.val (.string s)))(hM:Y8 S.h0 b fJ)(hb:b∉S.cap)(hv:∀ p∈fJ,p.1≠s)
 (hy:κ (.tup [.val .nilFunc,.val (.bool false)]) S):uF Tryz.prog o K S κ:=⟨fun ρ w hr hs=>by
 have h1:ρ m = .map (some b):=hr m _ hm
 have h2:ρ k = .string s:=hr k _ hk
 rcases Y8.lookup (s:=s) Tryz.underlying178 Tryz.underlying9 (hM.seen hb hs) (Lj w) with ⟨v',h3,h4⟩|⟨_,h4⟩
 ·exact absurd rfl (hv _ h3)
 ·refine⟨_,S,w,?_,⟨rfl,rfl,rfl⟩,hs,hy⟩
  simp only [execOp,ho,h1,h2]
  simp [h4,Result.andThen,B0,A1,A0]⟩
end
end Go.Ex
namespace Go.Ex
open Go.Proofs
attribute [local irreducible] CH X2 word B9
theorem Ho{I:In}{n:Int}(h:B9 I n=1):Q7 I n = .ok (bI 26 n) (n+1):=by rw [Q7,if_pos h]
section
variable {I:In}{M:O6}{g:Gt}{N:Int}{t:Bool}{n:Int}
theorem Kb(ok:C6 I)(H:O8 I M g N)(w0:word I n=(⟨#[99,111,110,115,116]⟩:ByteArray))(hn:0≤n∧n≤I.L)(hN:32*(I.L+1-n)+20≤N):N3 I M 144 [] (F8 I g t n) t n 1:=fun br h hs hB=>by
 refine O9 1 [0,2,3,4,5,6,7,15,34,50] [] [.own 900 br 0] Tryz.func144 rfl hs ?_
 have W:=Wd.start ok hB
 have hl:=ok.len
 have hv:((⟨#[99,111,110,115,116]⟩:ByteArray),dH 198)∈fJ:=by simp [fJ]
 have hlt:=(I7 (I:=I) (n:=n) (by rw [w0];decide)).2
 ((repeat' (conv=>whnf);first|(refine A7 ?_ fun h1 hs=>F5 W.ok W.base hs rfl (by assumption))|(refine CK.con W (H (.declared) _ _ (by simp only [C5,A6];omega) (by omega) (by (simp only [bL];omega))) rfl rfl (fun x hx=>?_) (fun x m bq h' hx hm1 hm2=>?_);rotate_left;(try dsimp only [D1] at hm1);(conv=>whnf);intro W)|(refine CK.readers W rfl ?_;intro bm h' hM hbm W;(conv=>whnf))|(refine uF.lookY rfl rfl rfl hM hbm hv ?_)|fail);all_goals try conv=>whnf)
 all_goals first|(refine W.fn rfl (by repeat constructor) ?_ (by omega);(simp [F8,bnd,want, *];done))|(simp [F8,bnd,want, *];done)|contradiction
theorem Jb(ok:C6 I)(H:O8 I M g N)(w1:word I n=(⟨#[118,97,114]⟩:ByteArray))(hn:0≤n∧n≤I.L)(hN:32*(I.L+1-n)+20≤N):N3 I M 144 [] (F8 I g t n) t n 1:=fun br h hs hB=>by
 refine O9 1 [0,2,3,4,5,6,7,15,34,50] [] [.own 900 br 0] Tryz.func144 rfl hs ?_
 have W:=Wd.start ok hB
 have hl:=ok.len
 have hv:((⟨#[118,97,114]⟩:ByteArray),dH 198)∈fJ:=by simp [fJ]
 have hlt:=(I7 (I:=I) (n:=n) (by rw [w1];decide)).2
 ((repeat' (conv=>whnf);first|(refine A7 ?_ fun h1 hs=>F5 W.ok W.base hs rfl (by assumption))|(refine CK.con W (H (.declared) _ _ (by simp only [C5,A6];omega) (by omega) (by (simp only [bL];omega))) rfl rfl (fun x hx=>?_) (fun x m bq h' hx hm1 hm2=>?_);rotate_left;(try dsimp only [D1] at hm1);(conv=>whnf);intro W)|(refine CK.readers W rfl ?_;intro bm h' hM hbm W;(conv=>whnf))|(refine uF.lookY rfl rfl rfl hM hbm hv ?_)|fail);all_goals try conv=>whnf)
 all_goals first|(refine W.fn rfl (by repeat constructor) ?_ (by omega);(simp [F8,bnd,want, *];done))|(simp [F8,bnd,want, *];done)|contradiction
theorem Ib(ok:C6 I)(H:O8 I M g N)(w2:word I n=(⟨#[116,121,112,101]⟩:ByteArray))(hn:0≤n∧n≤I.L)(hN:32*(I.L+1-n)+20≤N):N3 I M 144 [] (F8 I g t n) t n 1:=fun br h hs hB=>by
 refine O9 1 [0,2,3,4,5,6,7,15,34,50] [] [.own 900 br 0] Tryz.func144 rfl hs ?_
 have W:=Wd.start ok hB
 have hl:=ok.len
 have hv:((⟨#[116,121,112,101]⟩:ByteArray),dH 198)∈fJ:=by simp [fJ]
 have hlt:=(I7 (I:=I) (n:=n) (by rw [w2];decide)).2
 ((repeat' (conv=>whnf);first|(refine A7 ?_ fun h1 hs=>F5 W.ok W.base hs rfl (by assumption))|(refine CK.con W (H (.declared) _ _ (by simp only [C5,A6];omega) (by omega) (by (simp only [bL];omega))) rfl rfl (fun x hx=>?_) (fun x m bq h' hx hm1 hm2=>?_);rotate_left;(try dsimp only [D1] at hm1);(conv=>whnf);intro W)|(refine CK.readers W rfl ?_;intro bm h' hM hbm W;(conv=>whnf))|(refine uF.lookY rfl rfl rfl hM hbm hv ?_)|fail);all_goals try conv=>whnf)
 all_goals first|(refine W.fn rfl (by repeat constructor) ?_ (by omega);(simp [F8,bnd,want, *];done))|(simp [F8,bnd,want, *];done)|contradiction
theorem Hb(ok:C6 I)(H:O8 I M g N)(w3:word I n=(⟨#[103,111]⟩:ByteArray))(hn:0≤n∧n≤I.L)(hN:32*(I.L+1-n)+20≤N):N3 I M 144 [] (F8 I g t n) t n 1:=fun br h hs hB=>by
 refine O9 1 [0,2,3,4,5,6,7,15,34,50] [] [.own 900 br 0] Tryz.func144 rfl hs ?_
 have W:=Wd.start ok hB
 have hl:=ok.len
 have hv:((⟨#[103,111]⟩:ByteArray),dH 199)∈fJ:=by simp [fJ]
 have hlt:=(I7 (I:=I) (n:=n) (by rw [w3];decide)).2
 ((repeat' (conv=>whnf);first|(refine A7 ?_ fun h1 hs=>F5 W.ok W.base hs rfl (by assumption))|(refine CK.con W (H (.started) _ _ (by simp only [C5,A6];omega) (by omega) (by (simp only [bL];omega))) rfl rfl (fun x hx=>?_) (fun x m bq h' hx hm1 hm2=>?_);rotate_left;(try dsimp only [D1] at hm1);(conv=>whnf);intro W)|(refine CK.readers W rfl ?_;intro bm h' hM hbm W;(conv=>whnf))|(refine uF.lookY rfl rfl rfl hM hbm hv ?_)|fail);all_goals try conv=>whnf)
 all_goals first|(refine W.fn rfl (by repeat constructor) ?_ (by omega);(simp [F8,bnd,want, *];done))|(simp [F8,bnd,want, *];done)|contradiction
theorem Gb(ok:C6 I)(H:O8 I M g N)(w4:word I n=(⟨#[100,101,102,101,114]⟩:ByteArray))(hn:0≤n∧n≤I.L)(hN:32*(I.L+1-n)+20≤N):N3 I M 144 [] (F8 I g t n) t n 1:=fun br h hs hB=>by
 refine O9 1 [0,2,3,4,5,6,7,15,34,50] [] [.own 900 br 0] Tryz.func144 rfl hs ?_
 have W:=Wd.start ok hB
 have hl:=ok.len
 have hv:((⟨#[100,101,102,101,114]⟩:ByteArray),dH 199)∈fJ:=by simp [fJ]
 have hlt:=(I7 (I:=I) (n:=n) (by rw [w4];decide)).2
 ((repeat' (conv=>whnf);first|(refine A7 ?_ fun h1 hs=>F5 W.ok W.base hs rfl (by assumption))|(refine CK.con W (H (.started) _ _ (by simp only [C5,A6];omega) (by omega) (by (simp only [bL];omega))) rfl rfl (fun x hx=>?_) (fun x m bq h' hx hm1 hm2=>?_);rotate_left;(try dsimp only [D1] at hm1);(conv=>whnf);intro W)|(refine CK.readers W rfl ?_;intro bm h' hM hbm W;(conv=>whnf))|(refine uF.lookY rfl rfl rfl hM hbm hv ?_)|fail);all_goals try conv=>whnf)
 all_goals first|(refine W.fn rfl (by repeat constructor) ?_ (by omega);(simp [F8,bnd,want, *];done))|(simp [F8,bnd,want, *];done)|contradiction
theorem Fb(ok:C6 I)(H:O8 I M g N)(w5:word I n=(⟨#[114,101,116,117,114,110]⟩:ByteArray))(hn:0≤n∧n≤I.L)(hN:32*(I.L+1-n)+20≤N):N3 I M 144 [] (F8 I g t n) t n 1:=fun br h hs hB=>by
 refine O9 1 [0,2,3,4,5,6,7,15,34,50] [] [.own 900 br 0] Tryz.func144 rfl hs ?_
 have W:=Wd.start ok hB
 have hl:=ok.len
 have hv:((⟨#[114,101,116,117,114,110]⟩:ByteArray),dH 200)∈fJ:=by simp [fJ]
 have hlt:=(I7 (I:=I) (n:=n) (by rw [w5];decide)).2
 ((repeat' (conv=>whnf);first|(refine A7 ?_ fun h1 hs=>F5 W.ok W.base hs rfl (by assumption))|(refine CK.con W (H (.returned) _ _ (by simp only [C5,A6];omega) (by omega) (by (simp only [bL];omega))) rfl rfl (fun x hx=>?_) (fun x m bq h' hx hm1 hm2=>?_);rotate_left;(try dsimp only [D1] at hm1);(conv=>whnf);intro W)|(refine CK.readers W rfl ?_;intro bm h' hM hbm W;(conv=>whnf))|(refine uF.lookY rfl rfl rfl hM hbm hv ?_)|fail);all_goals try conv=>whnf)
 all_goals first|(refine W.fn rfl (by repeat constructor) ?_ (by omega);(simp [F8,bnd,want, *];done))|(simp [F8,bnd,want, *];done)|contradiction
theorem Eb(ok:C6 I)(H:O8 I M g N)(w6:word I n=(⟨#[98,114,101,97,107]⟩:ByteArray))(hn:0≤n∧n≤I.L)(hN:32*(I.L+1-n)+20≤N):N3 I M 144 [] (F8 I g t n) t n 1:=fun br h hs hB=>by
 refine O9 1 [0,2,3,4,5,6,7,15,34,50] [] [.own 900 br 0] Tryz.func144 rfl hs ?_
 have W:=Wd.start ok hB
 have hl:=ok.len
 have hv:((⟨#[98,114,101,97,107]⟩:ByteArray),dH 201)∈fJ:=by simp [fJ]
 have hlt:=(I7 (I:=I) (n:=n) (by rw [w6];decide)).2
 ((repeat' (conv=>whnf);first|(refine A7 ?_ fun h1 hs=>F5 W.ok W.base hs rfl (by assumption))|(refine CK.con W (H (.branch) _ _ (by simp only [C5,A6];omega) (by omega) (by (simp only [bL];omega))) rfl rfl (fun x hx=>?_) (fun x m bq h' hx hm1 hm2=>?_);rotate_left;(try dsimp only [D1] at hm1);(conv=>whnf);intro W)|(refine CK.readers W rfl ?_;intro bm h' hM hbm W;(conv=>whnf))|(refine uF.lookY rfl rfl rfl hM hbm hv ?_)|fail);all_goals try conv=>whnf)
 all_goals first|(refine W.fn rfl (by repeat constructor) ?_ (by omega);(simp [F8,bnd,want, *];done))|(simp [F8,bnd,want, *];done)|contradiction
theorem Db(ok:C6 I)(H:O8 I M g N)(w7:word I n=(⟨#[99,111,110,116,105,110,117,101]⟩:ByteArray))(hn:0≤n∧n≤I.L)(hN:32*(I.L+1-n)+20≤N):N3 I M 144 [] (F8 I g t n) t n 1:=fun br h hs hB=>by
 refine O9 1 [0,2,3,4,5,6,7,15,34,50] [] [.own 900 br 0] Tryz.func144 rfl hs ?_
 have W:=Wd.start ok hB
 have hl:=ok.len
 have hv:((⟨#[99,111,110,116,105,110,117,101]⟩:ByteArray),dH 201)∈fJ:=by simp [fJ]
 have hlt:=(I7 (I:=I) (n:=n) (by rw [w7];decide)).2
 ((repeat' (conv=>whnf);first|(refine A7 ?_ fun h1 hs=>F5 W.ok W.base hs rfl (by assumption))|(refine CK.con W (H (.branch) _ _ (by simp only [C5,A6];omega) (by omega) (by (simp only [bL];omega))) rfl rfl (fun x hx=>?_) (fun x m bq h' hx hm1 hm2=>?_);rotate_left;(try dsimp only [D1] at hm1);(conv=>whnf);intro W)|(refine CK.readers W rfl ?_;intro bm h' hM hbm W;(conv=>whnf))|(refine uF.lookY rfl rfl rfl hM hbm hv ?_)|fail);all_goals try conv=>whnf)
 all_goals first|(refine W.fn rfl (by repeat constructor) ?_ (by omega);(simp [F8,bnd,want, *];done))|(simp [F8,bnd,want, *];done)|contradiction
theorem Cb(ok:C6 I)(H:O8 I M g N)(w8:word I n=(⟨#[103,111,116,111]⟩:ByteArray))(hn:0≤n∧n≤I.L)(hN:32*(I.L+1-n)+20≤N):N3 I M 144 [] (F8 I g t n) t n 1:=fun br h hs hB=>by
 refine O9 1 [0,2,3,4,5,6,7,15,34,50] [] [.own 900 br 0] Tryz.func144 rfl hs ?_
 have W:=Wd.start ok hB
 have hl:=ok.len
 have hv:((⟨#[103,111,116,111]⟩:ByteArray),dH 201)∈fJ:=by simp [fJ]
 have hlt:=(I7 (I:=I) (n:=n) (by rw [w8];decide)).2
 ((repeat' (conv=>whnf);first|(refine A7 ?_ fun h1 hs=>F5 W.ok W.base hs rfl (by assumption))|(refine CK.con W (H (.branch) _ _ (by simp only [C5,A6];omega) (by omega) (by (simp only [bL];omega))) rfl rfl (fun x hx=>?_) (fun x m bq h' hx hm1 hm2=>?_);rotate_left;(try dsimp only [D1] at hm1);(conv=>whnf);intro W)|(refine CK.readers W rfl ?_;intro bm h' hM hbm W;(conv=>whnf))|(refine uF.lookY rfl rfl rfl hM hbm hv ?_)|fail);all_goals try conv=>whnf)
 all_goals first|(refine W.fn rfl (by repeat constructor) ?_ (by omega);(simp [F8,bnd,want, *];done))|(simp [F8,bnd,want, *];done)|contradiction
theorem Bb(ok:C6 I)(H:O8 I M g N)(w9:word I n=(⟨#[102,97,108,108,116,104,114,111,117,103,104]⟩:ByteArray))(hn:0≤n∧n≤I.L)(hN:32*(I.L+1-n)+20≤N):N3 I M 144 [] (F8 I g t n) t n 1:=fun br h hs hB=>by
 refine O9 1 [0,2,3,4,5,6,7,15,34,50] [] [.own 900 br 0] Tryz.func144 rfl hs ?_
 have W:=Wd.start ok hB
 have hl:=ok.len
 have hv:((⟨#[102,97,108,108,116,104,114,111,117,103,104]⟩:ByteArray),dH 201)∈fJ:=by simp [fJ]
 have hlt:=(I7 (I:=I) (n:=n) (by rw [w9];decide)).2
 ((repeat' (conv=>whnf);first|(refine A7 ?_ fun h1 hs=>F5 W.ok W.base hs rfl (by assumption))|(refine CK.con W (H (.branch) _ _ (by simp only [C5,A6];omega) (by omega) (by (simp only [bL];omega))) rfl rfl (fun x hx=>?_) (fun x m bq h' hx hm1 hm2=>?_);rotate_left;(try dsimp only [D1] at hm1);(conv=>whnf);intro W)|(refine CK.readers W rfl ?_;intro bm h' hM hbm W;(conv=>whnf))|(refine uF.lookY rfl rfl rfl hM hbm hv ?_)|fail);all_goals try conv=>whnf)
 all_goals first|(refine W.fn rfl (by repeat constructor) ?_ (by omega);(simp [F8,bnd,want, *];done))|(simp [F8,bnd,want, *];done)|contradiction
theorem yK(ok:C6 I)(H:O8 I M g N)(w10:word I n=(⟨#[123]⟩:ByteArray))(hn:0≤n∧n≤I.L)(hN:32*(I.L+1-n)+20≤N):N3 I M 144 [] (F8 I g t n) t n 1:=fun br h hs hB=>by
 refine O9 1 [0,2,3,4,5,6,7,15,34,50] [] [.own 900 br 0] Tryz.func144 rfl hs ?_
 have W:=Wd.start ok hB
 have hl:=ok.len
 have hv:((⟨#[123]⟩:ByteArray),dH 153)∈fJ:=by simp [fJ]
 have hlt:=(I7 (I:=I) (n:=n) (by rw [w10];decide)).2
 ((repeat' (conv=>whnf);first|(refine A7 ?_ fun h1 hs=>F5 W.ok W.base hs rfl (by assumption))|(refine F2 W (H .block _ _ (by simp only [C5,A6];omega) (by omega) trivial) rfl rfl (fun x m bq h' hx hm1 hm2=>?_) fun x hx=>?_;(try dsimp only [D1] at hm1);(conv=>whnf);intro W)|(refine CK.readers W rfl ?_;intro bm h' hM hbm W;(conv=>whnf))|(refine uF.lookY rfl rfl rfl hM hbm hv ?_)|fail);all_goals try conv=>whnf)
 all_goals first|(refine W.fn rfl (by repeat constructor) ?_ (by omega);(simp [F8,bnd,want, *];done))|(simp [F8,bnd,want, *];done)|contradiction
theorem yJ(ok:C6 I)(H:O8 I M g N)(w11:word I n=(⟨#[105,102]⟩:ByteArray))(hn:0≤n∧n≤I.L)(hN:32*(I.L+1-n)+20≤N):N3 I M 144 [] (F8 I g t n) t n 1:=fun br h hs hB=>by
 refine O9 1 [0,2,3,4,5,6,7,15,34,50] [] [.own 900 br 0] Tryz.func144 rfl hs ?_
 have W:=Wd.start ok hB
 have hl:=ok.len
 have hv:((⟨#[105,102]⟩:ByteArray),dH 202)∈fJ:=by simp [fJ]
 have hlt:=(I7 (I:=I) (n:=n) (by rw [w11];decide)).2
 ((repeat' (conv=>whnf);first|(refine A7 ?_ fun h1 hs=>F5 W.ok W.base hs rfl (by assumption))|(refine CK.con W (H (.ifs) _ _ (by simp only [C5,A6];omega) (by omega) (by (simp only [bL];omega))) rfl rfl (fun x hx=>?_) (fun x m bq h' hx hm1 hm2=>?_);rotate_left;(try dsimp only [D1] at hm1);(conv=>whnf);intro W)|(refine CK.readers W rfl ?_;intro bm h' hM hbm W;(conv=>whnf))|(refine uF.lookY rfl rfl rfl hM hbm hv ?_)|fail);all_goals try conv=>whnf)
 all_goals first|(refine W.fn rfl (by repeat constructor) ?_ (by omega);(simp [F8,bnd,want, *];done))|(simp [F8,bnd,want, *];done)|contradiction
theorem yI(ok:C6 I)(H:O8 I M g N)(w12:word I n=(⟨#[115,119,105,116,99,104]⟩:ByteArray))(hn:0≤n∧n≤I.L)(hN:32*(I.L+1-n)+20≤N):N3 I M 144 [] (F8 I g t n) t n 1:=fun br h hs hB=>by
 refine O9 1 [0,2,3,4,5,6,7,15,34,50] [] [.own 900 br 0] Tryz.func144 rfl hs ?_
 have W:=Wd.start ok hB
 have hl:=ok.len
 have hv:((⟨#[115,119,105,116,99,104]⟩:ByteArray),dH 203)∈fJ:=by simp [fJ]
 have hlt:=(I7 (I:=I) (n:=n) (by rw [w12];decide)).2
 ((repeat' (conv=>whnf);first|(refine A7 ?_ fun h1 hs=>F5 W.ok W.base hs rfl (by assumption))|(refine CK.con W (H (.switches) _ _ (by simp only [C5,A6];omega) (by omega) (by (simp only [bL];omega))) rfl rfl (fun x hx=>?_) (fun x m bq h' hx hm1 hm2=>?_);rotate_left;(try dsimp only [D1] at hm1);(conv=>whnf);intro W)|(refine CK.readers W rfl ?_;intro bm h' hM hbm W;(conv=>whnf))|(refine uF.lookY rfl rfl rfl hM hbm hv ?_)|fail);all_goals try conv=>whnf)
 all_goals first|(refine W.fn rfl (by repeat constructor) ?_ (by omega);(simp [F8,bnd,want, *];done))|(simp [F8,bnd,want, *];done)|contradiction
theorem yH(ok:C6 I)(H:O8 I M g N)(w13:word I n=(⟨#[115,101,108,101,99,116]⟩:ByteArray))(hn:0≤n∧n≤I.L)(hN:32*(I.L+1-n)+20≤N):N3 I M 144 [] (F8 I g t n) t n 1:=fun br h hs hB=>by
 refine O9 1 [0,2,3,4,5,6,7,15,34,50] [] [.own 900 br 0] Tryz.func144 rfl hs ?_
 have W:=Wd.start ok hB
 have hl:=ok.len
 have hv:((⟨#[115,101,108,101,99,116]⟩:ByteArray),dH 204)∈fJ:=by simp [fJ]
 have hlt:=(I7 (I:=I) (n:=n) (by rw [w13];decide)).2
 ((repeat' (conv=>whnf);first|(refine A7 ?_ fun h1 hs=>F5 W.ok W.base hs rfl (by assumption))|(refine CK.con W (H (.selects) _ _ (by simp only [C5,A6];omega) (by omega) (by (simp only [bL];omega))) rfl rfl (fun x hx=>?_) (fun x m bq h' hx hm1 hm2=>?_);rotate_left;(try dsimp only [D1] at hm1);(conv=>whnf);intro W)|(refine CK.readers W rfl ?_;intro bm h' hM hbm W;(conv=>whnf))|(refine uF.lookY rfl rfl rfl hM hbm hv ?_)|fail);all_goals try conv=>whnf)
 all_goals first|(refine W.fn rfl (by repeat constructor) ?_ (by omega);(simp [F8,bnd,want, *];done))|(simp [F8,bnd,want, *];done)|contradiction
theorem yG(ok:C6 I)(H:O8 I M g N)(w14:word I n=(⟨#[102,111,114]⟩:ByteArray))(hn:0≤n∧n≤I.L)(hN:32*(I.L+1-n)+20≤N):N3 I M 144 [] (F8 I g t n) t n 1:=fun br h hs hB=>by
 refine O9 1 [0,2,3,4,5,6,7,15,34,50] [] [.own 900 br 0] Tryz.func144 rfl hs ?_
 have W:=Wd.start ok hB
 have hl:=ok.len
 have hv:((⟨#[102,111,114]⟩:ByteArray),dH 205)∈fJ:=by simp [fJ]
 have hlt:=(I7 (I:=I) (n:=n) (by rw [w14];decide)).2
 ((repeat' (conv=>whnf);first|(refine A7 ?_ fun h1 hs=>F5 W.ok W.base hs rfl (by assumption))|(refine CK.con W (H (.fors) _ _ (by simp only [C5,A6];omega) (by omega) (by (simp only [bL];omega))) rfl rfl (fun x hx=>?_) (fun x m bq h' hx hm1 hm2=>?_);rotate_left;(try dsimp only [D1] at hm1);(conv=>whnf);intro W)|(refine CK.readers W rfl ?_;intro bm h' hM hbm W;(conv=>whnf))|(refine uF.lookY rfl rfl rfl hM hbm hv ?_)|fail);all_goals try conv=>whnf)
 all_goals first|(refine W.fn rfl (by repeat constructor) ?_ (by omega);(simp [F8,bnd,want, *];done))|(simp [F8,bnd,want, *];done)|contradiction
theorem Fg(ok:C6 I)(H:O8 I M g N)(w0:¬ word I n=(⟨#[99,111,110,115,116]⟩:ByteArray))(w1:¬ word I n=(⟨#[118,97,114]⟩:ByteArray))(w2:¬ word I n=(⟨#[116,121,112,101]⟩:ByteArray))(w3:¬ word I n=(⟨#[103,111]⟩:ByteArray))(w4:¬ word I n=(⟨#[100,101,102,101,114]⟩:ByteArray))(w5:¬ word I n=(⟨#[114,101,116,117,114,110]⟩:ByteArray))(w6:¬ word I n=(⟨#[98,114,101,97,107]⟩:ByteArray))(w7:¬ word I n=(⟨#[99,111,110,116,105,110,117,101]⟩:ByteArray))(w8:¬ word I n=(⟨#[103,111,116,111]⟩:ByteArray))(w9:¬ word I n=(⟨#[102,97,108,108,116,104,114,111,117,103,104]⟩:ByteArray))(w10:¬ word I n=(⟨#[123]⟩:ByteArray))(w11:¬ word I n=(⟨#[105,102]⟩:ByteArray))(w12:¬ word I n=(⟨#[115,119,105,116,99,104]⟩:ByteArray))(w13:¬ word I n=(⟨#[115,101,108,101,99,116]⟩:ByteArray))(w14:¬ word I n=(⟨#[102,111,114]⟩:ByteArray))(hn:0≤n∧n≤I.L)(hN:32*(I.L+1-n)+20≤N):N3 I M 144 [] (F8 I g t n) t n 1:=fun br h hs hB=>by
 refine O9 1 [0,2,3,4,5,6,7,15,34,50] [] [.own 900 br 0] Tryz.func144 rfl hs ?_
 have W:=Wd.start ok hB
 have hl:=ok.len
 have hv:∀ p∈fJ,p.1≠word I n:=by
  intro p hp
  simp only [fJ,List.mem_cons,List.not_mem_nil,or_false] at hp
  rcases hp with rfl|rfl|rfl|rfl|rfl|rfl|rfl|rfl|rfl|rfl|rfl|rfl|rfl|rfl|rfl
  ·exact fun e=>w0 e.symm
  ·exact fun e=>w1 e.symm
  ·exact fun e=>w2 e.symm
  ·exact fun e=>w3 e.symm
  ·exact fun e=>w4 e.symm
  ·exact fun e=>w5 e.symm
  ·exact fun e=>w6 e.symm
  ·exact fun e=>w7 e.symm
  ·exact fun e=>w8 e.symm
  ·exact fun e=>w9 e.symm
  ·exact fun e=>w10 e.symm
  ·exact fun e=>w11 e.symm
  ·exact fun e=>w12 e.symm
  ·exact fun e=>w13 e.symm
  ·exact fun e=>w14 e.symm
 ((repeat' (conv=>whnf);first|(refine Ar.fit (by omega) ?_)|(refine VC.mk (by (first|omega|(and_intros<;>first|rfl|(simp only [maxLen];omega)))) ?_)|(refine Br.mk ?_ ?_<;>intro hb<;>(try replace hb:=nN hb)<;>(try exact absurd hb (by decide))<;>(try (first|have hlt:=T9 hb (by decide)|have hlt:=pW hb (by decide))))|(refine E5.mk ?_;intro b hb)|(apply CK.pure;case hh=>intro h1 hs;first|exact E0 W.ok W.base hs rfl|exact T1 W.ok W.base hs rfl _)|(refine CK.says (.prop _) (fun h1 hs=>I8 W.ok W.base hs rfl _) ?_)|(refine F2 W (H .simple _ _ (by simp only [C5,A6];omega) (by omega) trivial) rfl rfl (fun x m bq h' hx hm1 hm2=>?_) fun x hx=>?_;(try dsimp only [D1] at hm1);(conv=>whnf);intro W)|(refine F2 W (H .stmt _ _ (by simp only [C5,A6];omega) (by omega) trivial) rfl rfl (fun x m bq h' hx hm1 hm2=>?_) fun x hx=>?_;(try dsimp only [D1] at hm1);(conv=>whnf);intro W)|(refine CK.sure W (G0 49 (by decide) (by omega)) rfl rfl ?_;intro bq h';(conv=>whnf);intro W)|(refine CK.box 901 _ (fun h1 hs=>D9 hs rfl 67) ?_;intro bo hbo)|(refine CK.cO 901 W rfl rfl rfl (fun h hs hm=>hs.ne (k:=901) (k':=900) rfl rfl (by decide) (List.mem_singleton.1 hm)) rfl rfl rfl rfl rfl rfl (rC W (by repeat constructor) (rC W (by repeat constructor) (rN))) (by simp [O5]) (by simp) ?_;intro h';(conv=>whnf);intro W)|(refine CK.sure W (show N3 I M 104 [] (.ok _ (n+1)) t n 1 from (Ho (show B9 I n=1 from by assumption))▸Q6 ok (by omega)) rfl rfl ?_;intro bq h';(conv=>whnf);intro W)|(refine CK.says (.prop _) (fun h1 hs=>Bk W.ok W.base hs rfl) ?_)|(refine CK.readers W rfl ?_;intro bm h' hM hbm W;(conv=>whnf))|(refine uF.lookN rfl rfl rfl hM hbm hv ?_)|fail);all_goals try conv=>whnf)
 all_goals first|(refine W.fn rfl (by repeat constructor) ?_ (by omega);(simp [F8,Q7,bnd,want, *];done))|(simp [F8,Q7,bnd,want, *];done)|contradiction
end
end Go.Ex
