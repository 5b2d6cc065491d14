/-
  Top: TopComments: whatever the input, the law answers true (part 23)
-/
import Derived.Test.YtpjdgifhhnjclaaGreatDoorM22
set_option linter.unusedVariables false
set_option linter.unusedSimpArgs false
set_option maxHeartbeats 4000000
set_option maxRecDepth 10000
namespace Go.Ex
open Go.Proofs
theorem Cf(s:ByteArray):∀ (f:Nat) (acc:List M7) (a:Int),0≤a→(∀ t∈acc,0≤t.frm∧t.frm<t.to∧t.to≤s.size)→(acc.length:Int)≤a→a≤s.size →
 (∀ t∈(dB s f acc a).1,0≤t.frm∧t.frm<t.to∧t.to≤s.size)∧((dB s f acc a).1.length:Int)≤s.size
 |0,acc,a,h0,h1,h2,h3=>by simp [dB]
 |f+1,acc,a,h0,h1,h2,h3=>by
  rw [dB]
  split
  ·exact⟨h1,by dsimp only;omega⟩
  ·split
   ·simp
   ·rename_i h4 h5
    have hr:=mA s a (by omega) h5
    refine Cf s f _ _ (by omega) (fun t ht=>?_) (by rw [List.length_append,List.length_singleton];omega) (by omega)
    rcases List.mem_append.1 ht with ht|ht
    ·exact h1 t ht
    ·rw [List.mem_singleton.1 ht];dsimp only;omega
theorem mY(s:ByteArray):(∀ t∈(V5 s).1,0≤t.frm∧t.frm<t.to∧t.to≤s.size)∧((V5 s).1.length:Int)≤s.size∧((V5 s).1.length:Int)≤65536∧((V5 s).2.1=0→s.size≤65536):=by
 unfold V5
 split
 ·simp
 ·split
  ·simp
  ·rename_i h1 h2
   have:=Cf s (s.size+1) [] 0 (Int.le_refl _) (fun t h=>by cases h) (by simp) (by omega)
   exact⟨this.1,this.2,by omega,fun _=>by omega⟩
def T4(x:List M7×Int):List M7×Int:=(if 0≤x.2 then x.1++[⟨9,x.2,x.2⟩] else x.1,-1)
def D4(s:ByteArray)(x:List M7×Int)(t:M7):List M7×Int:=
 if gT t.kind then (if 0≤H7 (sub s t.frm t.to) 10 then T4 x else x) else (x.1++[t],if aU t.kind (sub s t.frm t.to) then t.to else -1)
def uP(s:ByteArray)(l:List M7):List M7:=(T4 (l.foldl (D4 s) ([],-1))).1
def P2(s:ByteArray):List M7×Int×Int:=if (V5 s).2.1=0∧(V5 s).2.2=0 then (uP s (V5 s).1,0,0) else ([],(V5 s).2)
theorem Sc(t:ByteArray)(h:A3):CH Tryz.prog 34 #[.string t,.string ⟨#[10]⟩] h fun v h'=>v=A0 (.prop (0≤H7 t 10))∧A5 h h':=
 (uU t 10 h).mono fun v h' ⟨h1,h2⟩=>⟨h1.trans (by simp only [A0,oE];rfl),h2⟩
theorem CK.slf{P:Program}{E:Value→A3→Prop}{S:St}{f:Nat}{args:List KV}{κ:KV→St→Prop}{τ:Type}{R:Y7 τ}{T:Nat}{L:List τ}{e0 a0:Int}(hh:∀ h,HS S h→CH P f (args.map A1).toArray h (DQ R T h (L,e0,a0)))
 (hk:∀ h' A n c,G1 S.h0 S.cap h' (blks S.ch)→D3 R h' (blks S.ch) A n L→(∀ a,0<n→A=Option.some a→S.h0.size≤a.block)→κ (.tup [.val (.slice A n c),.agg [.val (.int .i64 e0),.val (.int .i64 a0)]]) ⟨h',blks S.ch,S.ch⟩):CK P E f args [] S κ:=
 ⟨fun h hs=>.inl (by
  have h1:=hh h hs
  rw [show args.map A1++([]:List KV).map A0=args.map A1 by simp]
  refine⟨h1.1,fun w hw=>(h1.2 w hw).mono fun e w' ⟨he,u,h2,⟨A,n,c,h3,h4,h5⟩⟩=>⟨he,u,h2,.tup [.val (.slice A n c),.agg [.val (.int .i64 e0),.val (.int .i64 a0)]],⟨w'.heap,blks S.ch,S.ch⟩,h3.symm,hs.shift h4,?_⟩⟩
  obtain⟨A',n',c',e,hk'⟩:=D3.new h5 hs
  cases e
  refine hk _ _ _ _ (hs.later h4).lB hk' fun a h0 ha=>?_
  cases h5 with
  |nil=>exact absurd h0 (Nat.lt_irrefl 0)
  |arr b cap L hb hlt hat=>cases ha;exact Nat.le_trans hs.size hb)⟩
theorem S8.ofC{S:St}{h hs:A3}(hS:HS S hs){τ:Type}{k b T cap:Nat}{R:Y7 τ}{xs ys:List τ}(hf:B3 S.ch k=some (b,.arr T R xs cap))(h0:h.size≤S.h0.size)(hc:∀ c∈S.cap,h.size≤c){n:Nat}(hn:n=xs.length)(hx:xs=ys):S8 R T h hs (.slice (some ⟨b,0,none⟩) n cap) ys:=by
 subst hx
 obtain⟨h1,h2,h3⟩:=hS.chunk _ (fM hf)
 rw [hn]
 refine .arr b cap xs ?_ h1 h3
 rcases h2 with h2|h2
 ·exact Nat.le_trans h0 h2
 ·exact hc _ h2
theorem G1.bas{h h1:A3}{cap:List Nat}(hl:G1 h [] h1 cap):Gz h h1 cap:=⟨⟨hl.size,fun b hb=>hl.same b hb List.not_mem_nil⟩,fun c hc=>(hl.cap c hc).elim (fun h=>by cases h) fun h=>h⟩
structure BC where
 L:List M7
 e:Int
 i:Int
 o:Option (Nat×Nat)
def Y9(x:BC):KV:=match x.o with
 |none=>.val (.slice none 0 0)
 |some (b,c)=>.osl 50 b x.L.length c
def EO(x:BC):L8:=match x.o with
 |none=>[]
 |some (b,c)=>[(50,b,.arr 40 C4 x.L c)]
attribute [local irreducible] CH H0 V5 gT aU H7
theorem Wb(s:ByteArray)(h:A3)(ht:D2 h)(hz:s.size≤140737488355328):CH Tryz.prog 17 #[.string s] h (DQ C4 40 h (P2 s)):=by
 refine Q0 1 [0,2,3,4,5,6,7,8,9,11,12,20,23,24,25,26,37,39,49] [] [.val (.string s)] Tryz.func17 rfl ?_
 obtain⟨ok1,ok2,ok3,ok4⟩:=mY s
 obtain⟨R,hR⟩:∃ R,P2 s=R:=⟨_,rfl⟩
 rw [hR]
 unfold P2 at hR
 have c1:=fun h1 (ht:D2 h1)=>Hy s h1 ht hz
 generalize V5 s=al at hR c1 ok1 ok2 ok3 ok4
 obtain⟨All,fe,fa⟩:=al
 dsimp only at hR c1 ok1 ok2 ok3 ok4
 ((repeat' (conv=>whnf);first|(refine C2 (id:=3) (.pl [1,0] (.on [2] .e)) (by kernel_rfl) ?_)|(refine VC.mk (by omega) ?_)|(refine Br.mk ?_ ?_<;>intro hb)|(refine E5.mk ?_;intro b hb)|(refine CK.slf (fun h hs=>c1 h (ht.at hs)) ?_;intro h1 A n c hl hA hfr)|(refine kQ ?_)|fail);all_goals try conv=>whnf)
 ·rename_i hb0
  rw [if_neg (by assumption)] at hR
  subst hR
  exact⟨fun h' hs=>⟨none,0,0,rfl,hl.bas.fin hs,S8.nil⟩⟩
 rename_i b3 hb3 b5 hb5 hf b7 hb7
 have hf:=nN hf
 rw [if_pos hf] at hR
 have hn:=hA.sl.len_eq
 have hz2:=ok4 hf.1
 have hbas:Gz h h1 [b3]:=hl.bas
 replace hA:D3 C4 h1 [b3] A n All:=hA
 obtain⟨Q,hQ⟩:∃ Q,All.foldl (D4 s) ([],-1)=Q:=⟨_,rfl⟩
 unfold uP at hR
 rw [hQ] at hR
 refine gG tO [25,7,8,9] (fun x:BC=>[(25,.val (.int .i64 x.i)),(7,.own 207 b7 0),(8,.own 208 b 0),(9,.fn 33 [.own 208 b 0,.own 207 b7 0])]) (fun x=>⟨h1,[b3],[(208,b,.box 3 [.val (.int .i64 x.e)]),(207,b7,.box 22 [Y9 x]),(5,b5,.box 28 [.val (.int .i64 fe),.val (.int .i64 fa)]),(3,b3,.box 28 [.val (.int .i64 0),.val (.int .i64 0)])]++EO x⟩)
  (fun μ x=>(All.drop x.i.toNat).foldl (D4 s) (x.L,x.e)=Q∧(0≤x.i∧x.i+μ=All.length)∧x.L.length≤2*x.i∧(-1≤x.e∧x.e≤s.size)∧(x.o=none→x.L=[])∧∀ b c,x.o=some (b,c)→x.L.length≤c) ?_
 conv=>whnf
 refine⟨fun h2 hs=>⟨All.length,⟨[],-1,0,none⟩,⟨hQ,⟨Int.le_refl _,by simp⟩,by simp,⟨by dsimp only;omega,by dsimp only;omega⟩,fun _=>rfl,fun b c e=>by cases e⟩,?_,hs.ren [8,7,5,3] (B4 rfl rfl (F9 rfl (SC.box rfl) rfl (B4 rfl rfl (F9 rfl (SC.box rfl) rfl E8))))⟩,?_⟩
 ·refine And.intro ⟨_,rfl,by first|rfl|(simp [B0,A1,A0];done)⟩ ?_
  (repeat (refine And.intro ⟨_,rfl,rfl⟩ ?_));exact trivial
 rintro μ ⟨L,e,i,o⟩ ⟨t1,⟨t2,t2'⟩,t3,t4,t5,t6⟩
 dsimp only at t1 t2 t2' t3 t4 t5 t6 ⊢
 by_cases hi:i<n
 ·obtain⟨f,rfl⟩:∃ f,μ=f+1:=⟨μ-1,by omega⟩
  rw [Ru C4.dflt All i t2 (by omega),List.foldl_cons] at t1
  have hk:=ok1 (B1 C4.dflt All i) (by
   unfold B1
   rw [List.getD_eq_getElem?_getD,List.getElem?_eq_getElem (by omega)]
   exact List.getElem_mem _)
  have hpl:O1 A:=hA.sl.plain (by omega)
  have c2:=fun h1=>Lg (B1 C4.dflt All i) h1
  have c3:=fun h1=>Sc (sub s (B1 C4.dflt All i).frm (B1 C4.dflt All i).to) h1
  have c4:=fun h1=>Nu (B1 C4.dflt All i).kind (sub s (B1 C4.dflt All i).frm (B1 C4.dflt All i).to) h1
  rcases o with _|⟨b2,cc⟩
  ·have t5:=t5 rfl
   subst t5
   ((repeat' (conv=>whnf);first|(refine Ar.fit (by omega) ?_)|(refine VC.mk (by (first|omega|(and_intros<;>first|omega|rfl|(simp only [maxLen];omega)|(simp only [lL];omega)))) ?_)|(refine Br.mk ?_ ?_<;>intro hb<;>(try (first|omega|contradiction)))|(refine E5.mk ?_;intro b hb)|(refine aH.mk ?_;intro b c hb hbc)|(refine SR.same ?_)|(refine C1.held hA rfl (by omega) (by omega) rfl ?_)|(refine CK.says (.prop _) (fun h1 hs=>c2 h1) ?_)|(refine CK.says (.prop _) (fun h1 hs=>c3 h1) ?_)|(refine CK.says (.prop _) (fun h1 hs=>c4 h1) ?_)|(refine CK.inline (rep:=rep) tO Tryz.func33 rfl (by decide) (rs:=[]) rfl 4 [0,1,3] [] rfl rfl rfl ?_)|fail);all_goals try conv=>whnf)
   all_goals first
    | (intro h2 hs
       rw [D4,if_pos (by assumption),if_neg (by assumption)] at t1
       refine⟨f,⟨[],e,i+1,none⟩,⟨t1,⟨by dsimp only;omega,by dsimp only;omega⟩,by dsimp only [List.length_nil];omega,⟨t4.1,t4.2⟩,fun _=>rfl,fun b0 c0 e=>by cases e⟩,Nat.lt_succ_self f,?_,hs.ren [208,207,5,3] (F9 rfl (SC.box (by first|rfl|(simp [A0,Y9];done)|(simp [A0,Y9];omega))) rfl (F9 rfl (SC.box (by first|rfl|(simp [A0,Y9];done)|(simp [A0,Y9];omega))) rfl (B4 rfl rfl (B4 rfl rfl E8))))⟩
       refine And.intro ⟨_,rfl,by first|rfl|(simp [B0,A1,A0,Y9];done)|(simp [B0,A1,A0,Y9];omega)⟩ ?_
       (repeat (refine And.intro ⟨_,rfl,rfl⟩ ?_));exact trivial)
    | (intro h2 hs
       rw [D4,if_pos (by assumption),if_pos (by assumption),T4,if_neg (by assumption)] at t1
       refine⟨f,⟨[],-1,i+1,none⟩,⟨t1,⟨by dsimp only;omega,by dsimp only;omega⟩,by dsimp only [List.length_nil];omega,⟨Int.le_refl _,by dsimp only;omega⟩,fun _=>rfl,fun b0 c0 e=>by cases e⟩,Nat.lt_succ_self f,?_,hs.ren [208,207,5,3] (F9 rfl (SC.box (by first|rfl|(simp [A0,Y9];done)|(simp [A0,Y9];omega))) rfl (F9 rfl (SC.box (by first|rfl|(simp [A0,Y9];done)|(simp [A0,Y9];omega))) rfl (B4 rfl rfl (B4 rfl rfl E8))))⟩
       refine And.intro ⟨_,rfl,by first|rfl|(simp [B0,A1,A0,Y9];done)|(simp [B0,A1,A0,Y9];omega)⟩ ?_
       (repeat (refine And.intro ⟨_,rfl,rfl⟩ ?_));exact trivial)
    | (intro h2 hs
       rw [D4,if_pos (by assumption),if_pos (by assumption),T4,if_pos (by assumption)] at t1
       refine⟨f,⟨[]++[⟨9,e,e⟩],-1,i+1,some (_,_)⟩,⟨t1,⟨by dsimp only;omega,by dsimp only;omega⟩,by dsimp only;rw [List.length_append,List.length_singleton];(try dsimp only [List.length_nil]);omega,⟨Int.le_refl _,by dsimp only;omega⟩,fun e=>(by cases e),fun b0 c0 e=>by cases e;simpa using hbc⟩,Nat.lt_succ_self f,?_,hs.ren [208,207,5,3,9] (F9 rfl (SC.box (by first|rfl|(simp [A0,Y9];done)|(simp [A0,Y9];omega))) rfl (F9 rfl (SC.box (by first|rfl|(simp [A0,Y9];done)|(simp [A0,Y9];omega))) rfl (B4 rfl rfl (B4 rfl rfl (F9 rfl (SC.arr (by simp)) rfl E8)))))⟩
       refine And.intro ⟨_,rfl,by first|rfl|(simp [B0,A1,A0,Y9];done)|(simp [B0,A1,A0,Y9];omega)⟩ ?_
       (repeat (refine And.intro ⟨_,rfl,rfl⟩ ?_));exact trivial)
    | (intro h2 hs
       rw [D4,if_neg (by assumption),if_pos (by assumption)] at t1
       refine⟨f,⟨[]++[B1 C4.dflt All i],(B1 C4.dflt All i).to,i+1,some (_,_)⟩,⟨t1,⟨by dsimp only;omega,by dsimp only;omega⟩,by dsimp only;rw [List.length_append,List.length_singleton];(try dsimp only [List.length_nil]);omega,⟨by dsimp only;omega,by dsimp only;omega⟩,fun e=>(by cases e),fun b0 c0 e=>by cases e;simpa using hbc⟩,Nat.lt_succ_self f,?_,hs.ren [208,207,5,3,45] (F9 rfl (SC.box (by first|rfl|(simp [A0,Y9];done)|(simp [A0,Y9];omega))) rfl (F9 rfl (SC.box (by first|rfl|(simp [A0,Y9];done)|(simp [A0,Y9];omega))) rfl (B4 rfl rfl (B4 rfl rfl (F9 rfl (SC.arr (by simp)) rfl E8)))))⟩
       refine And.intro ⟨_,rfl,by first|rfl|(simp [B0,A1,A0,Y9];done)|(simp [B0,A1,A0,Y9];omega)⟩ ?_
       (repeat (refine And.intro ⟨_,rfl,rfl⟩ ?_));exact trivial)
    | (intro h2 hs
       rw [D4,if_neg (by assumption),if_neg (by assumption)] at t1
       refine⟨f,⟨[]++[B1 C4.dflt All i],-1,i+1,some (_,_)⟩,⟨t1,⟨by dsimp only;omega,by dsimp only;omega⟩,by dsimp only;rw [List.length_append,List.length_singleton];(try dsimp only [List.length_nil]);omega,⟨Int.le_refl _,by dsimp only;omega⟩,fun e=>(by cases e),fun b0 c0 e=>by cases e;simpa using hbc⟩,Nat.lt_succ_self f,?_,hs.ren [208,207,5,3,45] (F9 rfl (SC.box (by first|rfl|(simp [A0,Y9];done)|(simp [A0,Y9];omega))) rfl (F9 rfl (SC.box (by first|rfl|(simp [A0,Y9];done)|(simp [A0,Y9];omega))) rfl (B4 rfl rfl (B4 rfl rfl (F9 rfl (SC.arr (by simp)) rfl E8)))))⟩
       refine And.intro ⟨_,rfl,by first|rfl|(simp [B0,A1,A0,Y9];done)|(simp [B0,A1,A0,Y9];omega)⟩ ?_
       (repeat (refine And.intro ⟨_,rfl,rfl⟩ ?_));exact trivial)
  ·have t6:=t6 _ _ rfl
   ((repeat' (conv=>whnf);first|(refine Ar.fit (by omega) ?_)|(refine VC.mk (by (first|omega|(and_intros<;>first|omega|rfl|(simp only [maxLen];omega)|(simp only [lL];omega)))) ?_)|(refine Br.mk ?_ ?_<;>intro hb<;>(try omega))|(refine E5.mk ?_;intro b hb)|(refine X0.mk ?_;intro b c hb hbc)|(refine SR.same ?_)|(refine C1.held hA rfl (by omega) (by omega) rfl ?_)|(refine CK.says (.prop _) (fun h1 hs=>c2 h1) ?_)|(refine CK.says (.prop _) (fun h1 hs=>c3 h1) ?_)|(refine CK.says (.prop _) (fun h1 hs=>c4 h1) ?_)|(refine CK.inline (rep:=rep) tO Tryz.func33 rfl (by decide) (rs:=[]) rfl 4 [0,1,3] [] rfl rfl rfl ?_)|fail);all_goals try conv=>whnf)
   all_goals first
    | (intro h2 hs
       rw [D4,if_pos (by assumption),if_neg (by assumption)] at t1
       refine⟨f,⟨L,e,i+1,some (b2,cc)⟩,⟨t1,⟨by dsimp only;omega,by dsimp only;omega⟩,by dsimp only [List.length_nil];omega,⟨t4.1,t4.2⟩,fun e=>(by cases e),fun b0 c0 e=>by cases e;exact t6⟩,Nat.lt_succ_self f,?_,hs.ren [208,207,5,3,50] (F9 rfl (SC.box (by first|rfl|(simp [A0,Y9];done)|(simp [A0,Y9];omega))) rfl (F9 rfl (SC.box (by first|rfl|(simp [A0,Y9];done)|(simp [A0,Y9];omega))) rfl (B4 rfl rfl (B4 rfl rfl (B4 rfl rfl E8)))))⟩
       refine And.intro ⟨_,rfl,by first|rfl|(simp [B0,A1,A0,Y9];done)|(simp [B0,A1,A0,Y9];omega)⟩ ?_
       (repeat (refine And.intro ⟨_,rfl,rfl⟩ ?_));exact trivial)
    | (intro h2 hs
       rw [D4,if_pos (by assumption),if_pos (by assumption),T4,if_neg (by assumption)] at t1
       refine⟨f,⟨L,-1,i+1,some (b2,cc)⟩,⟨t1,⟨by dsimp only;omega,by dsimp only;omega⟩,by dsimp only [List.length_nil];omega,⟨Int.le_refl _,by dsimp only;omega⟩,fun e=>(by cases e),fun b0 c0 e=>by cases e;exact t6⟩,Nat.lt_succ_self f,?_,hs.ren [208,207,5,3,50] (F9 rfl (SC.box (by first|rfl|(simp [A0,Y9];done)|(simp [A0,Y9];omega))) rfl (F9 rfl (SC.box (by first|rfl|(simp [A0,Y9];done)|(simp [A0,Y9];omega))) rfl (B4 rfl rfl (B4 rfl rfl (B4 rfl rfl E8)))))⟩
       refine And.intro ⟨_,rfl,by first|rfl|(simp [B0,A1,A0,Y9];done)|(simp [B0,A1,A0,Y9];omega)⟩ ?_
       (repeat (refine And.intro ⟨_,rfl,rfl⟩ ?_));exact trivial)
    | (intro h2 hs
       rw [D4,if_pos (by assumption),if_pos (by assumption),T4,if_pos (by assumption)] at t1
       refine⟨f,⟨L++[⟨9,e,e⟩],-1,i+1,some (_,_)⟩,⟨t1,⟨by dsimp only;omega,by dsimp only;omega⟩,by dsimp only;rw [List.length_append,List.length_singleton];(try dsimp only [List.length_nil]);omega,⟨Int.le_refl _,by dsimp only;omega⟩,fun e=>(by cases e),fun b0 c0 e=>by cases e;simpa using hbc⟩,Nat.lt_succ_self f,?_,hs.ren [208,207,5,3,9] (F9 rfl (SC.box (by first|rfl|(simp [A0,Y9];done)|(simp [A0,Y9];omega))) rfl (F9 rfl (SC.box (by first|rfl|(simp [A0,Y9];done)|(simp [A0,Y9];omega))) rfl (B4 rfl rfl (B4 rfl rfl (F9 rfl (SC.arr (by simp)) rfl E8)))))⟩
       refine And.intro ⟨_,rfl,by first|rfl|(simp [B0,A1,A0,Y9];done)|(simp [B0,A1,A0,Y9];omega)⟩ ?_
       (repeat (refine And.intro ⟨_,rfl,rfl⟩ ?_));exact trivial)
    | (intro h2 hs
       rw [D4,if_neg (by assumption),if_pos (by assumption)] at t1
       refine⟨f,⟨L++[B1 C4.dflt All i],(B1 C4.dflt All i).to,i+1,some (_,_)⟩,⟨t1,⟨by dsimp only;omega,by dsimp only;omega⟩,by dsimp only;rw [List.length_append,List.length_singleton];(try dsimp only [List.length_nil]);omega,⟨by dsimp only;omega,by dsimp only;omega⟩,fun e=>(by cases e),fun b0 c0 e=>by cases e;simpa using hbc⟩,Nat.lt_succ_self f,?_,hs.ren [208,207,5,3,45] (F9 rfl (SC.box (by first|rfl|(simp [A0,Y9];done)|(simp [A0,Y9];omega))) rfl (F9 rfl (SC.box (by first|rfl|(simp [A0,Y9];done)|(simp [A0,Y9];omega))) rfl (B4 rfl rfl (B4 rfl rfl (F9 rfl (SC.arr (by simp)) rfl E8)))))⟩
       refine And.intro ⟨_,rfl,by first|rfl|(simp [B0,A1,A0,Y9];done)|(simp [B0,A1,A0,Y9];omega)⟩ ?_
       (repeat (refine And.intro ⟨_,rfl,rfl⟩ ?_));exact trivial)
    | (intro h2 hs
       rw [D4,if_neg (by assumption),if_neg (by assumption)] at t1
       refine⟨f,⟨L++[B1 C4.dflt All i],-1,i+1,some (_,_)⟩,⟨t1,⟨by dsimp only;omega,by dsimp only;omega⟩,by dsimp only;rw [List.length_append,List.length_singleton];(try dsimp only [List.length_nil]);omega,⟨Int.le_refl _,by dsimp only;omega⟩,fun e=>(by cases e),fun b0 c0 e=>by cases e;simpa using hbc⟩,Nat.lt_succ_self f,?_,hs.ren [208,207,5,3,45] (F9 rfl (SC.box (by first|rfl|(simp [A0,Y9];done)|(simp [A0,Y9];omega))) rfl (F9 rfl (SC.box (by first|rfl|(simp [A0,Y9];done)|(simp [A0,Y9];omega))) rfl (B4 rfl rfl (B4 rfl rfl (F9 rfl (SC.arr (by simp)) rfl E8)))))⟩
       refine And.intro ⟨_,rfl,by first|rfl|(simp [B0,A1,A0,Y9];done)|(simp [B0,A1,A0,Y9];omega)⟩ ?_
       (repeat (refine And.intro ⟨_,rfl,rfl⟩ ?_));exact trivial)
 ·have e1:All.drop i.toNat=[]:=Su All i (by omega)
  rw [e1,List.foldl_nil] at t1
  subst t1
  unfold T4 at hR
  dsimp only at hR
  rcases o with _|⟨b2,cc⟩
  ·have t5:=t5 rfl
   subst t5
   ((repeat' (conv=>whnf);first|(refine VC.mk (by (first|omega|(and_intros<;>first|omega|rfl|(simp only [maxLen];omega)|(simp only [lL];omega)))) ?_)|(refine Br.mk ?_ ?_<;>intro hb<;>(try (first|omega|contradiction)))|(refine E5.mk ?_;intro b hb)|(refine aH.mk ?_;intro b c hb hbc)|(refine SR.same ?_)|(refine CK.inline (rep:=rep) tO Tryz.func33 rfl (by decide) (rs:=[]) rfl 4 [0,1,3] [] rfl rfl rfl ?_)|fail);all_goals try conv=>whnf)
   all_goals first
    | (rw [if_pos (by assumption)] at hR
       subst hR
       exact⟨fun h' hs=>⟨some ⟨_,0,none⟩,_,_,rfl,hbas.fin hs,S8.ofC hs (k:=9) rfl hl.size hbas.cp (by first|rfl|(simp;done)|(simp;omega)) (by first|rfl|(simp;done))⟩⟩)
    | (rw [if_neg (by assumption)] at hR
       subst hR
       exact⟨fun h' hs=>⟨none,0,0,rfl,hbas.fin hs,S8.nil⟩⟩)
    | (rw [if_neg (by assumption)] at hR
       subst hR
       exact⟨fun h' hs=>⟨some ⟨b2,0,none⟩,_,cc,rfl,hbas.fin hs,S8.ofC hs (k:=50) rfl hl.size hbas.cp rfl rfl⟩⟩)
  ·have t6:=t6 _ _ rfl
   ((repeat' (conv=>whnf);first|(refine VC.mk (by (first|omega|(and_intros<;>first|omega|rfl|(simp only [maxLen];omega)|(simp only [lL];omega)))) ?_)|(refine Br.mk ?_ ?_<;>intro hb<;>(try omega))|(refine E5.mk ?_;intro b hb)|(refine X0.mk ?_;intro b c hb hbc)|(refine SR.same ?_)|(refine CK.inline (rep:=rep) tO Tryz.func33 rfl (by decide) (rs:=[]) rfl 4 [0,1,3] [] rfl rfl rfl ?_)|fail);all_goals try conv=>whnf)
   all_goals first
    | (rw [if_pos (by assumption)] at hR
       subst hR
       exact⟨fun h' hs=>⟨some ⟨_,0,none⟩,_,_,rfl,hbas.fin hs,S8.ofC hs (k:=9) rfl hl.size hbas.cp (by first|rfl|(simp;done)|(simp;omega)) (by first|rfl|(simp;done))⟩⟩)
    | (rw [if_neg (by assumption)] at hR
       subst hR
       exact⟨fun h' hs=>⟨none,0,0,rfl,hbas.fin hs,S8.nil⟩⟩)
    | (rw [if_neg (by assumption)] at hR
       subst hR
       exact⟨fun h' hs=>⟨some ⟨b2,0,none⟩,_,cc,rfl,hbas.fin hs,S8.ofC hs (k:=50) rfl hl.size hbas.cp rfl rfl⟩⟩)
end Go.Ex
namespace Go.Ex
open Go.Proofs
structure Mv where
 P:List Int
 O:List Int
 n:Int
 m:Int
abbrev Z0(toks:List M7)(i:Int):Int:=(B1 C4.dflt toks i).frm
def P4(s:ByteArray)(toks:List M7)(x:Mv)(i:Int):Mv×Int×Int:=
 if ¬ (B1 C4.dflt toks i).kind=8∨¬ (B1 C4.dflt toks i).to-Z0 toks i=1 then (⟨x.P.set i.toNat (-1),x.O,x.n,x.m⟩,0,0) else
 if ¬ jP (A4 s (Z0 toks i))=0 then (if x.n=100 then (x,6,Z0 toks i) else (⟨x.P.set i.toNat (-1),x.O.set x.n.toNat i,x.n+1,max x.m (x.n+1)⟩,0,0)) else
 if A4 s (Z0 toks i)=41∨A4 s (Z0 toks i)=93∨A4 s (Z0 toks i)=125 then
  (if x.n=0∨¬ jP (A4 s (Z0 toks (B1 (E9 .i64).dflt x.O (x.n-1))))=A4 s (Z0 toks i) then (x,5,Z0 toks i)
   else (⟨((x.P.set i.toNat (-1)).set i.toNat (B1 (E9 .i64).dflt x.O (x.n-1))).set (B1 (E9 .i64).dflt x.O (x.n-1)).toNat i,x.O,x.n-1,x.m⟩,0,0))
 else (⟨x.P.set i.toNat (-1),x.O,x.n,x.m⟩,0,0)
def W0(s:ByteArray)(toks:List M7):Nat→Mv→Int→List Int×Int×Int×Int
 |0,x,i=>if 0<x.n then ([],0,5,Z0 toks (B1 (E9 .i64).dflt x.O (x.n-1))) else (x.P,x.m,0,0)
 |f+1,x,i=>if (P4 s toks x i).2.1=0 then W0 s toks f (P4 s toks x i).1 (i+1) else ([],0,(P4 s toks x i).2)
def bG(s:ByteArray)(toks:List M7):List Int×Int×Int×Int:=W0 s toks toks.length ⟨List.replicate toks.length (E9 .i64).dflt,List.replicate 100 (E9 .i64).dflt,0,0⟩ 0
def W4(s:ByteArray):List M7×List Int×Int×Int×Int:=
 if (P2 s).2.1=0∧(P2 s).2.2=0 then (if (bG s (P2 s).1).2.2.1=0 then ((P2 s).1,bG s (P2 s).1) else ([],[],0,(bG s (P2 s).1).2.2)) else ([],[],0,(P2 s).2)
def CS(h:A3)(r:List M7×List Int×Int×Int×Int)(v:Value)(h':A3):Prop:=
 ∃ A n c B m d,v = .tuple #[.slice A n c,.slice B m d,.int .i64 r.2.2.1,.agg #[.int .i64 r.2.2.2.1,.int .i64 r.2.2.2.2]]∧A5 h h'∧(D3 C4 h' [] A n r.1∧∀ a,0<n→A=some a→h.size≤a.block)∧(D3 (E9 .i64) h' [] B m r.2.1∧∀ a,0<m→B=some a→h.size≤a.block)
theorem D3.nil{τ:Type}{R:Y7 τ}{h:A3}{cap:List Nat}:D3 R h cap none 0 []:=⟨⟨rfl,by decide,fun h0=>absurd h0 (by decide)⟩,fun h0=>absurd h0 (by decide)⟩
theorem D3.endS{τ:Type}{R:Y7 τ}{S:St}{h:A3}{A:Option Addr}{n:Nat}{xs:List τ}(hk:D3 R S.h0 S.cap A n xs)(hs:HS S h):D3 R h [] A n xs:=
 (hk.later hs.lB).later ⟨Nat.le_refl _,fun _ _ _=>rfl,fun c hc=>by cases hc⟩
theorem D3.ofC{τ:Type}{R:Y7 τ}{S:St}{h:A3}(hs:HS S h){k b T cap:Nat}{xs:List τ}(hf:B3 S.ch k=some (b,.arr T R xs cap)){n:Nat}(hn:n=xs.length):D3 R h [] (some ⟨b,0,none⟩) n xs:=by
 have h1:=hs.sl hf (Nat.le_refl xs.length)
 rw [List.take_length] at h1
 subst hn
 exact⟨h1,fun _ a ha=>by cases ha;exact⟨(hs.chunk _ (fM hf)).1,List.not_mem_nil⟩⟩
theorem Zt{S:St}{h hs:A3}(hS:HS S hs){k b:Nat}{c:D8}(hf:B3 S.ch k=some (b,c))(h0:h.size≤S.h0.size)(hc:∀ c∈S.cap,h.size≤c):h.size≤b:=by
 obtain⟨_,h2,_⟩:=hS.chunk _ (fM hf)
 rcases h2 with h2|h2
 ·exact Nat.le_trans h0 h2
 ·exact hc _ h2
theorem rU(s:ByteArray):∀ (l:List M7) (x:List M7×Int),(∀ t∈l,0≤t.frm∧t.frm<t.to∧t.to≤s.size)→(∀ t∈x.1,0≤t.frm∧t.frm≤t.to∧t.to≤s.size)→(-1≤x.2∧x.2≤s.size) →
 (∀ t∈(l.foldl (D4 s) x).1,0≤t.frm∧t.frm≤t.to∧t.to≤s.size)∧(-1≤(l.foldl (D4 s) x).2∧(l.foldl (D4 s) x).2≤s.size)∧(l.foldl (D4 s) x).1.length≤x.1.length+l.length
 |[],x,h0,h1,h2=>⟨h1,h2,by simp⟩
 |t::l,x,h0,h1,h2=>by
  have hl:∀ t∈l,0≤t.frm∧t.frm<t.to∧t.to≤s.size:=fun u hu=>h0 u (List.mem_cons_of_mem _ hu)
  have ht:=h0 t List.mem_cons_self
  have key:(∀ u∈(D4 s x t).1,0≤u.frm∧u.frm≤u.to∧u.to≤s.size)∧(-1≤(D4 s x t).2∧(D4 s x t).2≤s.size)∧(D4 s x t).1.length≤x.1.length+1:=by
   unfold D4 T4
   repeat' split
   all_goals (refine⟨fun u hu=>?_,by (try dsimp only);omega,by (try dsimp only);(try rw [List.length_append,List.length_singleton]);omega⟩)
   all_goals (try dsimp only at hu)
   all_goals first
    |exact h1 u hu
    | (rcases List.mem_append.1 hu with hu|hu
       ·exact h1 u hu
       ·rw [List.mem_singleton.1 hu];(try dsimp only);omega)
  have:=rU s l (D4 s x t) hl key.1 key.2.1
  rw [List.foldl_cons]
  exact⟨this.1,this.2.1,by rw [List.length_cons];omega⟩
theorem iY(s:ByteArray):(∀ t∈(P2 s).1,0≤t.frm∧t.frm≤t.to∧t.to≤s.size)∧((P2 s).1.length:Int)≤65537∧((P2 s).2.1=0→s.size≤65536):=by
 obtain⟨a1,a2,a3,a4⟩:=mY s
 unfold P2
 split
 ·rename_i h
  have:=rU s (V5 s).1 ([],-1) a1 (fun t h=>by cases h) ⟨Int.le_refl _,by (try dsimp only);omega⟩
  have hl:(([]:List M7)).length=0:=rfl
  dsimp only at this
  unfold uP T4
  dsimp only
  refine⟨?_,?_,fun _=>a4 h.1⟩
  ·split
   ·intro t ht
    rcases List.mem_append.1 ht with ht|ht
    ·exact this.1 t ht
    ·rw [List.mem_singleton.1 ht];(try dsimp only);omega
   ·exact this.1
  ·split
   ·rw [List.length_append,List.length_singleton];omega
   ·omega
 ·exact⟨(fun t h=>by cases h),(by simp),fun h=>a4 h⟩
theorem mE(l:List Int)(d:Int)(j k v:Int)(hj:0≤j)(hk:0≤k)(hl:j<l.length):B1 d (l.set j.toNat v) k=if k=j then v else B1 d l k:=by
 unfold B1
 rw [List.getD_eq_getElem?_getD,List.getD_eq_getElem?_getD,List.getElem?_set]
 split
 ·rename_i h
  rw [if_pos (by omega),if_pos (by omega)]
  rfl
 ·rename_i h
  rw [if_neg (by omega)]
structure DV(T:List M7)(x:Mv)(i:Int):Prop where
 pl:x.P.length=T.length
 ol:x.O.length=100
 n:0≤x.n∧x.n≤100
 m:0≤x.m∧x.m≤100
 at_:∀ k:Int,0≤k→k<x.n→(0≤B1 (E9 .i64).dflt x.O k∧B1 (E9 .i64).dflt x.O k<i)∧(B1 C4.dflt T (B1 (E9 .i64).dflt x.O k)).to-Z0 T (B1 (E9 .i64).dflt x.O k)=1
theorem AB{T:List M7}{P O:List Int}{k i:Int}(t2:0≤i)(t3:P.length=T.length)(t4:O.length=100)(t5:0≤k∧k≤100)
 (t7:∀ j:Int,0≤j→j<k→(0≤B1 (E9 .i64).dflt O j∧B1 (E9 .i64).dflt O j<i)∧(B1 C4.dflt T (B1 (E9 .i64).dflt O j)).to-Z0 T (B1 (E9 .i64).dflt O j)=1)
 (hi:(B1 C4.dflt T i).to-Z0 T i=1∧k<100):∀ j:Int,0≤j→j<k+1→(0≤B1 (E9 .i64).dflt (O.set k.toNat i) j∧B1 (E9 .i64).dflt (O.set k.toNat i) j<i+1)∧(B1 C4.dflt T (B1 (E9 .i64).dflt (O.set k.toNat i) j)).to-Z0 T (B1 (E9 .i64).dflt (O.set k.toNat i) j)=1:=fun j h0 h1=>by
 rw [mE O _ k j i (by omega) h0 (by omega)]
 split
 ·exact⟨⟨t2,by omega⟩,hi.1⟩
 ·have:=t7 j h0 (by omega)
  exact⟨⟨this.1.1,by omega⟩,this.2⟩
attribute [local irreducible] CH P2 jP
theorem Dr(s:ByteArray)(h:A3)(ht:D2 h)(hz:s.size≤140737488355328):CH Tryz.prog 25 #[.string s] h (CS h (W4 s)):=by
 refine Q0 1 [0,2,3,4,5,6,7,8,9,10,11,12,13,14,22,27,28,29,30,47,52,57,69,96,116] [] [.val (.string s)] Tryz.func25 rfl ?_
 obtain⟨R,hR⟩:∃ R,W4 s=R:=⟨_,rfl⟩
 rw [hR]
 unfold W4 at hR
 have c1:=fun h1 (ht:D2 h1)=>Wb s h1 ht hz
 obtain⟨ok1,ok2,ok3⟩:=iY s
 generalize P2 s=sf at hR c1 ok1 ok2 ok3
 obtain⟨T,fe,fa⟩:=sf
 dsimp only at hR c1 ok1 ok2 ok3
 ((repeat' (conv=>whnf);first|(refine C2 (id:=3) (.pl [1,2,3,0] (.on [4] .e)) (by kernel_rfl) ?_)|(refine VC.mk (by (first|omega|(and_intros<;>first|omega|rfl|(simp only [maxLen];omega)))) ?_)|(refine Br.mk ?_ ?_<;>intro hb)|(refine E5.mk ?_;intro b hb)|(refine CK.slf (fun h hs=>c1 h (ht.at hs)) ?_;intro h1 A n c hl hA hfr;have hn:=hA.sl.len_eq)|(refine kQ ?_)|fail);all_goals try conv=>whnf)
 ·rename_i hb0
  rw [if_neg (by assumption)] at hR
  subst hR
  exact⟨fun h' hs=>⟨none,0,0,none,0,0,rfl,hl.bas.fin hs,⟨D3.nil,fun a h0=>absurd h0 (Nat.lt_irrefl 0)⟩,⟨D3.nil,fun a h0=>absurd h0 (Nat.lt_irrefl 0)⟩⟩⟩
 rename_i b5 hb5 b7 hb7 hf b8 hb8
 have hf:=nN hf
 rw [if_pos hf] at hR
 have hz2:=ok3 hf.1
 have hbas:Gz h h1 [b5]:=hl.bas
 replace hA:D3 C4 h1 [b5] A n T:=hA
 have hget:∀ j:Int,0≤j→j<n→0≤Z0 T j∧Z0 T j≤(B1 C4.dflt T j).to∧(B1 C4.dflt T j).to≤s.size:=fun j h0 h1=>ok1 _ (by
  unfold B1
  rw [List.getD_eq_getElem?_getD,List.getElem?_eq_getElem (by omega)]
  exact List.getElem_mem _)
 obtain⟨Q,hQ⟩:∃ Q,bG s T=Q:=⟨_,rfl⟩
 rw [hQ] at hR
 unfold bG at hQ
 refine gG tO [10,11,29] (fun x:Mv×Int=>[(10,.val (.int .i64 x.1.n)),(11,.val (.int .i64 x.1.m)),(29,.val (.int .i64 x.2))]) (fun x=>⟨h1,[b5],[(9,b,.arr 93 (E9 .i64) x.1.O 100),(26,b8,.arr 3 (E9 .i64) x.1.P (n:Int).toNat),(7,b7,.box 28 [.val (.int .i64 fe),.val (.int .i64 fa)]),(5,b5,.box 28 [.val (.int .i64 0),.val (.int .i64 0)])]⟩)
  (fun μ x=>W0 s T μ x.1 x.2=Q∧(0≤x.2∧x.2+μ=T.length)∧DV T x.1 x.2) ?_
 conv=>whnf
 refine⟨fun h2 hs=>⟨T.length,(⟨List.replicate T.length (E9 .i64).dflt,List.replicate 100 (E9 .i64).dflt,0,0⟩,0),⟨hQ,⟨Int.le_refl _,by simp⟩,⟨by simp,by simp,by simp,by simp,fun k h0 h1=>by dsimp only at h1;omega⟩⟩,?_,hs.ren [9,26,7,5] (B4 rfl rfl (F9 rfl (SC.arr (by simp [hn])) rfl (B4 rfl rfl (F9 rfl (SC.box rfl) rfl E8))))⟩,?_⟩
 ·refine And.intro ⟨_,rfl,by first|rfl|(simp [B0,A1,A0];done)⟩ ?_
  (repeat (refine And.intro ⟨_,rfl,rfl⟩ ?_));exact trivial
 rintro μ ⟨⟨P,O,k,m⟩,i⟩ ⟨t1,⟨t2,t2'⟩,⟨t3,t4,t5,t6,t7⟩⟩
 dsimp only at t1 t2 t2' t3 t4 t5 t6 t7 ⊢
 have tl:=t7 (k-1)
 have tl0:k=0∨((0≤B1 (E9 .i64).dflt O (k-1)∧B1 (E9 .i64).dflt O (k-1)<i)∧(B1 C4.dflt T (B1 (E9 .i64).dflt O (k-1))).to-Z0 T (B1 (E9 .i64).dflt O (k-1))=1∧(0≤Z0 T (B1 (E9 .i64).dflt O (k-1))∧(B1 C4.dflt T (B1 (E9 .i64).dflt O (k-1))).to≤s.size)):=by
  by_cases hk0:k=0
  ·exact .inl hk0
  ·have:=tl (by omega) (by omega)
   have h2:=hget (B1 (E9 .i64).dflt O (k-1)) this.1.1 (by omega)
   exact .inr ⟨this.1,this.2,h2.1,h2.2.2⟩
 clear tl
 by_cases hi:i<n
 ·obtain⟨f,rfl⟩:∃ f,μ=f+1:=⟨μ-1,by omega⟩
  have hpl:O1 A:=hA.sl.plain (by omega)
  have hg:=hget i t2 hi
  simp only [W0] at t1
  obtain⟨R1,hR1⟩:∃ r,P4 s T ⟨P,O,k,m⟩ i=r:=⟨_,rfl⟩
  rw [hR1] at t1
  dsimp only [Z0] at hg tl0
  dsimp only [P4,Z0] at hR1
  ((repeat' (conv=>whnf);first|(refine C2 (id:=15) (.pl [0,3,4,5,1,2] (.on [6] .e)) (by kernel_rfl) ?_)|(refine C2 (id:=21) (.pl [0,3,4,5,1,2] (.on [6] .e)) (by kernel_rfl) ?_)|(refine C2 (id:=23) (.pl [0,1,2,3,4,6,7,9,8,10] (.bp 5 11 (.pl [12] (.on [13] .e)))) (by kernel_rfl) ?_)|(refine Ar.fit (by omega) ?_)|(refine VC.mk (by (first|omega|(and_intros<;>first|omega|rfl|(simp only [List.length_set];omega)))) ?_)|(refine Br.mk ?_ ?_<;>intro hb<;>(try replace hb:=nN hb)<;>(try omega))|(refine E5.mk ?_;intro b hb)|(refine dD.mk ?_ ?_)|(refine C1.held hA rfl (by omega) (by omega) rfl ?_)|(refine A7 ?_ fun h1 hs=>Jc _ h1)|fail);all_goals try conv=>whnf)
  all_goals first
   | (intro h2 hs
      rw [if_pos (by omega)] at hR1
      subst hR1
      rw [if_pos rfl] at t1
      refine⟨f,(_,i+1),⟨t1,⟨by dsimp only;omega,by dsimp only;omega⟩,⟨by dsimp only;(simp;omega),by dsimp only;exact t4,t5,t6,fun j h0 h1=>⟨⟨(t7 j h0 h1).1.1,by have:=(t7 j h0 h1).1.2;dsimp only;omega⟩,(t7 j h0 h1).2⟩⟩⟩,Nat.lt_succ_self f,?_,hs.ren [9,26,7,5] (B4 rfl rfl (F9 rfl (SC.arr (by first|rfl|simp)) rfl (B4 rfl rfl (B4 rfl rfl E8))))⟩
      refine And.intro ⟨_,rfl,by first|rfl|(simp [B0,A1,A0];done)⟩ ?_
      (repeat (refine And.intro ⟨_,rfl,rfl⟩ ?_));exact trivial)
   | (intro h2 hs
      rw [if_neg (by omega),if_neg (by omega),if_neg (by omega)] at hR1
      subst hR1
      rw [if_pos rfl] at t1
      refine⟨f,(_,i+1),⟨t1,⟨by dsimp only;omega,by dsimp only;omega⟩,⟨by dsimp only;(simp;omega),by dsimp only;exact t4,t5,t6,fun j h0 h1=>⟨⟨(t7 j h0 h1).1.1,by have:=(t7 j h0 h1).1.2;dsimp only;omega⟩,(t7 j h0 h1).2⟩⟩⟩,Nat.lt_succ_self f,?_,hs.ren [9,26,7,5] (B4 rfl rfl (F9 rfl (SC.arr (by first|rfl|simp)) rfl (B4 rfl rfl (B4 rfl rfl E8))))⟩
      refine And.intro ⟨_,rfl,by first|rfl|(simp [B0,A1,A0];done)⟩ ?_
      (repeat (refine And.intro ⟨_,rfl,rfl⟩ ?_));exact trivial)
   | (intro h2 hs
      rw [if_neg (by omega),if_pos (by omega),if_neg (by omega)] at hR1
      subst hR1
      rw [if_pos rfl] at t1
      refine⟨f,(_,i+1),⟨t1,⟨by dsimp only;omega,by dsimp only;omega⟩,⟨by dsimp only;(simp;omega),by dsimp only;(simp;omega),⟨by dsimp only;omega,by dsimp only;omega⟩,⟨by dsimp only;omega,by dsimp only;omega⟩,AB t2 t3 t4 t5 t7 (by show (B1 C4.dflt T i).to-(B1 C4.dflt T i).frm=1∧k<100;omega)⟩⟩,Nat.lt_succ_self f,?_,hs.ren [9,26,7,5] (B4 rfl rfl (F9 rfl (SC.arr (by first|rfl|simp)) rfl (B4 rfl rfl (B4 rfl rfl E8))))⟩
      refine And.intro ⟨_,rfl,by first|rfl|(simp [B0,A1,A0];done)⟩ ?_
      (repeat (refine And.intro ⟨_,rfl,rfl⟩ ?_));exact trivial)
   | (intro h2 hs
      rw [if_neg (by omega),if_neg (by omega),if_pos (by omega),if_neg (by omega)] at hR1
      subst hR1
      rw [if_pos rfl] at t1
      refine⟨f,(_,i+1),⟨t1,⟨by dsimp only;omega,by dsimp only;omega⟩,⟨by dsimp only;(simp;omega),by dsimp only;exact t4,⟨by dsimp only;omega,by dsimp only;omega⟩,t6,fun j h0 h1=>⟨⟨(t7 j h0 (by dsimp only at h1;omega)).1.1,by have:=(t7 j h0 (by dsimp only at h1;omega)).1.2;dsimp only;omega⟩,(t7 j h0 (by dsimp only at h1;omega)).2⟩⟩⟩,Nat.lt_succ_self f,?_,hs.ren [9,26,7,5] (B4 rfl rfl (F9 rfl (SC.arr (by first|rfl|simp)) rfl (B4 rfl rfl (B4 rfl rfl E8))))⟩
      refine And.intro ⟨_,rfl,by first|rfl|(simp [B0,A1,A0];done)⟩ ?_
      (repeat (refine And.intro ⟨_,rfl,rfl⟩ ?_));exact trivial)
   | (rw [if_neg (by omega),if_pos (by omega),if_pos (by omega)] at hR1
      subst hR1
      dsimp only at t1
      rw [if_neg (by omega)] at t1
      subst t1
      dsimp only at hR
      rw [if_neg (by omega)] at hR
      subst hR
      exact⟨fun h' hs=>⟨none,0,0,none,0,0,rfl,hbas.fin hs,⟨D3.nil,fun a h0=>absurd h0 (Nat.lt_irrefl 0)⟩,⟨D3.nil,fun a h0=>absurd h0 (Nat.lt_irrefl 0)⟩⟩⟩)
   | (rw [if_neg (by omega),if_neg (by omega),if_pos (by omega),if_pos (by omega)] at hR1
      subst hR1
      dsimp only at t1
      rw [if_neg (by omega)] at t1
      subst t1
      dsimp only at hR
      rw [if_neg (by omega)] at hR
      subst hR
      exact⟨fun h' hs=>⟨none,0,0,none,0,0,rfl,hbas.fin hs,⟨D3.nil,fun a h0=>absurd h0 (Nat.lt_irrefl 0)⟩,⟨D3.nil,fun a h0=>absurd h0 (Nat.lt_irrefl 0)⟩⟩⟩)
 ·have hm:μ=0:=by omega
  subst hm
  have hpl:n=0∨O1 A:=by
   by_cases h0:n=0
   ·exact .inl h0
   ·exact .inr (hA.sl.plain (by omega))
  simp only [W0] at t1
  by_cases hk:0<k
  ·have hpl:O1 A:=hA.sl.plain (by omega)
   rw [if_pos hk] at t1
   subst t1
   ((repeat' (conv=>whnf);first|(refine C2 (id:=26) (.pl [0,1,2,3,9,10,11,4,5,6,7,8] (.on [12] .e)) (by kernel_rfl) ?_)|(refine Ar.fit (by omega) ?_)|(refine VC.mk (by (first|omega|(and_intros<;>first|omega|rfl))) ?_)|(refine Br.mk ?_ ?_<;>intro hb<;>(try replace hb:=nN hb)<;>(try omega))|(refine C1.held hA rfl (by omega) (by omega) rfl ?_)|fail);all_goals try conv=>whnf)
   dsimp only at hR
   rw [if_neg (by omega)] at hR
   subst hR
   all_goals exact⟨fun h' hs=>⟨none,0,0,none,0,0,rfl,hbas.fin hs,⟨D3.nil,fun a h0=>absurd h0 (Nat.lt_irrefl 0)⟩,⟨D3.nil,fun a h0=>absurd h0 (Nat.lt_irrefl 0)⟩⟩⟩
  ·rw [if_neg hk] at t1
   subst t1
   ((repeat' (conv=>whnf);first|(refine VC.mk (by omega) ?_)|(refine Br.mk ?_ ?_<;>intro hb<;>(try replace hb:=nN hb)<;>(try omega))|fail);all_goals try conv=>whnf)
   rw [if_pos rfl] at hR
   subst hR
   all_goals exact⟨fun h' hs=>⟨A,n,c,some ⟨b8,0,none⟩,_,_,rfl,hbas.fin hs,⟨hA.endS hs,hfr⟩,⟨D3.ofC hs (k:=26) rfl (by simp;omega),fun a _ ha=>by cases ha;exact Zt hs (k:=26) rfl hl.size hbas.cp⟩⟩⟩
end Go.Ex
