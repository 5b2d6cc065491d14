/-
  Top: TopComments: whatever the input, the law answers true (part 5)
-/
import Derived.Lib.OthersKept
import Derived.Test.YtpjdgifhhnjclaaGreatDoorM04
set_option linter.unusedVariables false
set_option linter.unusedSimpArgs false
set_option maxHeartbeats 4000000
set_option maxRecDepth 10000
namespace Go.Ex
variable {Df:List Deferred}
section
variable {P:Program}{ty:Nat→Option gS}{rep:Jj}{S:St}{K:Kn}
theorem hZ{o:Oper}{a:Act}{next:Act→World→Prop}{Q:Exit→Act→World→Prop}{E:Value→A3→Prop}{f:FuncId}{args:Array Value}{w:World}{R:Value→A3→Prop}(h:X2 P E f args w.heap R)
 (hp:∀ v w',SE w w'→E v w'.heap→Q (.panic [{ v:=v,recovered:=false }]) a w') (hn:∀ v w',SE w w'→R v w'.heap→next (a.put o.dst v) w'):o.upon P a next Q (.ok (.enter f args) w):=by
 show Calls P f args w _
 refine Calls.mono (h.2 w rfl) fun e w' he=>?_
 obtain⟨⟨h1,h2,h3⟩,⟨v,rfl,hR⟩|⟨v,rfl,hR⟩⟩:=he
 ·exact hn v w' ⟨h1,h2,h3⟩ hR
 ·exact hp v w' ⟨h1,h2,h3⟩ hR
theorem jW{o:Oper}{a:Act}{next:Act→World→Prop}{Q:Exit→Act→World→Prop}{f:FuncId}{args:Array Value}{w w0:World}{R:Value→A3→Prop}(h:CH P f args w.heap R)(he:w0=w)
 (hn:∀ v w',SE w w'→R v w'.heap→next (a.put o.dst v) w'):o.upon P a next Q (.ok (.enter f args) w):=by
 show Calls P f args w _
 refine Calls.mono (h.2 w rfl) fun e w' he=>?_
 obtain⟨⟨h1,h2,h3⟩,v,rfl,hR⟩:=he
 exact hn v w' ⟨h1,h2,h3⟩ hR
theorem cP:∀ l:List Value,(kM l).map A1=l
 |[]=>rfl
 |v::r=>by simp [kM,A1,A0,cP r]
theorem eV(hty:H6 P ty){o:Oper}{κ:KV→St→Prop}(h:Yn P ty rep o K S κ){n:Nat}{a:Act}(ha:H9 Df n a K){w:World}(hs:HS S w.heap){next:Act→World→Prop}{Q:Exit→Act→World→Prop}
 (hp:∀ v w',SE w w'→rep.pan v w'.heap→Q (.panic [{ v:=v,recovered:=false }]) a w')
 (hn:∀ kv S' w',SE w w'→HS S' w'.heap→κ kv S'→next (a.put o.dst (B0 kv)) w'):o.wp P a w next Q:=by
 have quiet:(Qs P ty o K S fun v=>κ v S)→o.wp P a w next Q:=fun h=>by
  obtain⟨kv,h1,h2⟩:=nR hty h ha
  unfold Oper.wp
  rw [h2 w fun _=>hs]
  exact hn kv S w (SE.refl w) hs h1
 obtain⟨dst,op,type,pos,after,guard⟩:=o
 simp only [Yn] at h
 split at h
 -- alloc
 ·rename_i t
  split at h
  ·rename_i sz by_ ag ze n0 e hi
   have ht:=hty t _ hi
   split at h
   ·rename_i τ R hR
    obtain⟨⟨hz,hn0⟩,h⟩:=h
    obtain⟨d,S',h1,h2,h3⟩:=aW h hs (.cells ze.toArray t) (by
     have hfl:((List.replicate n0 R.dflt).flatMap R.cells).length=n0*R.sz:=by rw [G4,List.length_replicate]
     refine⟨_,heap_alloc_new w _,?_,by simp,hn0,?_⟩
     ·rw [←hz,List.length_replicate]
      exact List.take_of_length_le (Nat.le_of_eq hfl)
     ·rw [List.size_toArray,←hz];exact hfl)
    have hr:(Instr.alloc t true (.tuple #[])).run P w = .ok (.pointer (some ⟨w.heap.size,0,none⟩)) (w.alloc (.cells ze.toArray t)):=by
     simp [Instr.alloc,ht.zeroR w,newVar,newRow,ht.zcells]
    unfold Oper.wp
    simp only [execOp]
    rw [Q3 hr]
    exact hn (.own d w.heap.size 0) S' _ (cR _ _) h3 h2
   ·exact h.elim
  ·rename_i i _ hi
   have ht:=hty t i hi
   obtain⟨d,S',h1,h2,h3⟩:=aW h hs (.cells i.zero.toArray t) (by simp only [C7,S6];exact heap_alloc_new w _)
   have hr:(Instr.alloc t true (.tuple #[])).run P w = .ok (.pointer (some ⟨w.heap.size,0,none⟩)) (w.alloc (.cells i.zero.toArray t)):=by
    simp [Instr.alloc,ht.zeroR w,newVar,newRow,ht.zcells]
   unfold Oper.wp
   simp only [execOp]
   rw [Q3 hr]
   exact hn (.own d w.heap.size 0) S' _ (cR _ _) h3 h2
  ·exact h.elim
 -- box
 ·rename_i t x
  split at h
  ·rename_i i hi
   split at h
   ·rename_i v hv
    obtain⟨l,h,hcl,hone⟩:=aF h
    obtain⟨d,S',h1,h2,h3⟩:=aW h hs (.cells (l.map A0).toArray t) (by simp only [C7];exact heap_alloc_new w _)
    have hr:(Instr.box t (a.eval x)).run P w = .ok (.pointer (some ⟨w.heap.size,0,none⟩)) (w.alloc (.cells (l.map A0).toArray t)):=by
     rw [ha.eval hv]
     simp [Instr.box,newVar,newRow,hcl]
    unfold Oper.wp
    simp only [execOp]
    rw [Q3 hr]
    exact hn (.own d w.heap.size 0) S' _ (cR _ _) h3 h2
   ·exact h.elim
  ·exact h.elim
 -- store
 ·rename_i t x y
  split at h
  ·rename_i p hp
   split at h
   ·rename_i v hv
    obtain⟨S',w',h1,h2,h3,h4⟩:=yE hty h hs
    unfold Oper.wp
    simp only [execOp,ha.eval hp,ha.eval hv]
    simp only [Sem.run_bind,h4]
    exact hn (.val undef) S' w' h2 h3 h1
   ·exact h.elim
  ·exact h.elim
 -- makeSlice
 ·rename_i t x y
  split at h
  ·rename_i sz by_ ag ze e heq
   have hu:P.underlying t=some (.slice e):=(hty t _ heq).kind
   split at h
   ·rename_i i hi
    split at h
    ·rename_i R hR
     split at h
     ·rename_i k1 l hl
      split at h
      ·rename_i k2 c hc
       obtain⟨⟨h0,h1,h2,h3⟩,⟨hsz,hz⟩,h⟩:=h
       have hte:=hty e i hi
       have hat:C7 (w.alloc (.cells (madeCells i.zero.toArray (c.toNat*i.sz)) e)).heap w.heap.size (.arr e R (List.replicate l.toNat R.dflt) c.toNat):=by
        refine⟨_,heap_alloc_new w _,?_,by simp;omega,by simp only [maxLen];omega,by rw [size_madeCells,hsz]⟩
        have hlz:i.zero.length=i.sz:=hte.zlen
        have:=Ko i.zero c.toNat l.toNat (by rw [hlz,←hsz];exact R.pos) (by omega)
        rw [hlz] at this
        rw [List.length_replicate,hsz,this]
        rw [List.flatMap_replicate,hz]
       obtain⟨d,S',h4,h5,h6⟩:=aW h hs _ hat
       have hr:=rV hu hte k1 k2 l c h0 h1 h2 h3 w
       unfold Oper.wp
       simp only [execOp,ha.eval hl,ha.eval hc]
       rw [show B0 (.val (.int k1 l)) = .int k1 l from rfl,show B0 (.val (.int k2 c)) = .int k2 c from rfl]
       rw [Q3 hr]
       exact hn (.osl d w.heap.size l c.toNat) S' _ (cR _ _) h6 h5
      ·exact h.elim
     ·exact h.elim
    ·exact h.elim
   ·exact h.elim
  ·exact h.elim
 -- buildSlice
 ·rename_i t len parts
  split at h
  ·rename_i sz by_ ag ze e heq
   have hu:P.underlying t=some (.slice e):=(hty t _ heq).kind
   split at h
   ·rename_i i hi
    split at h
    ·rename_i R hR
     split at h
     ·rename_i hlen
      have hlen:=Qk hlen
      obtain⟨⟨hsz,hlim⟩,h⟩:=h
      have hte:=hty e i hi
      obtain⟨es,h1,h2,h3⟩:=mO ha _ _ _ h
      have hel:es.length=len:=by rw [h2,hlen]
      have hat:C7 (w.alloc (.cells (es.flatMap R.cells).toArray e)).heap w.heap.size (.arr e R es len):=by
       refine⟨_,heap_alloc_new w _,?_,by omega,?_,?_⟩
       ·simp only;rw [List.take_of_length_le (by rw [G4];exact Nat.le_refl _)]
       ·have:len*1≤len*i.sz:=Nat.mul_le_mul_left _ (by rw [←hsz];exact R.pos)
        simp only [maxLen];omega
       ·simp only [List.size_toArray,G4,hel]
      obtain⟨d,S',h4,h5,h6⟩:=aW h1 hs _ hat
      have hr:=rW (P:=P) hu hte (parts.map fun x=>(x.1,a.eval x.2)) (es.flatMap R.cells).toArray hlim (fun pre hp=>by
       have:=h3 pre (by rw [hp,Nat.zero_add,hlen,hsz])
       rw [hsz] at this
       simpa using this) w
      unfold Oper.wp
      simp only [execOp]
      rw [Q3 hr]
      have hd:B0 (.osl d w.heap.size (len:Int) len) = .slice (some ⟨w.heap.size,0,none⟩) len len:=by simp [B0,A1,A0]
      rw [←hd]
      exact hn _ S' _ (cR _ _) h6 h5
     ·exact h.elim
    ·exact h.elim
   ·exact h.elim
  ·exact h.elim
 -- append
 ·rename_i x y t t'
  split at h
  ·rename_i htt
   have:=Qk htt
   subst this
   split at h
   ·rename_i u hu
    split at h
    ·rename_i v hv
     obtain⟨kv,S',w',h1,h2,h3,h4⟩:=uZ hty h hs type
     unfold Oper.wp
     have hr:(execOp a.eval { dst:=dst,op:=.call ⟨.builtin .append,#[x,y],#[t,t]⟩,type:=type,pos:=pos,after:=after,guard:=guard }).run P w = .ok (.value (B0 kv)) w':=by
      simp [execOp,resolve,invoke,builtin,ha.eval hu,ha.eval hv,h4]
     rw [hr]
     exact hn kv S' w' h2 h3 h1
    ·exact h.elim
   ·exact h.elim
  ·split at h
   ·rename_i u hu
    split at h
    ·rename_i v hv
     obtain⟨kv,S',w',h1,h2,h3,h4⟩:=uY hty h hs type
     unfold Oper.wp
     have hr:(execOp a.eval { dst:=dst,op:=.call ⟨.builtin .append,#[x,y],#[t,t']⟩,type:=type,pos:=pos,after:=after,guard:=guard }).run P w = .ok (.value (B0 kv)) w':=by
      simp [execOp,resolve,invoke,builtin,ha.eval hu,ha.eval hv,h4]
     rw [hr]
     exact hn kv S' w' h2 h3 h1
    ·exact h.elim
   ·exact h.elim
 -- copy
 ·rename_i x y t t'
  split at h
  ·rename_i u hu
   split at h
   ·rename_i v hv
    obtain⟨kv,S',w',h1,h2,h3,h4⟩:=Je (r:=type) (t':=t') hty h hs
    unfold Oper.wp
    have hr:(execOp a.eval { dst:=dst,op:=.call ⟨.builtin .copy,#[x,y],#[t,t']⟩,type:=type,pos:=pos,after:=after,guard:=guard }).run P w = .ok (.value (B0 kv)) w':=by
     simp [execOp,resolve,invoke,builtin,ha.eval hu,ha.eval hv,h4]
    rw [hr]
    exact hn kv S' w' h2 h3 h1
   ·exact h.elim
  ·exact h.elim
 -- call
 ·rename_i fo args tys
  split at h
  ·rename_i f caps hf
   obtain⟨vs,h1,h2⟩:=bM ha _ _ _ h
   have e1:(vs.map A1++caps.map A0).toArray=args.map a.eval++(caps.map A0).toArray:=by
    rw [h2]
    exact Array.ext' (by simp)
   unfold Oper.wp
   rcases h1.go w.heap hs with h3|h3|h3
   ·rw [e1] at h3
    have hr:(execOp a.eval { dst:=dst,op:=.call ⟨.value fo,args,tys⟩,type:=type,pos:=pos,after:=after,guard:=guard }).run P w = .ok (.enter f (args.map a.eval++(caps.map A0).toArray)) w:=by
     have:=h3.1 (args.map a.eval++(caps.map A0).toArray) w
     simp [execOp,resolve,ha.eval hf,B0,A1,Deferred.ofValue,invoke,this]
    rw [hr]
    refine jW h3 rfl fun v w' he hR=>?_
    obtain⟨kv,S',rfl,h4,h5⟩:=hR
    exact hn kv S' w' he h4 h5
   ·rw [e1] at h3
    obtain⟨v,w',h4,⟨g1,g2,g3⟩,kv,S',rfl,h5,h6⟩:=h3 w rfl
    have hr:(execOp a.eval { dst:=dst,op:=.call ⟨.value fo,args,tys⟩,type:=type,pos:=pos,after:=after,guard:=guard }).run P w = .ok (.value (B0 kv)) w':=by
     simp [execOp,resolve,ha.eval hf,B0,A1,Deferred.ofValue,invoke,h4]
    rw [hr]
    exact hn kv S' w' ⟨g1,g2,g3⟩ h5 h6
   ·rw [e1] at h3
    have hr:(execOp a.eval { dst:=dst,op:=.call ⟨.value fo,args,tys⟩,type:=type,pos:=pos,after:=after,guard:=guard }).run P w = .ok (.enter f (args.map a.eval++(caps.map A0).toArray)) w:=by
     have:=h3.1 (args.map a.eval++(caps.map A0).toArray) w
     simp [execOp,resolve,ha.eval hf,B0,A1,Deferred.ofValue,invoke,this]
    rw [hr]
    refine hZ h3 hp fun v w' he hR=>?_
    obtain⟨kv,S',rfl,h4,h5⟩:=hR
    exact hn kv S' w' he h4 h5
  ·rename_i f first caps hf
   obtain⟨vs,h1,h2⟩:=bM ha _ _ _ h
   have e1:((kM first++vs).map A1++(kM caps).map A0).toArray=first.toArray++args.map a.eval++caps.toArray:=by
    rw [List.map_append,cP,h2,S6]
    exact Array.ext' (by simp)
   unfold Oper.wp
   rcases h1.go w.heap hs with h3|h3|h3
   ·rw [e1] at h3
    have hr:(execOp a.eval { dst:=dst,op:=.call ⟨.value fo,args,tys⟩,type:=type,pos:=pos,after:=after,guard:=guard }).run P w = .ok (.enter f (first.toArray++args.map a.eval++caps.toArray)) w:=by
     have:=h3.1 (first.toArray++args.map a.eval++caps.toArray) w
     simp [execOp,resolve,ha.eval hf,B0,A1,A0,Deferred.ofValue,invoke] at this ⊢
     exact this
    rw [hr]
    refine jW h3 rfl fun v w' he hR=>?_
    obtain⟨kv,S',rfl,h4,h5⟩:=hR
    exact hn kv S' w' he h4 h5
   ·rw [e1] at h3
    obtain⟨v,w',h4,⟨g1,g2,g3⟩,kv,S',rfl,h5,h6⟩:=h3 w rfl
    have hr:(execOp a.eval { dst:=dst,op:=.call ⟨.value fo,args,tys⟩,type:=type,pos:=pos,after:=after,guard:=guard }).run P w = .ok (.value (B0 kv)) w':=by
     simp [execOp,resolve,ha.eval hf,B0,A1,A0,Deferred.ofValue,invoke] at h4 ⊢
     exact h4
    rw [hr]
    exact hn kv S' w' ⟨g1,g2,g3⟩ h5 h6
   ·rw [e1] at h3
    have hr:(execOp a.eval { dst:=dst,op:=.call ⟨.value fo,args,tys⟩,type:=type,pos:=pos,after:=after,guard:=guard }).run P w = .ok (.enter f (first.toArray++args.map a.eval++caps.toArray)) w:=by
     have:=h3.1 (first.toArray++args.map a.eval++caps.toArray) w
     simp [execOp,resolve,ha.eval hf,B0,A1,A0,Deferred.ofValue,invoke] at this ⊢
     exact this
    rw [hr]
    refine hZ h3 hp fun v w' he hR=>?_
    obtain⟨kv,S',rfl,h4,h5⟩:=hR
    exact hn kv S' w' he h4 h5
  ·exact h.elim
 -- invoke
 ·rename_i x name args tys
  split at h
  ·rename_i t v hf
   obtain⟨vs,h1,h2⟩:=bM ha _ _ _ h
   obtain⟨f,r,hm,h1⟩:=h1
   have hm:=hm w hs
   have hx:a.eval x = .iface t v:=ha.eval hf
   have e0:(#[Value.iface t v]++Array.map a.eval args).extract 1 (#[Value.iface t v]++Array.map a.eval args).size=args.map a.eval:=Array.ext' (by simp;exact List.take_of_length_le (by simp))
   have e00:(#[Value.iface t v]++Array.map a.eval args)[0]?=some (Value.iface t v):=by rw [Array.getElem?_append_left (by simp)];rfl
   have e1:((r::vs).map A1++([]:List KV).map A0).toArray = #[A1 r]++args.map a.eval:=by
    rw [List.map_cons,h2]
    exact Array.ext' (by simp)
   unfold Oper.wp
   rcases h1.go w.heap hs with h3|h3|h3
   ·rw [e1] at h3
    have hr:(execOp a.eval { dst:=dst,op:=.call ⟨.invoke x name,args,tys⟩,type:=type,pos:=pos,after:=after,guard:=guard }).run P w = .ok (.enter f (#[A1 r]++args.map a.eval)) w:=by
     have:=h3.1 (#[A1 r]++args.map a.eval) w
     generalize A1 r=rv at *
     simp only [execOp,resolve,hx,invoke,Sem.run_bind,Sem.run_pure,Result.andThen,e00,e0]
     simp [callMethod,hm,this]
    rw [hr]
    refine jW h3 rfl fun v w' he hR=>?_
    obtain⟨kv,S',rfl,h4,h5⟩:=hR
    exact hn kv S' w' he h4 h5
   ·rw [e1] at h3
    obtain⟨v,w',h4,⟨g1,g2,g3⟩,kv,S',rfl,h5,h6⟩:=h3 w rfl
    have hr:(execOp a.eval { dst:=dst,op:=.call ⟨.invoke x name,args,tys⟩,type:=type,pos:=pos,after:=after,guard:=guard }).run P w = .ok (.value (B0 kv)) w':=by
     generalize A1 r=rv at *
     simp only [execOp,resolve,hx,invoke,Sem.run_bind,Sem.run_pure,Result.andThen,e00,e0]
     simp [callMethod,hm,h4]
    rw [hr]
    exact hn kv S' w' ⟨g1,g2,g3⟩ h5 h6
   ·rw [e1] at h3
    have hr:(execOp a.eval { dst:=dst,op:=.call ⟨.invoke x name,args,tys⟩,type:=type,pos:=pos,after:=after,guard:=guard }).run P w = .ok (.enter f (#[A1 r]++args.map a.eval)) w:=by
     have:=h3.1 (#[A1 r]++args.map a.eval) w
     generalize A1 r=rv at *
     simp only [execOp,resolve,hx,invoke,Sem.run_bind,Sem.run_pure,Result.andThen,e00,e0]
     simp [callMethod,hm,this]
    rw [hr]
    refine hZ h3 hp fun v w' he hR=>?_
    obtain⟨kv,S',rfl,h4,h5⟩:=hR
    exact hn kv S' w' he h4 h5
  ·exact h.elim
 -- range
 ·rename_i t x
  split at h
  ·rename_i _ _ _ _ hi
   have ht:=hty t _ hi
   split at h
   ·rename_i s hv
    obtain⟨d,S',h1,h2,h3⟩:=aW h hs (.stringIter s 0) (by simp only [C7];exact heap_alloc_new w _)
    have hr:(Instr.range t (a.eval x)).run P w = .ok (.pointer (some ⟨w.heap.size,0,none⟩)) (w.alloc (.stringIter s 0)):=by
     rw [ha.eval hv]
     have hk:P.underlying t=some .string:=ht.kind
     have hu:(underlying t).run P w = .ok .string w:=by simp [underlying,hk]
     simp only [B0,A1,A0,Instr.range,Sem.run_bind,hu,Result.andThen_ok,Sem.run_pure]
     rfl
    unfold Oper.wp
    simp only [execOp]
    rw [Q3 hr]
    exact hn (.own d w.heap.size 0) S' _ (cR _ _) h3 h2
   ·exact h.elim
  ·exact h.elim
 -- next
 ·rename_i x
  split at h
  ·rename_i k b hv
   split at h
   ·rename_i b' s p hf
    obtain⟨rfl,h⟩:=h
    have hat:w.heap[b]?=some (.stringIter s p):=(hs.chunk _ (fM hf)).2.2
    unfold Oper.wp
    simp only [execOp,ha.eval hv]
    by_cases hp:p<s.size
    ·obtain⟨l,r,b1,c1,h1,h2,h3⟩:=K7 (h.yes hp)
     rw [hf] at h2
     cases h2
     have hr:(Instr.next (B0 (.own k b 0)) true type).run P w = _:=Lib.run_next_any_at w b s p type hat hp
     rw [Q3 hr]
     refine hn (.tup [.val (.bool true),.val (.int .i64 (p:Int)),.val (.int .i32 (Utf8.decode s p).1)]) _ _ ⟨rfl,rfl,rfl⟩ (hs.upd h1 ?_ ?_ ?_) (S9 h3)
     ·simp [World.iterAt]
     ·intro j hj _
      simp [World.iterAt,Array.getElem?_setIfInBounds,Ne.symm hj]
     ·simp only [C7]
      exact Lib.iterAt_heap w b s p _ hat
    ·have hr:(Instr.next (B0 (.own k b 0)) true type).run P w = _:=Lib.run_next_end_at w b s p type hat hp
     rw [Q3 hr]
     exact hn (.tup [.val (.bool false)]) S _ ⟨rfl,rfl,rfl⟩ hs (h.no hp)
   ·exact h.elim
  ·exact h.elim
 -- panic
 ·rename_i x
  split at h
  ·rename_i t v hv
   unfold Oper.wp
   have hr:(execOp a.eval { dst:=dst,op:=.panic x,type:=type,pos:=pos,after:=after,guard:=guard }).run P w = .halt (.panic (.iface t v)) w:=by
    simp [execOp,ha.eval hv,B0,A1,A0,Instr.panic,goPanic,Sem.run]
   rw [hr]
   exact hp _ w (SE.refl w) (h.go w.heap hs)
  ·exact h.elim
 ·obtain⟨kv,S',w',h1,⟨g1,g2,g3⟩,h2,h3⟩:=h.go a.eval w (fun x v hx=>ha.eval hx) hs
  unfold Oper.wp
  rw [h1]
  exact hn kv S' w' ⟨g1,g2,g3⟩ h2 h3
 ·obtain⟨kv,S',w',h1,⟨g1,g2,g3⟩,h2,h3⟩:=h.go a.eval w (fun x v hx=>ha.eval hx) hs
  unfold Oper.wp
  rw [h1]
  exact hn kv S' w' ⟨g1,g2,g3⟩ h2 h3
 ·obtain⟨kv,S',w',h1,⟨g1,g2,g3⟩,h2,h3⟩:=h.go a.eval w (fun x v hx=>ha.eval hx) hs
  unfold Oper.wp
  rw [h1]
  exact hn kv S' w' ⟨g1,g2,g3⟩ h2 h3
 ·exact quiet h
end
end Go.Ex
