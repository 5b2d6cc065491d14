/-
  Top: TopDeep: whatever the input, the law answers true (part 53)
-/
import Derived.Test.YtpjdgifhhnjclaaGreatDoorM52
set_option linter.unusedVariables false
set_option linter.unusedSimpArgs false
set_option maxHeartbeats 4000000
set_option maxRecDepth 10000
namespace Go.Proofs.YtpjdgifhhnjclaaGreatDoor
open Go.ChangeShapes Go.WideShapes Go.ChangeAt Go.RowKit Go.Ex Go.ChangeMaps Go.Lib
theorem params6:Tryz.f6.params = #[53,5]:=rfl
set_option maxRecDepth 100000 in
theorem topDeep_lifted(os:Os)(started:os.Started)(H:Type)(enc:TypeId×Value→H) :
 ReturnsInHanded {} Tryz.checked os 6 .any (fun w args=>(Rows.topDeepSpec.pre enc Tryz.prog Tryz.f6 [] false w args∧laidMetH Tryz.prog laid2 w)∧sizedMet enc Tryz.prog Tryz.f6 (OpenSpec.ofChange Rows.topDeepSpec) false w args)
  (Rows.topDeepSpec.post enc Tryz.prog Tryz.f6 false true false false):=by
 refine returns_laid started (by kernel_rfl) Tryz.func6
  (ChangeSpec.witness_shaped (enc:=enc) (C:=Tryz.checked) (os:=os) (X:=fun w _=>laidMetH Tryz.prog laid2 w) false (World.laidAll Tryz.prog os laid2) #[.int .u16 0,.int .u8 0] 8 (World.laidAll_os _ _ _)
   (World.shaped_of_ZipB (by kernel_rfl) (by kernel_rfl)) (by kernel_rfl) (by kernel_rfl) (by kernel_rfl)
   (by rw [MakeChecks.laidMetH_plain _ _ _ (by kernel_rfl)];exact laidMet_laidAll _ (by kernel_rfl) (by kernel_rfl))) ?_
 intro W base args ds gs before hval0 hW hsz hT
 have hval:∀ (j:Nat) t v,Tryz.f6.params[j]?=some t→args[j]?=some v→Value.okWide Tryz.prog W .any base t v:=hval0
 have hW':=hW
 obtain⟨p,q,hA0,hV,rfl,hfz,hnd⟩:=hW
 have hA:DataW.TrodAll enc Tryz.prog W 0 (fun _=>true) true Tryz.f6.params.toList args.toList ds p:=hA0
 rw [params6] at hA hval hsz
 obtain⟨v0,v1,d0,d1,p0,p1,rfl,rfl,rfl,h0,h1⟩:=trodAll_two hA
 obtain⟨rfl,rfl⟩:=trodVars_none hV
 obtain⟨n,rfl,rfl,rfl,wn⟩:=open_int Tryz.underlying53 (hval 0 53 v0 rfl rfl) h0
 have hn:0≤n∧n<65536:=by
  have h:0≤n∧n≤65535:=by simpa [Lit.wf,IntKind.min,IntKind.max,IntKind.signed,IntKind.bits] using wn
  omega
 obtain⟨q0,rfl,rfl,rfl,wq⟩:=open_int Tryz.underlying5 (hval 1 5 v1 rfl rfl) h1
 have hq:0≤q0∧q0<256:=by
  have h:0≤q0∧q0≤255:=by simpa [Lit.wf,IntKind.min,IntKind.max,IntKind.signed,IntKind.bits] using wq
  omega
 clear hA0 hval0
 simp only [List.append_nil] at hW'
 refine ((topdeep_any n q0 W.heap hn hq hT).2 W rfl).mono fun e W' ⟨he,v,hv1,hv2,hv3⟩=>?_
 subst hv1 hv2
 have hb:=below_of he hv3
 exact⟨_,rfl,_,_,_,[],_,[],hW',trodAll_mk1 (shut_bool Tryz.underlying4 true),trodAll_mk2 (shut_int Tryz.underlying53 wn) (shut_int Tryz.underlying5 wq),rfl,hb.frame _,fun h=>by cases h⟩
theorem topDeep_said:Rows.TopDeepSaid:=
 OpenClaim.holds_of_wide 6 Tryz.f6 rfl rfl rfl rfl rfl rfl rfl ⟨rfl,rfl,rfl,rfl,rfl⟩ rfl rfl rfl rfl rfl (by kernel_rfl) Tryz.func6 (by kernel_rfl)
  (of_decide_eq_true (by kernel_rfl)) (by unfold Func.isWrapper;first|(rw [if_pos (by decide +kernel)];kernel_rfl)|(rw [if_neg (by decide +kernel)];exact⟨rfl,rfl⟩))
  (fun os started H enc _=>topDeep_lifted os started H enc)
theorem topDeep_card:Rows.TopDeepCardSaid:=
 Claim7.holds_tied_plain_at .later [] [.data, .pinned] true (true, "01368e8ac3df85631796006d99623880856978b0f1264a2890e951fdff56247b") true
  topDeep_said (fun _ h=>by cases h) (by kernel_rfl) (fun _ h=>by cases h) topDeep_row_tie rfl ⟨rfl,rfl⟩ (by kernel_rfl) rfl
  (fun f fn hf hfn=>by
   obtain rfl : f = 6 := Option.some.inj ((show Tryz.prog.funcNamed "emend/emendtop.TopDeep" = some 6 by kernel_rfl).symm.trans hf) |>.symm
   obtain rfl:fn=Tryz.f6:=(Option.some.inj (Tryz.func6.symm.trans hfn)).symm
   exact⟨by kernel_rfl,fun j t ht=>by
    rw [params6] at ht
    have hm:t∈[53,5]:=by simpa using Array.mem_of_getElem? ht
    have hall:([53,5].all fun u=>!Tryz.prog.wantsStandIn u)=true:=by kernel_rfl
    exact (show Tryz.prog.wantsStandIn t=false by simpa using List.all_eq_true.1 hall t hm)⟩)
  (by kernel_rfl)
#print axioms topDeep_card
end Go.Proofs.YtpjdgifhhnjclaaGreatDoor
