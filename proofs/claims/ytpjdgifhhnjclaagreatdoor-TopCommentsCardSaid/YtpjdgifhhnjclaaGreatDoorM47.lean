/-
  Top: TopComments: whatever the input, the law answers true (part 47)
-/
import Derived.Test.YtpjdgifhhnjclaaGreatDoorM46
set_option linter.unusedVariables false
set_option linter.unusedSimpArgs false
set_option maxHeartbeats 4000000
set_option maxRecDepth 10000
namespace Go.Proofs.YtpjdgifhhnjclaaGreatDoor
open Go.ChangeShapes Go.WideShapes Go.ChangeAt Go.RowKit Go.Ex Go.ChangeMaps Go.Lib
theorem Ek:Tryz.f7.params = #[5,9,9]:=rfl
set_option maxRecDepth 100000 in
theorem jY(os:Os)(started:os.Started)(H:Type)(enc:TypeId×Value→H) :
 ReturnsInHanded {} Tryz.checked os 7 .any (fun w args=>(Rows.topCommentsSpec.pre enc Tryz.prog Tryz.f7 [] false w args∧laidMetH Tryz.prog sQ w)∧sizedMet enc Tryz.prog Tryz.f7 (OpenSpec.ofChange Rows.topCommentsSpec) false w args)
  (Rows.topCommentsSpec.post enc Tryz.prog Tryz.f7 false true false false):=by
 refine yT started (by kernel_rfl) Tryz.func7
  (ChangeSpec.witness_shaped (enc:=enc) (C:=Tryz.checked) (os:=os) (X:=fun w _=>laidMetH Tryz.prog sQ w) false (World.laidAll Tryz.prog os sQ) #[.int .u8 0,.string ⟨#[]⟩,.string ⟨#[]⟩] 8 (World.laidAll_os _ _ _)
   (World.shaped_of_ZipB (by kernel_rfl) (by kernel_rfl)) (by kernel_rfl) (by kernel_rfl) (by kernel_rfl)
   (by rw [MakeChecks.laidMetH_plain _ _ _ (by kernel_rfl)];exact laidMet_laidAll _ (by kernel_rfl) (by kernel_rfl))) ?_
 intro W base args ds gs before hval0 hW hsz hT
 have hval:∀ (j:Nat) t v,Tryz.f7.params[j]?=some t→args[j]?=some v→Value.okWide Tryz.prog W .any base t v:=hval0
 have hW':=hW
 obtain⟨p,q,hA0,hV,rfl,hfz,hnd⟩:=hW
 have hA:DataW.TrodAll enc Tryz.prog W 0 (fun _=>true) true Tryz.f7.params.toList args.toList ds p:=hA0
 rw [Ek] at hA hval hsz
 obtain⟨v0,v1,v2,d0,d1,d2,p0,p1,p2,rfl,rfl,rfl,h0,h1,h2⟩:=trodAll_three hA
 obtain⟨rfl,rfl⟩:=trodVars_none hV
 obtain⟨n,rfl,rfl,rfl,wn⟩:=open_int Tryz.underlying5 (hval 0 5 v0 rfl rfl) h0
 have hn:0≤n∧n<256:=by
  have h:0≤n∧n≤255:=by simpa [Lit.wf,IntKind.min,IntKind.max,IntKind.signed,IntKind.bits] using wn
  omega
 obtain⟨s,rfl,rfl,rfl,hs⟩:=open_string Tryz.underlying9 (hval 1 9 v1 rfl rfl) h1
 have hz:s.size≤140737488355328:=Uj hsz (j:=1) rfl rfl
 obtain⟨u,rfl,rfl,rfl,hu⟩:=open_string Tryz.underlying9 (hval 2 9 v2 rfl rfl) h2
 have hz2:u.size≤140737488355328:=Uj hsz (j:=2) rfl rfl
 clear hA0 hval0
 simp only [List.append_nil] at hW'
 refine ((pQ n s u W.heap hn hT hz hz2).2 W rfl).mono fun e W' ⟨he,v,hv1,hv2,hv3⟩=>?_
 subst hv1 hv2
 have hb:=Dv he hv3
 exact⟨_,rfl,_,_,_,[],_,[],hW',trodAll_mk1 (shut_bool Tryz.underlying4 true),trodAll_mk3 (shut_int Tryz.underlying5 wn) (shut_string Tryz.underlying9 hs) (shut_string Tryz.underlying9 hu),rfl,hb.frame _,fun h=>by cases h⟩
theorem nE:Rows.TopCommentsSaid:=
 OpenClaim.holds_of_wide 7 Tryz.f7 rfl rfl rfl rfl rfl rfl rfl ⟨rfl,rfl,rfl,rfl,rfl⟩ rfl rfl rfl rfl rfl (by kernel_rfl) Tryz.func7 (by kernel_rfl)
  (of_decide_eq_true (by kernel_rfl)) (by unfold Func.isWrapper;first|(rw [if_pos (by decide +kernel)];kernel_rfl)|(rw [if_neg (by decide +kernel)];exact⟨rfl,rfl⟩))
  (fun os started H enc _=>jY os started H enc)
theorem topComments_card:Rows.TopCommentsCardSaid:=
 Claim7.holds_tied_plain_at .later [] [.data, .pinned] true (true, "01368e8ac3df85631796006d99623880856978b0f1264a2890e951fdff56247b") true
  nE (fun _ h=>by cases h) (by kernel_rfl) (fun _ h=>by cases h) topComments_row_tie rfl ⟨rfl,rfl⟩ (by kernel_rfl) rfl
  (fun f fn hf hfn=>by
   obtain rfl : f = 7 := Option.some.inj ((show Tryz.prog.funcNamed "emend/emendtop.TopComments" = some 7 by kernel_rfl).symm.trans hf) |>.symm
   obtain rfl:fn=Tryz.f7:=(Option.some.inj (Tryz.func7.symm.trans hfn)).symm
   exact⟨by kernel_rfl,fun j t ht=>by
    rw [Ek] at ht
    have hm:t∈[5,9,9]:=by simpa using Array.mem_of_getElem? ht
    have hall:([5,9,9].all fun u=>!Tryz.prog.wantsStandIn u)=true:=by kernel_rfl
    exact (show Tryz.prog.wantsStandIn t=false by simpa using List.all_eq_true.1 hall t hm)⟩)
  (by kernel_rfl)
#print axioms topComments_card
end Go.Proofs.YtpjdgifhhnjclaaGreatDoor
