/-
  Pick: calls through the interface.
-/
import Derived.Test.YtinelelkjbdaiaaPkB
namespace Go.Ex
open Go.Proofs
set_option linter.unusedVariables false
set_option linter.unusedSimpArgs false
attribute [local irreducible] CallsH

section
variable {S : St} {κ : KV → St → Prop} {bq b cap : Nat} {L : List It}
theorem hasQ (h1 : findC S.ch 14 = some (bq, .box 45 [.osl 13 b L.length cap])) (h2 : findC S.ch 13 = some (b, .arr 48 itR L cap)) : HasC S.ch (QCh bq b cap L ++ []) := ⟨h1, rfl, h2, rfl, trivial⟩
/-- a call that turns the queue, where there is no more than the queue -/
theorem CallK.q {f : Nat} {args caps : List KV} (Post : KV → Nat → Nat → List It → Prop) (h1 : findC S.ch 14 = some (bq, .box 45 [.osl 13 b L.length cap])) (h2 : findC S.ch 13 = some (b, .arr 48 itR L cap))
    (hh : ∀ h, HS ⟨h, [bq, b], QCh bq b cap L⟩ h → CallsH Try.prog f (args.map den1 ++ caps.map denC).toArray h fun u h' => ∃ kv b' cap' L', den kv = u ∧ HS ⟨h, [bq, b], QCh bq b' cap' L'⟩ h' ∧ Post kv b' cap' L')
    (hk : ∀ kv b' cap' L', Post kv b' cap' L' → κ kv ⟨S.h0, S.cap, QCh bq b' cap' L'⟩) : CallK Try.prog f args caps S κ := by
  refine CallK.mut (QCh bq b cap L) [] (fun kv q' => ∃ b' cap' L', q' = QCh bq b' cap' L' ∧ Post kv b' cap' L') (hasQ h1 h2) (fun h _ hs => (hh h hs).mono fun u h' ⟨kv, b', cap', L', a1, a2, a3⟩ => ⟨kv, _, a1, a2, b', cap', L', rfl, a3⟩) ?_
  rintro kv q' ⟨b', cap', L', rfl, h⟩
  rw [List.append_nil]
  exact hk kv b' cap' L' h
theorem derefQ {name : String} {f : Nat} (hr : Row Try.prog 43 name f false) (h1 : findC S.ch 14 = some (bq, .box 45 [.osl 13 b L.length cap])) : MethodIs Try.prog 43 (.pointer (some ⟨bq, 0, none⟩)) name S f (.osl 13 b L.length cap) := by
  refine MethodIs.deref (k := 14) tysOk hr Try.underlying43 ?_
  simp only [loadK, ty, h1]
  exact ⟨trivial, rfl, rfl⟩
theorem slQ {h : Heap} (hs : HS S h) (h2 : findC S.ch 13 = some (b, .arr 48 itR L cap)) : Sl itR h (some ⟨b, 0, none⟩) L.length L := by
  have := hs.sl h2 (Nat.le_refl L.length)
  rwa [List.take_length] at this
theorem inv_len (h1 : findC S.ch 14 = some (bq, .box 45 [.osl 13 b L.length cap])) (hk : κ (.val (.int .i64 L.length)) S) : InvK Try.prog 43 (.pointer (some ⟨bq, 0, none⟩)) "Len" [] S κ := by
  refine ⟨23, _, derefQ rowLen h1, CallK.says _ (fun h hs => ?_) hk⟩
  have := qlen_any (some ⟨b, 0, none⟩) L.length cap h
  exact this
theorem inv_less {i j : Int} (h1 : findC S.ch 14 = some (bq, .box 45 [.osl 13 b L.length cap])) (h2 : findC S.ch 13 = some (b, .arr 48 itR L cap)) (hi : 0 ≤ i ∧ i < L.length) (hj : 0 ≤ j ∧ j < L.length)
    (hk : κ (.prop (Lt (itAt L i) (itAt L j))) S) : InvK Try.prog 43 (.pointer (some ⟨bq, 0, none⟩)) "Less" [.val (.int .i64 i), .val (.int .i64 j)] S κ := by
  refine ⟨44, _, derefQ rowLess h1, CallK.says _ (fun h hs => ?_) hk⟩
  exact qless_any (some ⟨b, 0, none⟩) L.length cap L i j h (slQ hs h2) hi hj
theorem inv_swap {i j : Int} (h1 : findC S.ch 14 = some (bq, .box 45 [.osl 13 b L.length cap])) (h2 : findC S.ch 13 = some (b, .arr 48 itR L cap)) (hi : 0 ≤ i ∧ i < L.length) (hj : 0 ≤ j ∧ j < L.length)
    (hk : κ (.tup []) ⟨S.h0, S.cap, QCh bq b cap (swap L i j)⟩) : InvK Try.prog 43 (.pointer (some ⟨bq, 0, none⟩)) "Swap" [.val (.int .i64 i), .val (.int .i64 j)] S κ := by
  refine ⟨47, _, derefQ rowSwap h1, CallK.q (fun kv b' cap' L' => kv = .tup [] ∧ b' = b ∧ cap' = cap ∧ L' = swap L i j) h1 h2 (fun h hs => ?_) ?_⟩
  · have hc : HasC (QCh bq b cap L) ([(13, b, .arr 48 itR L cap)] ++ [(14, bq, .box 45 [.osl 13 b L.length cap])]) := ⟨rfl, rfl, rfl, rfl, trivial⟩
    have hp := hs.part hc
    refine (qswap_any b cap L i j h hp hi hj).mono fun u h' ⟨a1, a2⟩ => ?_
    have := hs.join hc a2
    have hl : (swap L i j).length = L.length := by simp [swap]
    have h3 : HS ⟨h, [bq, b], QCh bq b cap (swap L i j)⟩ h' := by
      have e : QCh bq b cap (swap L i j) = [(14, bq, .box 45 [.osl 13 b L.length cap]), (13, b, .arr 48 itR (swap L i j) cap)] := by simp only [QCh, hl]
      rw [e]
      exact HasC.hs (S := ⟨h, [bq, b], [(13, b, .arr 48 itR (swap L i j) cap)] ++ [(14, bq, .box 45 [.osl 13 b L.length cap])]⟩) this ⟨rfl, rfl, rfl, rfl, trivial⟩
    exact ⟨.tup [], b, cap, _, a1.symm, h3, rfl, rfl, rfl, rfl⟩
  · rintro kv b' cap' L' ⟨rfl, rfl, rfl, rfl⟩
    exact hk
theorem inv_push {x : It} (h1 : findC S.ch 14 = some (bq, .box 45 [.osl 13 b L.length cap])) (h2 : findC S.ch 13 = some (b, .arr 48 itR L cap)) (hL : L.length ≤ 300)
    (hk : ∀ b' cap', κ (.tup []) ⟨S.h0, S.cap, QCh bq b' cap' (L ++ [x])⟩) : InvK Try.prog 43 (.pointer (some ⟨bq, 0, none⟩)) "Push" [.val (ItV x)] S κ := by
  refine ⟨46, .own 14 bq 0, MethodIs.ptr rowPush Try.underlying43, CallK.q (fun kv b' cap' L' => kv = .tup [] ∧ L' = L ++ [x]) h1 h2 (fun h hs => ?_) ?_⟩
  · exact (qpush_any bq b cap L x h hs hL).mono fun u h' ⟨b', cap', a1, a2⟩ => ⟨.tup [], b', cap', _, a1.symm, a2, rfl, rfl⟩
  · rintro kv b' cap' L' ⟨rfl, rfl⟩
    exact hk b' cap'
theorem inv_pop {x : It} (h1 : findC S.ch 14 = some (bq, .box 45 [.osl 13 b (L ++ [x]).length cap])) (h2 : findC S.ch 13 = some (b, .arr 48 itR (L ++ [x]) cap)) (hL : L.length ≤ 300)
    (hk : κ (.val (ItV x)) ⟨S.h0, S.cap, QCh bq b cap L⟩) : InvK Try.prog 43 (.pointer (some ⟨bq, 0, none⟩)) "Pop" [] S κ := by
  refine ⟨45, .own 14 bq 0, MethodIs.ptr rowPop Try.underlying43, CallK.q (fun kv b' cap' L' => kv = .val (ItV x) ∧ b' = b ∧ cap' = cap ∧ L' = L) h1 h2 (fun h hs => ?_) ?_⟩
  · exact (qpop_any bq b cap L x h hs hL).mono fun u h' ⟨a1, a2⟩ => ⟨.val (ItV x), b, cap, L, a1.symm, a2, rfl, rfl, rfl, rfl⟩
  · rintro kv b' cap' L' ⟨rfl, rfl, rfl, rfl⟩
    exact hk
end
end Go.Ex
