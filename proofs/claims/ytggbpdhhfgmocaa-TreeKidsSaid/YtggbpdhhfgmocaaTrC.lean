/-
  Tree: outline.
-/
import Derived.Test.YtggbpdhhfgmocaaTrB
namespace Go.Ex
open Go.Proofs
set_option linter.unusedVariables false

theorem HS.slA {h0 h : Heap} {ch : Chs} (hs : HS ⟨h0, [], ch⟩ h) {τ : Type} {k b T cap : Nat} {R : Rep τ} {xs : List τ} (hf : findC ch k = some (b, .arr T R xs cap)) {n : Nat} (hn : n = xs.length) : Sl R h (some ⟨b, 0, none⟩) n xs := by
  subst hn
  have := hs.sl hf (Nat.le_refl _)
  rwa [List.take_length] at this
theorem prop_true {p : Prop} (h : p) : denC (.prop p) = .bool true := by simp [denC, h]
structure OS where
  o : Option (Nat × Nat)
  xs : List Fr
  n : Int
  E : List Int
  U : List Int
  deep : Int
  i : Int
def slK (k : Nat) (o : Option (Nat × Nat)) (n : Int) : KV := match o with
  | none => .val (.slice none 0 0)
  | some (b, c) => .osl k b n c
def slC (k : Nat) (o : Option (Nat × Nat)) (L : List Fr) : Chs := match o with
  | none => []
  | some (b, c) => [(k, b, .arr 44 frR L c)]
structure OInv (L : List Nd) (n : Int) (h : Heap) (x : OS) : Prop where
  nil : x.o = none → x.i = 0 ∧ x.xs = [] ∧ x.n = 0 ∧ x.deep = 0
  arr : ∀ b c, x.o = some (b, c) → h.size ≤ b ∧ 0 < x.i ∧ ∃ ys D, Inv L n x.i ys x.E x.U x.deep D ∧ x.xs.take x.n.toNat = ys.reverse ∧ x.n = ys.length ∧ ∀ y st, ys = y :: st → 0 < y.c
  elen : x.E.length = L.length
  ulen : x.U.length = L.length
  i0 : 0 ≤ x.i
  n0 : 0 ≤ x.n
theorem tup4_eq {a b c d a' b' c' d' : Value} (h1 : a = a') (h2 : b = b') (h3 : c = c') (h4 : d = d') : Value.tuple #[a, b, c, d] = .tuple #[a', b', c', d'] := by rw [h1, h2, h3, h4]
theorem top_get {α : Type} {d x : α} {xs st : List α} {n : Int} (h : xs.take n.toNat = (x :: st).reverse) (hn : n = (x :: st).length) : getI d xs (n - 1) = x ∧ n ≤ xs.length ∧ 0 < n ∧ xs.take (n - 1).toNat = st.reverse ∧ n - 1 = st.length := by
  rw [List.length_cons] at hn
  have hl := congrArg List.length h
  rw [List.length_take, List.length_reverse, List.length_cons] at hl
  rw [List.reverse_cons] at h
  have e : (n - 1).toNat = st.length := by omega
  have h2 : (xs.take n.toNat)[st.length]? = some x := by rw [h, List.getElem?_append_right (by simp)]; simp
  rw [List.getElem?_take_of_lt (by omega)] at h2
  refine ⟨by simp [getI, List.getD, e, h2], by omega, by omega, ?_, by omega⟩
  have h3 := congrArg (List.take st.length) h
  rw [List.take_take, Nat.min_eq_left (by omega), List.take_left' (by simp)] at h3
  rw [e]; exact h3
theorem top_set {α : Type} {x x' : α} {xs st : List α} {n : Int} (h : xs.take n.toNat = (x :: st).reverse) (hn : n = (x :: st).length) : (xs.set (n - 1).toNat x').take n.toNat = (x' :: st).reverse := by
  rw [List.length_cons] at hn
  have hl := congrArg List.length h
  rw [List.length_take, List.length_reverse, List.length_cons] at hl
  have e : (n - 1).toNat = st.length := by omega
  rw [List.take_set, h, e, List.reverse_cons, List.reverse_cons]
  rw [List.set_append_right _ _ (by simp)]
  simp
set_option maxHeartbeats 4000000 in
set_option maxRecDepth 10000 in
theorem outline_any (A : Option Addr) (len cap : Nat) (L : List Nd) (n : Int) (h : Heap) (hA : Sl ndR h A len L) (hr : len * 40 ≤ 140737488355328) :
    CallsH Try.prog 25 #[.slice A len cap, .int .i64 n] h fun v h' => Grows h h' ∧ ∃ x y d b E U, v = .tuple #[x, y, .int .i64 d, .bool b] ∧ OwnSl (intR .i64) 3 h h' x E ∧ OwnSl (intR .i64) 3 h h' y U ∧ (b = true ↔ TreeP L n) ∧
      (b = true → EndsOk L E ∧ UpsOk L E U ∧ ∃ D, DeepOk L U d D) := by
  refine enter (rep := rep) (m := 13) (ex := [19, 20, 21]) (cu := [2]) tysOk Try.func25 rfl (by decide) (rs := [.tmp 4, .tmp 5, .tmp 6, .tmp 7]) rfl rfl [.val (.slice A len cap), .val (.int .i64 n)] rfl ?_
  have hlen := hA.small
  have hL := hA.len_eq
  conv => whnf
  refine join_rule tysOk [4, 5] (fun x : Nat × Nat => [(4, .osl 15 x.1 len len), (5, .osl 18 x.2 len len)]) (fun x => [(15, x.1, .arr 3 (intR .i64) (List.replicate len 0) len), (18, x.2, .arr 3 (intR .i64) (List.replicate len 0) len)]) (fun x => h.size ≤ x.1 ∧ h.size ≤ x.2) ?_
  conv => whnf
  refine ⟨?_, ?_⟩
  · ((repeat' ((conv => whnf); (first | (refine drawnW tysOk mixed (.pull 0 [1, 2, 6, 7] (.pull 1 [2, 6, 7] (.pull 3 [4, 5, 7] (.pull 4 [5, 7] (.br 2 5 (.pull 6 [7] (.one 5 (.pull 7 [] .done))) (.one 2 (.pull 6 [7] (.pull 7 [] .done)))))))) (by kernel_rfl) (by kernel_rfl) ?_) | (refine Ar.fit (by omega) ?_) | (refine VC.mk (by (first | omega | rfl | assumption | exact Sl.plain (by assumption) (by omega) | (and_intros <;> first | omega | rfl | assumption | (simp only [List.length_set]; omega) | (simp only [ByteArray.size_extract, ByteArray.size_append]; omega) | (simp only [List.length_cons, List.length_nil]; omega) | (simp only [Int.toNat_natCast, Int.toNat_one, List.length_take, List.length_cons, List.length_nil] at *; omega)))) ?_) | (refine Br.mk ?_ ?_ <;> intro hb <;> (try (first | (exfalso; omega) | exact absurd rfl hb | exact Bool.noConfusion hb | exact absurd (fun e => Bool.noConfusion e) hb | (exfalso; simp only [List.length_cons, List.length_nil] at hb; omega) | (exfalso; simp only [Int.toNat_natCast, Int.toNat_one, List.length_take, List.length_cons, List.length_nil] at hb; omega)))) | (refine XLoad.of (by assumption) rfl rfl (by omega) (by omega) rfl ?_) | (refine New.mk ?_; intro b hb) | (refine New2.mk ?_; intro b c hb hbc) | (refine SameR.same ?_) | (refine Two.mk ?_ ?_) | (refine ed_eql ?_) | (refine ed_neq ?_) | (refine drawn tysOk mixed (by kernel_rfl) ?_) | fail))); all_goals (try (conv => whnf)))
    all_goals
      rename_i c1 hc1
      first
      | exact ⟨(c1, b), ⟨hc1, hb⟩, by ((repeat (refine ⟨rfl, ?_⟩)); trivial), rfl, rfl, ⟨rfl, rfl, rfl, rfl, trivial⟩⟩
      | exact ⟨(b, c1), ⟨hb, hc1⟩, by ((repeat (refine ⟨rfl, ?_⟩)); trivial), rfl, rfl, ⟨rfl, rfl, rfl, rfl, trivial⟩⟩
  rintro ⟨b1, b2⟩ ⟨hb1, hb2⟩
  ((repeat' ((conv => whnf); (first | (refine Ar.fit (by omega) ?_) | (refine VC.mk (by (first | omega | rfl | assumption | exact Sl.plain (by assumption) (by omega) | (and_intros <;> first | omega | rfl | assumption | (simp only [List.length_set]; omega) | (simp only [ByteArray.size_extract, ByteArray.size_append]; omega) | (simp only [List.length_cons, List.length_nil]; omega) | (simp only [Int.toNat_natCast, Int.toNat_one, List.length_take, List.length_cons, List.length_nil] at *; omega)))) ?_) | (refine Br.mk ?_ ?_ <;> intro hb <;> (try (first | (exfalso; omega) | exact absurd rfl hb | exact Bool.noConfusion hb | exact absurd (fun e => Bool.noConfusion e) hb | (exfalso; simp only [List.length_cons, List.length_nil] at hb; omega) | (exfalso; simp only [Int.toNat_natCast, Int.toNat_one, List.length_take, List.length_cons, List.length_nil] at hb; omega)))) | (refine XLoad.of (by assumption) rfl rfl (by omega) (by omega) rfl ?_) | (refine New.mk ?_; intro b hb) | (refine New2.mk ?_; intro b c hb hbc) | (refine SameR.same ?_) | (refine Two.mk ?_ ?_) | (refine ed_eql ?_) | (refine ed_neq ?_) | (refine drawn tysOk mixed (by kernel_rfl) ?_) | fail))); all_goals (try (conv => whnf)))
  refine loop_rule tysOk [6, 8, 21] (fun x : OS => [(6, .val (.int .i64 x.deep)), (8, slK 151 x.o x.n), (21, .val (.int .i64 x.i))]) (fun x => slC 151 x.o x.xs ++ [(15, b1, .arr 3 (intR .i64) x.E len), (18, b2, .arr 3 (intR .i64) x.U len)])
    (fun μ x => OInv L n h x ∧ x.i + μ = len) len ⟨none, [], 0, List.replicate len 0, List.replicate len 0, 0, 0⟩ ?_
  conv => whnf
  refine ⟨by ((repeat (refine ⟨rfl, ?_⟩)); trivial), ⟨rfl, rfl, rfl, rfl, trivial⟩, ⟨⟨fun _ => ⟨rfl, rfl, rfl, rfl⟩, fun b c h => (by cases h), by simp [hL], by simp [hL], by simp, by simp⟩, by simp⟩, ?_⟩
  rintro μ ⟨o, xs, m, E, U, deep, i⟩ ⟨⟨hnil, harr, hE, hU, hi0, hm0⟩, hμ⟩
  dsimp only at hnil harr hE hU hi0 hm0 hμ ⊢
  by_cases hi : i < len
  · have hlc : ¬ lcP L n i → ¬ TreeP L n := by
      intro hl
      rcases o with _ | ⟨b0, c0⟩
      · obtain ⟨rfl, _⟩ := hnil rfl
        exact fun ht => hl ht.2.1
      · obtain ⟨_, hi1, ys, D, hv, h1, h2, h3⟩ := harr b0 c0 rfl
        rcases ys with _ | ⟨y, st⟩
        · exact hv.none (by omega)
        · exact hv.not (h3 y st rfl) (fun hh => hl hh.2.1)
    rcases o with _ | ⟨b0, c0⟩
    · obtain ⟨rfl, rfl, rfl, rfl⟩ := hnil rfl
      clear hnil harr
      dsimp only [slK, slC, List.nil_append]
      ((repeat' ((conv => whnf); (first | (refine Ar.fit (by omega) ?_) | (refine VC.mk (by (first | omega | rfl | assumption | exact Sl.plain (by assumption) (by omega) | (and_intros <;> first | omega | rfl | assumption | (simp only [List.length_set]; omega) | (simp only [ByteArray.size_extract, ByteArray.size_append]; omega) | (simp only [List.length_cons, List.length_nil]; omega) | (simp only [Int.toNat_natCast, Int.toNat_one, List.length_take, List.length_cons, List.length_nil] at *; omega)))) ?_) | (refine Br.mk ?_ ?_ <;> intro hb <;> (try (first | (exfalso; omega) | exact absurd rfl hb | exact Bool.noConfusion hb | exact absurd (fun e => Bool.noConfusion e) hb | (exfalso; simp only [List.length_cons, List.length_nil] at hb; omega) | (exfalso; simp only [Int.toNat_natCast, Int.toNat_one, List.length_take, List.length_cons, List.length_nil] at hb; omega)))) | (refine XLoad.of (by assumption) rfl rfl (by omega) (by omega) rfl ?_) | (refine New.mk ?_; intro b hb) | (refine New2.mk ?_; intro b c hb hbc) | (refine SameR.same ?_) | (refine Two.mk ?_ ?_) | (refine ed_eql ?_) | (refine ed_neq ?_) | (refine drawn tysOk mixed (by kernel_rfl) ?_) | fail))); all_goals (try (conv => whnf)))
      all_goals (try (exact ⟨fun h' hs' => ⟨hs'.grows, _, _, 0, false, [], [], rfl, .nil, .nil, ⟨fun e => (by cases e), fun ht => absurd ht (hlc (fun hl => by simp only [lcP, nd] at hl; omega))⟩, fun e => (by cases e)⟩⟩))
      all_goals
        have hbb : h.size ≤ b := hb
        have hini : Inv L n 1 [⟨0, (getI ndR.dflt L 0).c, (getI ndR.dflt L 0).f⟩] E (U.set (Int.toNat 0) (-1)) 1 (fun _ => 1) := by
          refine Inv.first (by omega) ?_ hE (by rw [List.length_set]; exact hU) ?_
          · simp only [lcP, nd]; omega
          · have := getI_set 0 U 0 0 (-1) (by omega) (by omega) (by omega)
            rw [if_pos rfl] at this
            exact this
        refine loop_rule tysOk [8] (fun x : Int × List Int => [(8, .osl 151 b x.1 c)]) (fun x => [(151, b, .arr 44 frR ([(⟨0, (getI ndR.dflt L 0).c, (getI ndR.dflt L 0).f⟩ : Fr)]) c), (15, b1, .arr 3 (intR .i64) x.2 len), (18, b2, .arr 3 (intR .i64) (U.set (Int.toNat 0) (-1)) len)]) (fun μ x => ∃ ys D, Inv L n (0 + 1) ys x.2 (U.set (Int.toNat 0) (-1)) (max 0 1) D ∧ ([(⟨0, (getI ndR.dflt L 0).c, (getI ndR.dflt L 0).f⟩ : Fr)]).take x.1.toNat = ys.reverse ∧ x.1 = ys.length ∧ μ = ys.length) (1 : Int).toNat (1, E) ?_
        conv => whnf
        refine ⟨by ((repeat (refine ⟨rfl, ?_⟩)); trivial), ⟨rfl, rfl, rfl, rfl, rfl, rfl, trivial⟩, ⟨_, _, hini, rfl, rfl, rfl⟩, ?_⟩
        rintro μ' ⟨m', E1⟩ ⟨yz, D2, hv2, q1, q2, q3⟩
        have hxl : ([(⟨0, (getI ndR.dflt L 0).c, (getI ndR.dflt L 0).f⟩ : Fr)]).length ≤ c := hbc
        dsimp only at hv2 q1 q2 q3 ⊢
        have hfin : (∀ z zt, yz = z :: zt → 0 < z.c) → OInv L n h ⟨some (b, c), ([(⟨0, (getI ndR.dflt L 0).c, (getI ndR.dflt L 0).f⟩ : Fr)]), m', E1, (U.set (Int.toNat 0) (-1)), (max 0 1), 0 + 1⟩ := fun hne => by
          refine ⟨fun e => (by cases e), fun b' c' e => ?_, hv2.elen, hv2.ulen, by dsimp only; omega, by dsimp only; omega⟩
          cases e
          exact ⟨hbb, by dsimp only; omega, yz, D2, hv2, q1, q2, hne⟩
        rcases yz with _ | ⟨z, zt⟩
        · have q2 : m' = 0 := by simpa using q2
          subst q2
          ((repeat' ((conv => whnf); (first | (refine Ar.fit (by omega) ?_) | (refine VC.mk (by (first | omega | rfl | assumption | exact Sl.plain (by assumption) (by omega) | (and_intros <;> first | omega | rfl | assumption | (simp only [List.length_set]; omega) | (simp only [ByteArray.size_extract, ByteArray.size_append]; omega) | (simp only [List.length_cons, List.length_nil]; omega) | (simp only [Int.toNat_natCast, Int.toNat_one, List.length_take, List.length_cons, List.length_nil] at *; omega)))) ?_) | (refine Br.mk ?_ ?_ <;> intro hb <;> (try (first | (exfalso; omega) | exact absurd rfl hb | exact Bool.noConfusion hb | exact absurd (fun e => Bool.noConfusion e) hb | (exfalso; simp only [List.length_cons, List.length_nil] at hb; omega) | (exfalso; simp only [Int.toNat_natCast, Int.toNat_one, List.length_take, List.length_cons, List.length_nil] at hb; omega)))) | (refine XLoad.of (by assumption) rfl rfl (by omega) (by omega) rfl ?_) | (refine New.mk ?_; intro b hb) | (refine New2.mk ?_; intro b c hb hbc) | (refine SameR.same ?_) | (refine Two.mk ?_ ?_) | (refine ed_eql ?_) | (refine ed_neq ?_) | (refine drawn tysOk mixed (by kernel_rfl) ?_) | fail))); all_goals (try (conv => whnf)))
          refine ⟨μ - 1, ⟨some (b, c), ([(⟨0, (getI ndR.dflt L 0).c, (getI ndR.dflt L 0).f⟩ : Fr)]), 0, E1, (U.set (Int.toNat 0) (-1)), (max 0 1), 0 + 1⟩, ⟨hfin (fun z zt e => by cases e), by dsimp only; omega⟩, by omega, by ((repeat (refine ⟨rfl, ?_⟩)); trivial), rfl, rfl, ⟨rfl, rfl, rfl, rfl, rfl, rfl, trivial⟩⟩
        · obtain ⟨g1, g2, g3, g4, g5⟩ := top_get (d := frR.dflt) q1 q2
          have g1c : (getI frR.dflt ([(⟨0, (getI ndR.dflt L 0).c, (getI ndR.dflt L 0).f⟩ : Fr)]) (m' - 1)).c = z.c := by rw [g1]
          have g1p : (getI frR.dflt ([(⟨0, (getI ndR.dflt L 0).c, (getI ndR.dflt L 0).f⟩ : Fr)]) (m' - 1)).p = z.p := by rw [g1]
          obtain ⟨l1, l2, l3, l4, l5, l6, l7, l8⟩ := hv2.sk
          have hel := hv2.elen
          have hzb := (SK.bound hv2.sk).2
          by_cases hzc : z.c = 0
          · ((repeat' ((conv => whnf); (first | (refine Ar.fit (by omega) ?_) | (refine VC.mk (by (first | omega | rfl | assumption | exact Sl.plain (by assumption) (by omega) | (and_intros <;> first | omega | rfl | assumption | (simp only [List.length_set]; omega) | (simp only [ByteArray.size_extract, ByteArray.size_append]; omega) | (simp only [List.length_cons, List.length_nil]; omega) | (simp only [Int.toNat_natCast, Int.toNat_one, List.length_take, List.length_cons, List.length_nil] at *; omega)))) ?_) | (refine Br.mk ?_ ?_ <;> intro hb <;> (try (first | (exfalso; omega) | exact absurd rfl hb | exact Bool.noConfusion hb | exact absurd (fun e => Bool.noConfusion e) hb | (exfalso; simp only [List.length_cons, List.length_nil] at hb; omega) | (exfalso; simp only [Int.toNat_natCast, Int.toNat_one, List.length_take, List.length_cons, List.length_nil] at hb; omega)))) | (refine XLoad.of (by assumption) rfl rfl (by omega) (by omega) rfl ?_) | (refine New.mk ?_; intro b hb) | (refine New2.mk ?_; intro b c hb hbc) | (refine SameR.same ?_) | (refine Two.mk ?_ ?_) | (refine ed_eql ?_) | (refine ed_neq ?_) | (refine drawn tysOk mixed (by kernel_rfl) ?_) | fail))); all_goals (try (conv => whnf)))
            refine ⟨zt.length, ⟨m' - 1, E1.set (getI frR.dflt ([(⟨0, (getI ndR.dflt L 0).c, (getI ndR.dflt L 0).f⟩ : Fr)]) (m' - 1)).p.toNat (0 + 1)⟩, ⟨zt, D2, hv2.pop hzc (by rw [g1p]), g4, g5, rfl⟩, by rw [q3, List.length_cons]; omega, by ((repeat (refine ⟨rfl, ?_⟩)); trivial), rfl, rfl, ⟨rfl, rfl, rfl, rfl, rfl, rfl, trivial⟩⟩
          · ((repeat' ((conv => whnf); (first | (refine Ar.fit (by omega) ?_) | (refine VC.mk (by (first | omega | rfl | assumption | exact Sl.plain (by assumption) (by omega) | (and_intros <;> first | omega | rfl | assumption | (simp only [List.length_set]; omega) | (simp only [ByteArray.size_extract, ByteArray.size_append]; omega) | (simp only [List.length_cons, List.length_nil]; omega) | (simp only [Int.toNat_natCast, Int.toNat_one, List.length_take, List.length_cons, List.length_nil] at *; omega)))) ?_) | (refine Br.mk ?_ ?_ <;> intro hb <;> (try (first | (exfalso; omega) | exact absurd rfl hb | exact Bool.noConfusion hb | exact absurd (fun e => Bool.noConfusion e) hb | (exfalso; simp only [List.length_cons, List.length_nil] at hb; omega) | (exfalso; simp only [Int.toNat_natCast, Int.toNat_one, List.length_take, List.length_cons, List.length_nil] at hb; omega)))) | (refine XLoad.of (by assumption) rfl rfl (by omega) (by omega) rfl ?_) | (refine New.mk ?_; intro b hb) | (refine New2.mk ?_; intro b c hb hbc) | (refine SameR.same ?_) | (refine Two.mk ?_ ?_) | (refine ed_eql ?_) | (refine ed_neq ?_) | (refine drawn tysOk mixed (by kernel_rfl) ?_) | fail))); all_goals (try (conv => whnf)))
            refine ⟨μ - 1, ⟨some (b, c), ([(⟨0, (getI ndR.dflt L 0).c, (getI ndR.dflt L 0).f⟩ : Fr)]), m', E1, (U.set (Int.toNat 0) (-1)), (max 0 1), 0 + 1⟩, ⟨hfin (fun z' zt' e => by cases e; omega), by dsimp only; omega⟩, by omega, by ((repeat (refine ⟨rfl, ?_⟩)); trivial), rfl, rfl, ⟨rfl, rfl, rfl, rfl, rfl, rfl, trivial⟩⟩
    · obtain ⟨hb0, hi1, ys, D, hv, h1, h2, h3⟩ := harr b0 c0 rfl
      clear hnil harr
      dsimp only [slK, slC, List.cons_append, List.nil_append]
      rcases ys with _ | ⟨y, st⟩
      · have h2 : m = 0 := by simpa using h2
        subst h2
        have hno := hv.none (by omega)
        ((repeat' ((conv => whnf); (first | (refine Ar.fit (by omega) ?_) | (refine VC.mk (by (first | omega | rfl | assumption | exact Sl.plain (by assumption) (by omega) | (and_intros <;> first | omega | rfl | assumption | (simp only [List.length_set]; omega) | (simp only [ByteArray.size_extract, ByteArray.size_append]; omega) | (simp only [List.length_cons, List.length_nil]; omega) | (simp only [Int.toNat_natCast, Int.toNat_one, List.length_take, List.length_cons, List.length_nil] at *; omega)))) ?_) | (refine Br.mk ?_ ?_ <;> intro hb <;> (try (first | (exfalso; omega) | exact absurd rfl hb | exact Bool.noConfusion hb | exact absurd (fun e => Bool.noConfusion e) hb | (exfalso; simp only [List.length_cons, List.length_nil] at hb; omega) | (exfalso; simp only [Int.toNat_natCast, Int.toNat_one, List.length_take, List.length_cons, List.length_nil] at hb; omega)))) | (refine XLoad.of (by assumption) rfl rfl (by omega) (by omega) rfl ?_) | (refine New.mk ?_; intro b hb) | (refine New2.mk ?_; intro b c hb hbc) | (refine SameR.same ?_) | (refine Two.mk ?_ ?_) | (refine ed_eql ?_) | (refine ed_neq ?_) | (refine drawn tysOk mixed (by kernel_rfl) ?_) | fail))); all_goals (try (conv => whnf)))
        all_goals exact ⟨fun h' hs' => ⟨hs'.grows, _, _, 0, false, [], [], rfl, .nil, .nil, ⟨fun e => (by cases e), fun ht => absurd ht hno⟩, fun e => (by cases e)⟩⟩
      · obtain ⟨e1, e2, e3, e4, e5⟩ := top_get (d := frR.dflt) h1 h2
        have e1c : (getI frR.dflt xs (m - 1)).c = y.c := by rw [e1]
        have e1p : (getI frR.dflt xs (m - 1)).p = y.p := by rw [e1]
        have e1d : (getI frR.dflt xs (m - 1)).d = y.d := by rw [e1]
        obtain ⟨k1, k2, k3, k4, k5, k6, k7, k8⟩ := hv.sk
        have hsb := (SK.bound hv.sk).2
        have hyc := h3 y st rfl
        have hyc2 := Kd.pos k7
        have hpc : ¬ pcP L y.p i y.d → ¬ TreeP L n := fun hp => hv.not hyc (fun hh => hp hh.1)
        simp only [pcP, nd] at hpc
        rw [← e1p, ← e1d] at hpc
        ((repeat' ((conv => whnf); (first | (refine Ar.fit (by omega) ?_) | (refine VC.mk (by (first | omega | rfl | assumption | exact Sl.plain (by assumption) (by omega) | (and_intros <;> first | omega | rfl | assumption | (simp only [List.length_set]; omega) | (simp only [ByteArray.size_extract, ByteArray.size_append]; omega) | (simp only [List.length_cons, List.length_nil]; omega) | (simp only [Int.toNat_natCast, Int.toNat_one, List.length_take, List.length_cons, List.length_nil] at *; omega)))) ?_) | (refine Br.mk ?_ ?_ <;> intro hb <;> (try (first | (exfalso; omega) | exact absurd rfl hb | exact Bool.noConfusion hb | exact absurd (fun e => Bool.noConfusion e) hb | (exfalso; simp only [List.length_cons, List.length_nil] at hb; omega) | (exfalso; simp only [Int.toNat_natCast, Int.toNat_one, List.length_take, List.length_cons, List.length_nil] at hb; omega)))) | (refine XLoad.of (by assumption) rfl rfl (by omega) (by omega) rfl ?_) | (refine New.mk ?_; intro b hb) | (refine New2.mk ?_; intro b c hb hbc) | (refine SameR.same ?_) | (refine Two.mk ?_ ?_) | (refine ed_eql ?_) | (refine ed_neq ?_) | (refine drawn tysOk mixed (by kernel_rfl) ?_) | fail))); all_goals (try (conv => whnf)))
        all_goals (try (exact ⟨fun h' hs' => ⟨hs'.grows, _, _, 0, false, [], [], rfl, .nil, .nil, ⟨fun e => (by cases e), fun ht => absurd ht (hlc (fun hl => by simp only [lcP, nd] at hl; omega))⟩, fun e => (by cases e)⟩⟩))
        all_goals (try (exact ⟨fun h' hs' => ⟨hs'.grows, _, _, 0, false, [], [], rfl, .nil, .nil, ⟨fun e => (by cases e), fun ht => absurd ht (hpc (fun hl => by omega))⟩, fun e => (by cases e)⟩⟩))
        all_goals
          have hbb : h.size ≤ b := hb
          have hbc' : m.toNat + 1 ≤ c := hbc
          have hgs := getI_set frR.dflt xs (m - 1) (m - 1) ⟨(getI frR.dflt xs (m - 1)).p, (getI frR.dflt xs (m - 1)).c - 1, (getI frR.dflt xs (m - 1)).d⟩ (by omega) (by omega) (by omega)
          rw [if_pos rfl] at hgs
          have hXS : List.take m.toNat ((xs.set (m - 1).toNat ⟨(getI frR.dflt xs (m - 1)).p, (getI frR.dflt xs (m - 1)).c - 1, (getI frR.dflt xs (m - 1)).d⟩).set (m - 1).toNat ⟨(getI frR.dflt (xs.set (m - 1).toNat ⟨(getI frR.dflt xs (m - 1)).p, (getI frR.dflt xs (m - 1)).c - 1, (getI frR.dflt xs (m - 1)).d⟩) (m - 1)).p, (getI frR.dflt (xs.set (m - 1).toNat ⟨(getI frR.dflt xs (m - 1)).p, (getI frR.dflt xs (m - 1)).c - 1, (getI frR.dflt xs (m - 1)).d⟩) (m - 1)).c, (getI ndR.dflt L i).t⟩) ++ [(⟨i, (getI ndR.dflt L i).c, (getI ndR.dflt L i).f⟩ : Fr)] = ((⟨i, (getI ndR.dflt L i).c, (getI ndR.dflt L i).f⟩ : Fr) :: ⟨y.p, y.c - 1, (getI ndR.dflt L i).t⟩ :: st).reverse := by
            rw [hgs, List.set_set, top_set h1 h2, e1p, e1c, List.reverse_cons, List.reverse_cons, List.reverse_cons]
          have hini := hv.push (by omega) hi1 hyc (by simp only [pcP, nd]; rw [← e1p, ← e1d]; omega) (by simp only [lcP, nd]; omega) (U' := (U.set i.toNat (-1)).set i.toNat (getI frR.dflt xs (m - 1)).p) (by rw [List.set_set, e1p])
          rw [show (st.length : Int) + 2 = m + 1 by omega] at hini
          refine loop_rule tysOk [8] (fun x : Int × List Int => [(8, .osl 151 b x.1 c)]) (fun x => [(151, b, .arr 44 frR (((⟨i, (getI ndR.dflt L i).c, (getI ndR.dflt L i).f⟩ : Fr) :: ⟨y.p, y.c - 1, (getI ndR.dflt L i).t⟩ :: st).reverse) c), (15, b1, .arr 3 (intR .i64) x.2 len), (18, b2, .arr 3 (intR .i64) ((U.set i.toNat (-1)).set i.toNat (getI frR.dflt xs (m - 1)).p) len)]) (fun μ x => ∃ ys D, Inv L n (i + 1) ys x.2 ((U.set i.toNat (-1)).set i.toNat (getI frR.dflt xs (m - 1)).p) (max deep (m + 1)) D ∧ (((⟨i, (getI ndR.dflt L i).c, (getI ndR.dflt L i).f⟩ : Fr) :: ⟨y.p, y.c - 1, (getI ndR.dflt L i).t⟩ :: st).reverse).take x.1.toNat = ys.reverse ∧ x.1 = ys.length ∧ μ = ys.length) (m + 1 : Int).toNat (m + 1, E) ?_
          conv => whnf
          refine ⟨by ((repeat (refine ⟨rfl, ?_⟩)); trivial), ⟨by rw [← hXS]; rfl, rfl, rfl, rfl, rfl, rfl, trivial⟩, ⟨_, _, hini, List.take_of_length_le (by simp; omega), by simp; omega, by simp; omega⟩, ?_⟩
          rintro μ' ⟨m', E1⟩ ⟨yz, D2, hv2, q1, q2, q3⟩
          have hxl : (((⟨i, (getI ndR.dflt L i).c, (getI ndR.dflt L i).f⟩ : Fr) :: ⟨y.p, y.c - 1, (getI ndR.dflt L i).t⟩ :: st).reverse).length ≤ c := by simp; omega
          dsimp only at hv2 q1 q2 q3 ⊢
          have hfin : (∀ z zt, yz = z :: zt → 0 < z.c) → OInv L n h ⟨some (b, c), (((⟨i, (getI ndR.dflt L i).c, (getI ndR.dflt L i).f⟩ : Fr) :: ⟨y.p, y.c - 1, (getI ndR.dflt L i).t⟩ :: st).reverse), m', E1, ((U.set i.toNat (-1)).set i.toNat (getI frR.dflt xs (m - 1)).p), (max deep (m + 1)), i + 1⟩ := fun hne => by
            refine ⟨fun e => (by cases e), fun b' c' e => ?_, hv2.elen, hv2.ulen, by dsimp only; omega, by dsimp only; omega⟩
            cases e
            exact ⟨hbb, by dsimp only; omega, yz, D2, hv2, q1, q2, hne⟩
          rcases yz with _ | ⟨z, zt⟩
          · have q2 : m' = 0 := by simpa using q2
            subst q2
            ((repeat' ((conv => whnf); (first | (refine Ar.fit (by omega) ?_) | (refine VC.mk (by (first | omega | rfl | assumption | exact Sl.plain (by assumption) (by omega) | (and_intros <;> first | omega | rfl | assumption | (simp only [List.length_set]; omega) | (simp only [ByteArray.size_extract, ByteArray.size_append]; omega) | (simp only [List.length_cons, List.length_nil]; omega) | (simp only [Int.toNat_natCast, Int.toNat_one, List.length_take, List.length_cons, List.length_nil] at *; omega)))) ?_) | (refine Br.mk ?_ ?_ <;> intro hb <;> (try (first | (exfalso; omega) | exact absurd rfl hb | exact Bool.noConfusion hb | exact absurd (fun e => Bool.noConfusion e) hb | (exfalso; simp only [List.length_cons, List.length_nil] at hb; omega) | (exfalso; simp only [Int.toNat_natCast, Int.toNat_one, List.length_take, List.length_cons, List.length_nil] at hb; omega)))) | (refine XLoad.of (by assumption) rfl rfl (by omega) (by omega) rfl ?_) | (refine New.mk ?_; intro b hb) | (refine New2.mk ?_; intro b c hb hbc) | (refine SameR.same ?_) | (refine Two.mk ?_ ?_) | (refine ed_eql ?_) | (refine ed_neq ?_) | (refine drawn tysOk mixed (by kernel_rfl) ?_) | fail))); all_goals (try (conv => whnf)))
            refine ⟨μ - 1, ⟨some (b, c), (((⟨i, (getI ndR.dflt L i).c, (getI ndR.dflt L i).f⟩ : Fr) :: ⟨y.p, y.c - 1, (getI ndR.dflt L i).t⟩ :: st).reverse), 0, E1, ((U.set i.toNat (-1)).set i.toNat (getI frR.dflt xs (m - 1)).p), (max deep (m + 1)), i + 1⟩, ⟨hfin (fun z zt e => by cases e), by dsimp only; omega⟩, by omega, by ((repeat (refine ⟨rfl, ?_⟩)); trivial), rfl, rfl, ⟨rfl, rfl, rfl, rfl, rfl, rfl, trivial⟩⟩
          · obtain ⟨g1, g2, g3, g4, g5⟩ := top_get (d := frR.dflt) q1 q2
            have g1c : (getI frR.dflt (((⟨i, (getI ndR.dflt L i).c, (getI ndR.dflt L i).f⟩ : Fr) :: ⟨y.p, y.c - 1, (getI ndR.dflt L i).t⟩ :: st).reverse) (m' - 1)).c = z.c := by rw [g1]
            have g1p : (getI frR.dflt (((⟨i, (getI ndR.dflt L i).c, (getI ndR.dflt L i).f⟩ : Fr) :: ⟨y.p, y.c - 1, (getI ndR.dflt L i).t⟩ :: st).reverse) (m' - 1)).p = z.p := by rw [g1]
            obtain ⟨l1, l2, l3, l4, l5, l6, l7, l8⟩ := hv2.sk
            have hel := hv2.elen
            have hzb := (SK.bound hv2.sk).2
            by_cases hzc : z.c = 0
            · ((repeat' ((conv => whnf); (first | (refine Ar.fit (by omega) ?_) | (refine VC.mk (by (first | omega | rfl | assumption | exact Sl.plain (by assumption) (by omega) | (and_intros <;> first | omega | rfl | assumption | (simp only [List.length_set]; omega) | (simp only [ByteArray.size_extract, ByteArray.size_append]; omega) | (simp only [List.length_cons, List.length_nil]; omega) | (simp only [Int.toNat_natCast, Int.toNat_one, List.length_take, List.length_cons, List.length_nil] at *; omega)))) ?_) | (refine Br.mk ?_ ?_ <;> intro hb <;> (try (first | (exfalso; omega) | exact absurd rfl hb | exact Bool.noConfusion hb | exact absurd (fun e => Bool.noConfusion e) hb | (exfalso; simp only [List.length_cons, List.length_nil] at hb; omega) | (exfalso; simp only [Int.toNat_natCast, Int.toNat_one, List.length_take, List.length_cons, List.length_nil] at hb; omega)))) | (refine XLoad.of (by assumption) rfl rfl (by omega) (by omega) rfl ?_) | (refine New.mk ?_; intro b hb) | (refine New2.mk ?_; intro b c hb hbc) | (refine SameR.same ?_) | (refine Two.mk ?_ ?_) | (refine ed_eql ?_) | (refine ed_neq ?_) | (refine drawn tysOk mixed (by kernel_rfl) ?_) | fail))); all_goals (try (conv => whnf)))
              refine ⟨zt.length, ⟨m' - 1, E1.set (getI frR.dflt (((⟨i, (getI ndR.dflt L i).c, (getI ndR.dflt L i).f⟩ : Fr) :: ⟨y.p, y.c - 1, (getI ndR.dflt L i).t⟩ :: st).reverse) (m' - 1)).p.toNat (i + 1)⟩, ⟨zt, D2, hv2.pop hzc (by rw [g1p]), g4, g5, rfl⟩, by rw [q3, List.length_cons]; omega, by ((repeat (refine ⟨rfl, ?_⟩)); trivial), rfl, rfl, ⟨rfl, rfl, rfl, rfl, rfl, rfl, trivial⟩⟩
            · ((repeat' ((conv => whnf); (first | (refine Ar.fit (by omega) ?_) | (refine VC.mk (by (first | omega | rfl | assumption | exact Sl.plain (by assumption) (by omega) | (and_intros <;> first | omega | rfl | assumption | (simp only [List.length_set]; omega) | (simp only [ByteArray.size_extract, ByteArray.size_append]; omega) | (simp only [List.length_cons, List.length_nil]; omega) | (simp only [Int.toNat_natCast, Int.toNat_one, List.length_take, List.length_cons, List.length_nil] at *; omega)))) ?_) | (refine Br.mk ?_ ?_ <;> intro hb <;> (try (first | (exfalso; omega) | exact absurd rfl hb | exact Bool.noConfusion hb | exact absurd (fun e => Bool.noConfusion e) hb | (exfalso; simp only [List.length_cons, List.length_nil] at hb; omega) | (exfalso; simp only [Int.toNat_natCast, Int.toNat_one, List.length_take, List.length_cons, List.length_nil] at hb; omega)))) | (refine XLoad.of (by assumption) rfl rfl (by omega) (by omega) rfl ?_) | (refine New.mk ?_; intro b hb) | (refine New2.mk ?_; intro b c hb hbc) | (refine SameR.same ?_) | (refine Two.mk ?_ ?_) | (refine ed_eql ?_) | (refine ed_neq ?_) | (refine drawn tysOk mixed (by kernel_rfl) ?_) | fail))); all_goals (try (conv => whnf)))
              refine ⟨μ - 1, ⟨some (b, c), (((⟨i, (getI ndR.dflt L i).c, (getI ndR.dflt L i).f⟩ : Fr) :: ⟨y.p, y.c - 1, (getI ndR.dflt L i).t⟩ :: st).reverse), m', E1, ((U.set i.toNat (-1)).set i.toNat (getI frR.dflt xs (m - 1)).p), (max deep (m + 1)), i + 1⟩, ⟨hfin (fun z' zt' e => by cases e; omega), by dsimp only; omega⟩, by omega, by ((repeat (refine ⟨rfl, ?_⟩)); trivial), rfl, rfl, ⟨rfl, rfl, rfl, rfl, rfl, rfl, trivial⟩⟩
  · have hil : i = len := by omega
    rcases o with _ | ⟨b0, c0⟩
    · obtain ⟨rfl, rfl, rfl, rfl⟩ := hnil rfl
      dsimp only [slK, slC, List.nil_append]
      ((repeat' ((conv => whnf); (first | (refine Ar.fit (by omega) ?_) | (refine VC.mk (by (first | omega | rfl | assumption | exact Sl.plain (by assumption) (by omega) | (and_intros <;> first | omega | rfl | assumption | (simp only [List.length_set]; omega) | (simp only [ByteArray.size_extract, ByteArray.size_append]; omega) | (simp only [List.length_cons, List.length_nil]; omega) | (simp only [Int.toNat_natCast, Int.toNat_one, List.length_take, List.length_cons, List.length_nil] at *; omega)))) ?_) | (refine Br.mk ?_ ?_ <;> intro hb <;> (try (first | (exfalso; omega) | exact absurd rfl hb | exact Bool.noConfusion hb | exact absurd (fun e => Bool.noConfusion e) hb | (exfalso; simp only [List.length_cons, List.length_nil] at hb; omega) | (exfalso; simp only [Int.toNat_natCast, Int.toNat_one, List.length_take, List.length_cons, List.length_nil] at hb; omega)))) | (refine XLoad.of (by assumption) rfl rfl (by omega) (by omega) rfl ?_) | (refine New.mk ?_; intro b hb) | (refine New2.mk ?_; intro b c hb hbc) | (refine SameR.same ?_) | (refine Two.mk ?_ ?_) | (refine ed_eql ?_) | (refine ed_neq ?_) | (refine drawn tysOk mixed (by kernel_rfl) ?_) | fail))); all_goals (try (conv => whnf)))
      exact ⟨fun h' hs' => ⟨hs'.grows, _, _, _, false, E, U, rfl, hs'.own (k := 15) rfl (by omega), hs'.own (k := 18) rfl (by omega), ⟨fun e => (by cases e), fun ht => absurd ht.1 (by omega)⟩, fun e => (by cases e)⟩⟩
    · obtain ⟨hb0, hi1, ys, D, hv, h1, h2, h3⟩ := harr b0 c0 rfl
      dsimp only [slK, slC, List.cons_append, List.nil_append]
      ((repeat' ((conv => whnf); (first | (refine Ar.fit (by omega) ?_) | (refine VC.mk (by (first | omega | rfl | assumption | exact Sl.plain (by assumption) (by omega) | (and_intros <;> first | omega | rfl | assumption | (simp only [List.length_set]; omega) | (simp only [ByteArray.size_extract, ByteArray.size_append]; omega) | (simp only [List.length_cons, List.length_nil]; omega) | (simp only [Int.toNat_natCast, Int.toNat_one, List.length_take, List.length_cons, List.length_nil] at *; omega)))) ?_) | (refine Br.mk ?_ ?_ <;> intro hb <;> (try (first | (exfalso; omega) | exact absurd rfl hb | exact Bool.noConfusion hb | exact absurd (fun e => Bool.noConfusion e) hb | (exfalso; simp only [List.length_cons, List.length_nil] at hb; omega) | (exfalso; simp only [Int.toNat_natCast, Int.toNat_one, List.length_take, List.length_cons, List.length_nil] at hb; omega)))) | (refine XLoad.of (by assumption) rfl rfl (by omega) (by omega) rfl ?_) | (refine New.mk ?_; intro b hb) | (refine New2.mk ?_; intro b c hb hbc) | (refine SameR.same ?_) | (refine Two.mk ?_ ?_) | (refine ed_eql ?_) | (refine ed_neq ?_) | (refine drawn tysOk mixed (by kernel_rfl) ?_) | fail))); all_goals (try (conv => whnf)))
      rcases ys with _ | ⟨y, st⟩
      · have hm : m = 0 := by simpa using h2
        obtain ⟨g1, g2, g3, g4⟩ := hv.done (by omega)
        exact ⟨fun h' hs' => ⟨hs'.grows, _, _, _, true, E, U, tup4_eq rfl rfl rfl (prop_true hm), hs'.own (k := 15) rfl (by omega), hs'.own (k := 18) rfl (by omega), ⟨fun _ => g1, fun _ => rfl⟩, fun _ => ⟨g2, g3, D, g4⟩⟩⟩
      · have hm : ¬ m = 0 := by rw [List.length_cons] at h2; omega
        have hno := hv.not (h3 y st rfl) (fun hh => by omega)
        exact ⟨fun h' hs' => ⟨hs'.grows, _, _, _, false, E, U, tup4_eq rfl rfl rfl (by simp [den1, denC, hm]), hs'.own (k := 15) rfl (by omega), hs'.own (k := 18) rfl (by omega), ⟨fun e => (by cases e), fun ht => absurd ht hno⟩, fun e => (by cases e)⟩⟩
end Go.Ex
