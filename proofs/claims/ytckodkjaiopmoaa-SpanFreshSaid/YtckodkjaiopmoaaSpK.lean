/-
  Span: Apply.
-/
import Derived.Test.YtckodkjaiopmoaaSpJ
namespace Go.Ex
open Go.Proofs
set_option linter.unusedVariables false

def restGo (s : ByteArray) : List Ed → Int → List Int
  | [], d => (byl s).drop d.toNat
  | x :: r, d => ((byl s).take x.f.toNat).drop d.toNat ++ byl x.s ++ restGo s r x.t
theorem fit_len (s : ByteArray) : ∀ (L : List Ed) (e n N : Int), chkGo s.size L e = 0 → 0 ≤ e → e ≤ s.size → fitGo s.size L n = some N → N = n + ((backF s L).size - s.size)
  | [], e, n, N, _, _, _, h => by
    simp only [fitGo] at h
    split at h
    · cases h
    · cases h; simp [backF]
  | x :: r, e, n, N, h, he, hes, hf => by
    simp only [chkGo] at h
    simp only [fitGo] at hf
    split at h
    · omega
    split at hf
    · cases hf
    rename_i hc _
    have ih := fit_len s r x.t _ N h (by omega) (by omega) hf
    have hlo := back_lo s r x.t h (by omega) (by omega)
    have e1 : backF s (x :: r) = step x (backF s r) := rfl
    rw [e1]
    simp only [step, ByteArray.size_append, ByteArray.size_extract]
    omega
theorem rest_ok (s : ByteArray) : ∀ (L : List Ed) (d : Int), chkGo s.size L d = 0 → 0 ≤ d → d ≤ s.size → (byl (backF s L)).drop d.toNat = restGo s L d ∧ (byl (backF s L)).take d.toNat = (byl s).take d.toNat
  | [], d, _, _, _ => ⟨rfl, rfl⟩
  | x :: r, d, h, hd, hds => by
    simp only [chkGo] at h
    split at h
    · omega
    rename_i hc
    obtain ⟨i1, i2⟩ := rest_ok s r x.t h (by omega) (by omega)
    have hlo := back_lo s r x.t h (by omega) (by omega)
    have e1 : backF s (x :: r) = step x (backF s r) := rfl
    have e2 : (byl (backF s r)).take x.f.toNat = (byl s).take x.f.toNat := by
      have := congrArg (List.take x.f.toNat) i2
      rw [List.take_take, List.take_take, Nat.min_eq_left (by omega)] at this
      exact this
    have e3 : byl (step x (backF s r)) = (byl s).take x.f.toNat ++ byl x.s ++ restGo s r x.t := by
      simp only [step, byl_append, byl_extract, List.drop_zero]
      rw [e2, ← i1, List.take_of_length_le (l := byl (backF s r)) (by rw [byl_len]; exact Nat.le_refl _)]
    have hl : d.toNat ≤ ((byl s).take x.f.toNat).length := by rw [List.length_take, byl_len]; omega
    rw [e1, e3]
    constructor
    · rw [List.append_assoc, List.drop_append_of_le_length hl, ← List.append_assoc]; rfl
    · rw [List.append_assoc, List.take_append_of_le_length hl, List.take_take, Nat.min_eq_left (by omega)]
/-- a piece is put behind what is there -/
theorem spl_put (pre ys : List Int) (N : Nat) (h : pre.length + ys.length ≤ N) : spl (pre ++ List.replicate (N - pre.length) 0) pre.length ys = (pre ++ ys) ++ List.replicate (N - (pre ++ ys).length) 0 := by
  simp only [spl]
  rw [List.take_left, List.drop_append, List.drop_of_length_le (by omega), List.drop_replicate, List.length_append]
  simp only [List.nil_append]
  congr 2
  omega
theorem put_step {xs pre : List Int} {p : ByteArray} {N a : Int} (h1 : xs = pre ++ List.replicate (N.toNat - pre.length) 0) (h2 : a = pre.length) (h3 : (pre.length : Int) + p.size ≤ N) :
    spl xs a.toNat ((byl p).take (N - a).toNat) = (pre ++ byl p) ++ List.replicate (N.toNat - (pre ++ byl p).length) 0 ∧ ((spl xs a.toNat ((byl p).take (N - a).toNat)).length : Int) = N ∧ a + min (p.size : Int) (N - a) = (pre ++ byl p).length := by
  have e : spl xs a.toNat ((byl p).take (N - a).toNat) = (pre ++ byl p) ++ List.replicate (N.toNat - (pre ++ byl p).length) 0 := by
    rw [h1, h2, List.take_of_length_le (by rw [byl_len]; omega)]
    exact spl_put pre (byl p) N.toNat (by rw [byl_len]; omega)
  refine ⟨e, ?_, ?_⟩
  · rw [e]; simp only [List.length_append, List.length_replicate, byl_len]; omega
  · simp only [List.length_append, byl_len]; omega
theorem bstr_byl (s : ByteArray) : bstr (byl s) = s := by
  have key : ∀ (l : List UInt8) (r : ByteArray), (l.map fun b => (b.toNat : Int)).foldl (fun r n => r.push (UInt8.ofNat n.toNat)) r = ⟨r.data ++ l.toArray⟩ := by
    intro l
    induction l with
    | nil => intro r; simp
    | cons c l ih => intro r; simp only [List.map_cons, List.foldl_cons]; rw [ih]; simp [ByteArray.push]
  have := key s.data.toList ByteArray.empty
  simp only [bstr, byl, this]
  exact ByteArray.ext (by simp)
noncomputable def appT (s : ByteArray) (L : List Ed) : ByteArray := if fitE s L = 0 then backF s L else ⟨#[]⟩
theorem fit_cap (z : Int) : ∀ (L : List Ed) (n N : Int), fitGo z L n = some N → N ≤ 65536
  | [], n, N, h => by
    simp only [fitGo] at h
    split at h
    · cases h
    · cases h; omega
  | x :: r, n, N, h => by
    simp only [fitGo] at h
    split at h
    · cases h
    · exact fit_cap z r _ N h
theorem fitN_range (s : ByteArray) (L : List Ed) : 0 ≤ fitN s L ∧ fitN s L ≤ 65536 ∧ (fitE s L = 0 → fitN s L = (backF s L).size ∧ s.size ≤ 65536 ∧ chkGo s.size L 0 = 0) := by
  by_cases h1 : (65536 : Int) < s.size
  · have e : fitN s L = 0 := by rw [fitN, if_pos h1]
    refine ⟨by omega, by omega, fun h => ?_⟩
    obtain ⟨z1, _⟩ := fit_ok h
    omega
  · by_cases h2 : chk s.size L = 0
    · have hc := h2
      rw [chk_eq h1 (by omega)] at hc
      have e : fitN s L = (fitGo s.size L s.size).getD 0 := by rw [fitN, if_neg h1, if_pos h2]
      cases hf : fitGo s.size L s.size with
      | none =>
        have e2 : fitN s L = 0 := by rw [e, hf]; rfl
        refine ⟨by omega, by omega, fun h => ?_⟩
        obtain ⟨_, _, n, z3, _⟩ := fit_ok h
        rw [hf] at z3; cases z3
      | some N =>
        have e2 : fitN s L = N := by rw [e, hf]; rfl
        have h3 := fit_len s L 0 _ N hc (by omega) (by omega) hf
        have h4 := fit_cap _ L _ N hf
        exact ⟨by omega, by omega, fun _ => ⟨by omega, by omega, hc⟩⟩
    · have e : fitN s L = 0 := by rw [fitN, if_neg h1, if_neg h2]
      refine ⟨by omega, by omega, fun h => ?_⟩
      obtain ⟨_, z2, _⟩ := fit_ok h
      exact absurd (by rw [chk_eq h1 (by omega)]; exact z2) h2
set_option maxRecDepth 10000 in
theorem apply_any (s : ByteArray) (A : Option Addr) (len cap : Nat) (L : List Ed) (h : Heap) (hA : Sl edR h A len L) (hs : s.size ≤ 140737488355328) (hS : ∀ x ∈ L, x.s.size ≤ 140737488355328) :
    CallsH Try.prog 14 #[.string s, .slice A len cap] h fun v h' => v = .tuple #[.string (appT s L), .int .i64 (fitE s L)] ∧ Grows h h' := by
  refine enter (rep := rep) (m := 12) (ex := [13, 26, 27, 28]) (cu := []) tysOk Try.func14 rfl (by decide) (rs := [.tmp 4, .tmp 5]) rfl rfl [.val (.string s), .val (.slice A len cap)] rfl ?_
  have hlen := hA.small
  have hL := hA.len_eq
  obtain ⟨n0, n1, n2⟩ := fitN_range s L
  ((repeat' ((conv => whnf); (first | (refine Ar.fit (by omega) ?_) | (refine VC.mk (by (first | omega | rfl | assumption | exact Sl.plain (by assumption) (by omega) | (and_intros <;> first | omega | rfl | assumption | (simp only [List.length_set]; omega) | (simp only [ByteArray.size_extract, ByteArray.size_append]; omega) | (simp only [List.length_cons, List.length_nil]; omega) | (simp only [Int.toNat_natCast, Int.toNat_one, List.length_take, List.length_cons, List.length_nil] at *; omega)))) ?_) | (refine Br.mk ?_ ?_ <;> intro hb <;> (try (first | (exfalso; omega) | exact absurd rfl hb | exact Bool.noConfusion hb | exact absurd (fun e => Bool.noConfusion e) hb | (exfalso; simp only [List.length_cons, List.length_nil] at hb; omega) | (exfalso; simp only [Int.toNat_natCast, Int.toNat_one, List.length_take, List.length_cons, List.length_nil] at hb; omega)))) | (refine XLoad.of (by assumption) rfl rfl (by omega) (by omega) rfl ?_) | (refine New.mk ?_; intro b hb) | (refine New2.mk ?_; intro b c hb hbc) | (refine SameR.same ?_) | (refine Two.mk ?_ ?_) | (refine ed_eql ?_) | (refine ed_neq ?_) | (refine drawn tysOk mixed (by kernel_rfl) ?_) | (apply CallK.pure; (case hh => (intro h1 hs; exact fits_any _ _ _ _ _ _ (hA.grows hs.grows) (by assumption) hS))) | fail))); all_goals (try (conv => whnf)))
  · exact ⟨fun h' hs' => ⟨by rw [appT, if_neg hb]; rfl, hs'.grows⟩⟩
  rename_i hE b1 _ b2 _
  have hE : fitE s L = 0 := Classical.not_not.1 hE
  obtain ⟨n3, n4, n5⟩ := n2 hE
  have hT : appT s L = backF s L := by rw [appT, if_pos hE]
  rw [hT, hE]
  generalize fitN s L = N at *
  obtain ⟨r1, _⟩ := rest_ok s L 0 n5 (by omega) (by omega)
  generalize backF s L = T at *
  refine loop_rule tysOk [11, 28] (fun x : List Int × Int × Int × Int => [(11, .val (.int .i64 x.2.2.1)), (28, .val (.int .i64 x.2.2.2))]) (fun x => [(9, b, .box 3 [.val (.int .i64 x.2.1)]), (8, b2, .box 43 [.osl 24 b1 N N.toNat]), (24, b1, .arr 5 (intR .u8) x.1 N.toNat)])
    (fun μ x => 0 ≤ x.2.2.2 ∧ x.2.2.2 + μ = len ∧ (x.1.length : Int) = N ∧ (∃ pre : List Int, x.1 = pre ++ List.replicate (N.toNat - pre.length) 0 ∧ x.2.1 = pre.length ∧ pre ++ restGo s (L.drop x.2.2.2.toNat) x.2.2.1 = byl T) ∧ 0 ≤ x.2.2.1 ∧ x.2.2.1 ≤ s.size ∧ chkGo s.size (L.drop x.2.2.2.toNat) x.2.2.1 = 0) len ⟨List.replicate N.toNat 0, 0, 0, 0⟩ ?_
  conv => whnf
  refine ⟨?_, ⟨rfl, rfl, rfl, rfl, rfl, rfl, trivial⟩, ⟨by simp, by simp, by simp; omega, ⟨[], by simp, by simp, by simpa using r1.symm⟩, by simp, by simp, by simpa using n5⟩, ?_⟩
  · ((repeat (refine ⟨rfl, ?_⟩)); trivial)
  rintro μ ⟨xs, a, d, i⟩ ⟨h0, h1, h2, ⟨pre, h3, h4, h5⟩, h6, h7, h8⟩
  dsimp only at h0 h1 h2 h3 h4 h5 h6 h7 h8 ⊢
  have h9 := congrArg List.length h5
  rw [List.length_append, byl_len] at h9
  by_cases hi : i < len
  · have hx := hS (getI edR.dflt L i) (getI_mem _ _ _ h0 (by omega))
    rw [drop_get edR.dflt L i h0 (by omega)] at h5 h8 h9
    simp only [restGo, List.length_append, byl_len] at h5 h9
    simp only [chkGo] at h8
    have hne : ¬ ((getI edR.dflt L i).f < d ∨ (getI edR.dflt L i).t < (getI edR.dflt L i).f ∨ s.size < (getI edR.dflt L i).t) := by
      intro hh; rw [if_pos hh] at h8; omega
    rw [if_neg hne] at h8
    have hp : ((s.extract d.toNat (getI edR.dflt L i).f.toNat).size : Int) = (getI edR.dflt L i).f - d := by rw [ByteArray.size_extract]; omega
    have hq : (List.drop d.toNat (List.take (getI edR.dflt L i).f.toNat (byl s))).length = (s.extract d.toNat (getI edR.dflt L i).f.toNat).size := by rw [← byl_len, byl_extract]
    obtain ⟨k1, k2, k3⟩ := put_step (p := s.extract d.toNat (getI edR.dflt L i).f.toNat) h3 h4 (by omega)
    obtain ⟨k4, k5, k6⟩ := put_step (p := (getI edR.dflt L i).s) k1 k3 (by rw [List.length_append, byl_len]; omega)
    ((repeat' ((conv => whnf); (first | (refine drawnW tysOk mixed (.pull 4 [5, 6, 7] (.pull 1 [3, 5, 6, 7] (.pull 2 [3, 5, 6, 7] (.pull 3 [5, 6, 7] (.br 0 5 (.one 5 (.pull 6 [7] (.one 7 .done))) (.pull 0 [6, 7] (.pull 6 [7] (.one 7 .done)))))))) (by kernel_rfl) (by kernel_rfl) ?_) | (refine Ar.fit (by omega) ?_) | (refine VC.mk (by (first | omega | rfl | assumption | exact Sl.plain (by assumption) (by omega) | (and_intros <;> first | omega | rfl | assumption | (simp only [List.length_set]; omega) | (simp only [ByteArray.size_extract, ByteArray.size_append]; omega) | (simp only [List.length_cons, List.length_nil]; omega) | (simp only [Int.toNat_natCast, Int.toNat_one, List.length_take, List.length_cons, List.length_nil] at *; omega)))) ?_) | (refine Br.mk ?_ ?_ <;> intro hb <;> (try (first | (exfalso; omega) | exact absurd rfl hb | exact Bool.noConfusion hb | exact absurd (fun e => Bool.noConfusion e) hb | (exfalso; simp only [List.length_cons, List.length_nil] at hb; omega) | (exfalso; simp only [Int.toNat_natCast, Int.toNat_one, List.length_take, List.length_cons, List.length_nil] at hb; omega)))) | (refine XLoad.of (by assumption) rfl rfl (by omega) (by omega) rfl ?_) | (refine New.mk ?_; intro b hb) | (refine New2.mk ?_; intro b c hb hbc) | (refine SameR.same ?_) | (refine Two.mk ?_ ?_) | (refine ed_eql ?_) | (refine ed_neq ?_) | (refine drawn tysOk mixed (by kernel_rfl) ?_) | (refine CallK.inline (rep := rep) tysOk Try.func26 rfl (by decide) (rs := []) rfl 4 [] [] rfl rfl rfl ?_) | fail))); all_goals (try (conv => whnf)))
    all_goals
      refine ⟨μ - 1, ⟨spl (spl xs a.toNat ((byl (s.extract d.toNat (getI edR.dflt L i).f.toNat)).take (N - a).toNat)) (a + min ((s.extract d.toNat (getI edR.dflt L i).f.toNat).size : Int) (N - a)).toNat ((byl (getI edR.dflt L i).s).take (N - (a + min ((s.extract d.toNat (getI edR.dflt L i).f.toNat).size : Int) (N - a))).toNat), (a + min ((s.extract d.toNat (getI edR.dflt L i).f.toNat).size : Int) (N - a)) + min ((getI edR.dflt L i).s.size : Int) (N - (a + min ((s.extract d.toNat (getI edR.dflt L i).f.toNat).size : Int) (N - a))), (getI edR.dflt L i).t, i + 1⟩, ⟨by dsimp only; omega, by dsimp only; omega, k5, ⟨_, k4, k6, ?_⟩, by dsimp only; omega, by dsimp only; omega, h8⟩, by omega, by ((repeat (refine ⟨rfl, ?_⟩)); trivial), rfl, rfl, ⟨rfl, rfl, rfl, rfl, rfl, rfl, trivial⟩⟩
      rw [← h5, byl_extract]
      simp only [List.append_assoc]
  · rw [drop_all L i (by omega)] at h5 h9
    simp only [restGo, List.length_drop, byl_len] at h5 h9
    have hp : ((s.extract d.toNat s.size).size : Int) = s.size - d := by rw [ByteArray.size_extract]; omega
    obtain ⟨k1, k2, k3⟩ := put_step (p := s.extract d.toNat s.size) h3 h4 (by omega)
    rw [show s.size = ((s.size : Int)).toNat by omega] at k1 k2 k3
    have e : List.take N.toNat (spl xs a.toNat (List.take (N - a).toNat (byl (s.extract d.toNat ((s.size : Int)).toNat)))) = byl T := by
      rw [k1, ← h5, byl_extract]
      have e1 : (pre ++ List.drop d.toNat (List.take ((s.size : Int)).toNat (byl s))) = pre ++ List.drop d.toNat (byl s) := by
        rw [List.take_of_length_le (by rw [byl_len]; omega)]
      rw [e1, List.take_append_of_le_length (by simp only [List.length_append, List.length_drop, byl_len]; omega), List.take_of_length_le (by simp only [List.length_append, List.length_drop, byl_len]; omega)]
    ((repeat' ((conv => whnf); (first | (refine drawnW tysOk mixed (.pull 4 [5, 6, 7] (.pull 1 [3, 5, 6, 7] (.pull 2 [3, 5, 6, 7] (.pull 3 [5, 6, 7] (.br 0 5 (.one 5 (.pull 6 [7] (.one 7 .done))) (.pull 0 [6, 7] (.pull 6 [7] (.one 7 .done)))))))) (by kernel_rfl) (by kernel_rfl) ?_) | (refine Ar.fit (by omega) ?_) | (refine VC.mk (by (first | omega | rfl | assumption | exact Sl.plain (by assumption) (by omega) | (and_intros <;> first | omega | rfl | assumption | (simp only [List.length_set]; omega) | (simp only [ByteArray.size_extract, ByteArray.size_append]; omega) | (simp only [List.length_cons, List.length_nil]; omega) | (simp only [Int.toNat_natCast, Int.toNat_one, List.length_take, List.length_cons, List.length_nil] at *; omega)))) ?_) | (refine Br.mk ?_ ?_ <;> intro hb <;> (try (first | (exfalso; omega) | exact absurd rfl hb | exact Bool.noConfusion hb | exact absurd (fun e => Bool.noConfusion e) hb | (exfalso; simp only [List.length_cons, List.length_nil] at hb; omega) | (exfalso; simp only [Int.toNat_natCast, Int.toNat_one, List.length_take, List.length_cons, List.length_nil] at hb; omega)))) | (refine XLoad.of (by assumption) rfl rfl (by omega) (by omega) rfl ?_) | (refine New.mk ?_; intro b hb) | (refine New2.mk ?_; intro b c hb hbc) | (refine SameR.same ?_) | (refine Two.mk ?_ ?_) | (refine ed_eql ?_) | (refine ed_neq ?_) | (refine drawn tysOk mixed (by kernel_rfl) ?_) | (refine CallK.inline (rep := rep) tysOk Try.func26 rfl (by decide) (rs := []) rfl 4 [] [] rfl rfl rfl ?_) | fail))); all_goals (try (conv => whnf)))
    all_goals exact ⟨fun h' hs' => ⟨tup_eq (congrArg Value.string ((congrArg bstr e).trans (bstr_byl T))) rfl, hs'.grows⟩⟩
end Go.Ex
