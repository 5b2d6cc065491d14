/-
  Span: Trim.
-/
import Derived.Test.YtckodkjaiopmoaaSpH
namespace Go.Ex
open Go.Proofs
set_option linter.unusedVariables false

def trimGo (s : ByteArray) : List Ed → List Ed
  | [] => []
  | x :: r => if (trimF s x).f = (trimF s x).t ∧ (trimF s x).s.size = 0 then trimGo s r else trimF s x :: trimGo s r
def trimE (s : ByteArray) (L : List Ed) : Int := if (65536 : Int) < s.size then 2 else chkGo s.size L 0
def trimL (s : ByteArray) (L : List Ed) : List Ed := if trimE s L = 0 then trimGo s L else []
/-- a slice in a slot: nil, or own -/
theorem trim_ok {s : ByteArray} {L : List Ed} (h : trimE s L = 0) : s.size ≤ 65536 ∧ chkGo s.size L 0 = 0 := by
  unfold trimE at h
  split at h
  · omega
  · exact ⟨by omega, h⟩
theorem trimF_le (s : ByteArray) (x : Ed) (hx : 0 ≤ x.f ∧ x.f ≤ x.t ∧ x.t ≤ s.size) : x.f ≤ (trimF s x).f ∧ (trimF s x).f ≤ (trimF s x).t ∧ (trimF s x).t ≤ x.t ∧ (trimF s x).s.size ≤ x.s.size := by
  obtain ⟨f, t, u⟩ := x
  dsimp only at hx ⊢
  have hol : ((s.extract f.toNat t.toNat).size : Int) = t - f := by rw [ByteArray.size_extract]; omega
  obtain ⟨o, ho⟩ : ∃ o, s.extract f.toNat t.toNat = o := ⟨_, rfl⟩
  rw [ho] at hol
  have hP := lcp_le (byl o) (byl u)
  rw [byl_len, byl_len] at hP
  have hQ := lcp_le (byl (o.extract (trP o u) o.size)).reverse (byl (u.extract (trP o u) u.size)).reverse
  rw [List.length_reverse, List.length_reverse, byl_len, byl_len, ByteArray.size_extract, ByteArray.size_extract] at hQ
  simp only [trimF, ho]
  have e1 : trP o u ≤ o.size ∧ trP o u ≤ u.size := hP
  have e2 : trQ o u ≤ min o.size o.size - trP o u ∧ trQ o u ≤ min u.size u.size - trP o u := hQ
  rw [ByteArray.size_extract, ByteArray.size_extract]
  omega
theorem str_ne {a : ByteArray} : a = ⟨#[]⟩ ↔ a.size = 0 := ⟨fun h => by subst h; rfl, fun h => ByteArray.ext (Array.eq_empty_of_size_eq_zero h)⟩
set_option maxRecDepth 10000 in
theorem trim_any (s : ByteArray) (A : Option Addr) (len cap : Nat) (L : List Ed) (h : Heap) (hA : Sl edR h A len L) (hs : s.size ≤ 140737488355328) (hS : ∀ x ∈ L, x.s.size ≤ 140737488355328) (hr : len * 32 ≤ 140737488355328) :
    CallsH Try.prog 22 #[.string s, .slice A len cap] h fun v h' => ∃ x, v = .tuple #[x, .int .i64 (trimE s L)] ∧ OwnSl edR 36 h h' x (trimL s L) ∧ Grows h h' := by
  refine enter (rep := rep) (m := 9) (ex := [9, 10, 21, 22, 23]) (cu := []) tysOk Try.func22 rfl (by decide) (rs := [.tmp 4, .tmp 5]) rfl rfl [.val (.string s), .val (.slice A len cap)] rfl ?_
  have hlen := hA.small
  have hL := hA.len_eq
  ((repeat' ((conv => whnf); (first | (refine Ar.fit (by omega) ?_) | (refine VC.mk (by (first | omega | rfl | assumption | exact Sl.plain (by assumption) (by omega) | (and_intros <;> first | omega | rfl | assumption | (simp only [List.length_set]; omega) | (simp only [ByteArray.size_extract, ByteArray.size_append]; omega) | (simp only [List.length_cons, List.length_nil]; omega) | (simp only [Int.toNat_natCast, Int.toNat_one, List.length_take, List.length_cons, List.length_nil] at *; omega)))) ?_) | (refine Br.mk ?_ ?_ <;> intro hb <;> (try (first | (exfalso; omega) | exact absurd rfl hb | exact Bool.noConfusion hb | exact absurd (fun e => Bool.noConfusion e) hb | (exfalso; simp only [List.length_cons, List.length_nil] at hb; omega) | (exfalso; simp only [Int.toNat_natCast, Int.toNat_one, List.length_take, List.length_cons, List.length_nil] at hb; omega)))) | (refine XLoad.of (by assumption) rfl rfl (by omega) (by omega) rfl ?_) | (refine New.mk ?_; intro b hb) | (refine New2.mk ?_; intro b c hb hbc) | (refine SameR.same ?_) | (refine Two.mk ?_ ?_) | (refine ed_eql ?_) | (refine ed_neq ?_) | (refine drawn tysOk mixed (by kernel_rfl) ?_) | (apply CallK.pure; (case hh => (intro h1 hs; exact check_any _ _ _ _ _ _ (hA.grows hs.grows)))) | fail))); all_goals (try (conv => whnf)))
  · exact ⟨fun h' hs' => ⟨_, tup_eq rfl (int_eq (by rw [trimE, if_pos (by omega)])), by rw [trimL, trimE, if_pos (show (65536 : Int) < s.size by omega), if_neg (by omega)]; exact .nil, hs'.grows⟩⟩
  · have hc : chk s.size L = trimE s L := by rw [trimE, if_neg (by omega), chk_eq (by omega) (by omega)]
    rw [hc] at hb
    exact ⟨fun h' hs' => ⟨_, tup_eq rfl (int_eq hc), by rw [trimL, if_neg hb]; exact .nil, hs'.grows⟩⟩
  · have hE : trimE s L = 0 := by rw [trimE, if_neg (by omega)]; rw [← chk_eq (by omega) (by omega)]; exact Classical.not_not.1 hb
    obtain ⟨z1, z2⟩ := trim_ok hE
    obtain ⟨R, hR⟩ : ∃ R, trimGo s L = R := ⟨_, rfl⟩
    have hU : trimL s L = R := by rw [trimL, if_pos hE, hR]
    rw [hU, hE]
    refine loop_rule tysOk [7, 23] (fun x : Option (Nat × Nat) × List Ed × Int × Int => [(7, slK 43 x.1 x.2.2.1), (23, .val (.int .i64 x.2.2.2))]) (fun x => slC 43 x.1 x.2.1)
      (fun μ x => 0 ≤ x.2.2.2 ∧ x.2.2.2 + μ = len ∧ x.2.2.1 = x.2.1.length ∧ x.2.2.1 ≤ x.2.2.2 ∧ (x.1 = none → x.2.1 = []) ∧ (∀ b c, x.1 = some (b, c) → h.size ≤ b) ∧ x.2.1 ++ trimGo s (L.drop x.2.2.2.toNat) = R) len ⟨none, [], 0, 0⟩ ?_
    conv => whnf
    refine ⟨?_, trivial, ⟨by simp, by simp, by simp, by simp, by simp, by simp, by simpa using hR⟩, ?_⟩
    · ((repeat (refine ⟨rfl, ?_⟩)); trivial)
    rintro μ ⟨o, acc, n, i⟩ ⟨h0, h1, h2, h3, h4, h5, h6⟩
    dsimp only at h0 h1 h2 h3 h4 h5 h6 ⊢
    by_cases hi : i < len
    · have hm := getI_mem edR.dflt L i h0 (by omega)
      have hx := hS (getI edR.dflt L i) hm
      have hx2 := chk_mem s.size L 0 z2 (by omega) _ hm
      have hT := fun h => trimmed_any s (getI edR.dflt L i) h hx2 hs hx
      rw [drop_get edR.dflt L i h0 (by omega)] at h6
      simp only [trimGo] at h6
      have hle := trimF_le s _ hx2
      generalize trimF s (getI edR.dflt L i) = Y at h6 hT hle
      obtain ⟨yf, yt, ys⟩ := Y
      dsimp only at h6 hT hle
      have hskip : yf = yt ∧ ys.size = 0 →
          0 ≤ i + 1 ∧ i + 1 + ((μ - 1 : Nat) : Int) = len ∧ n = acc.length ∧ n ≤ i + 1 ∧ (o = none → acc = []) ∧ (∀ b c, o = some (b, c) → h.size ≤ b) ∧ acc ++ trimGo s (L.drop (i + 1).toNat) = R := by
        intro hh
        rw [if_pos hh] at h6
        exact ⟨by omega, by omega, h2, by omega, h4, h5, h6⟩
      have hend : ∀ (o' : Option (Nat × Nat)) (acc' : List Ed) (n' : Int), ¬ (yf = yt ∧ ys.size = 0) → acc' = acc ++ [⟨yf, yt, ys⟩] → n' = n + 1 → (∀ b c, o' = some (b, c) → h.size ≤ b) → o' ≠ none →
          0 ≤ i + 1 ∧ i + 1 + ((μ - 1 : Nat) : Int) = len ∧ n' = acc'.length ∧ n' ≤ i + 1 ∧ (o' = none → acc' = []) ∧ (∀ b c, o' = some (b, c) → h.size ≤ b) ∧ acc' ++ trimGo s (L.drop (i + 1).toNat) = R := by
        intro o' acc' n' hc ha hn ho1 ho2
        rw [if_neg hc] at h6
        refine ⟨by omega, by omega, by rw [hn, h2, ha]; simp, by omega, fun hh => absurd hh ho2, ho1, ?_⟩
        rw [ha, ← h6]; simp
      rcases o with _ | ⟨b0, c0⟩
      · dsimp only [slK, slC]
        have h4' := h4 rfl
        subst h4'
        have h2' : n = 0 := h2
        subst h2'
        ((repeat' ((conv => whnf); (first | (refine Ar.fit (by omega) ?_) | (refine VC.mk (by (first | omega | rfl | assumption | exact Sl.plain (by assumption) (by omega) | (and_intros <;> first | omega | rfl | assumption | (simp only [List.length_set]; omega) | (simp only [ByteArray.size_extract, ByteArray.size_append]; omega) | (simp only [List.length_cons, List.length_nil]; omega) | (simp only [Int.toNat_natCast, Int.toNat_one, List.length_take, List.length_cons, List.length_nil] at *; omega)))) ?_) | (refine Br.mk ?_ ?_ <;> intro hb <;> (try (first | (exfalso; omega) | exact absurd rfl hb | exact Bool.noConfusion hb | exact absurd (fun e => Bool.noConfusion e) hb | (exfalso; simp only [List.length_cons, List.length_nil] at hb; omega) | (exfalso; simp only [Int.toNat_natCast, Int.toNat_one, List.length_take, List.length_cons, List.length_nil] at hb; omega)))) | (refine XLoad.of (by assumption) rfl rfl (by omega) (by omega) rfl ?_) | (refine New.mk ?_; intro b hb) | (refine New2.mk ?_; intro b c hb hbc) | (refine SameR.same ?_) | (refine Two.mk ?_ ?_) | (refine ed_eql ?_) | (refine ed_neq ?_) | (refine drawn tysOk mixed (by kernel_rfl) ?_) | (apply CallK.pure; (case hh => (intro h1 hs; exact hT h1))) | fail))); all_goals (try (conv => whnf)))
        all_goals first
          | (refine ⟨μ - 1, ⟨some (b, c), [] ++ [⟨yf, yt, ys⟩], 0 + 1, i + 1⟩, hend (some (b, c)) ([] ++ [⟨yf, yt, ys⟩]) (0 + 1) (by first | omega | (simp only [str_ne] at *; omega)) rfl rfl (fun b' c' h => by cases h; exact hb) (by simp), by omega, by ((repeat (refine ⟨rfl, ?_⟩)); trivial), rfl, rfl, by exact ⟨rfl, rfl, trivial⟩⟩)
          | (refine ⟨μ - 1, ⟨none, [], 0, i + 1⟩, hskip (by first | omega | (simp only [str_ne] at *; omega)), by omega, by ((repeat (refine ⟨rfl, ?_⟩)); trivial), rfl, rfl, by trivial⟩)
      · have hb0 := h5 b0 c0 rfl
        dsimp only [slK, slC]
        ((repeat' ((conv => whnf); (first | (refine Ar.fit (by omega) ?_) | (refine VC.mk (by (first | omega | rfl | assumption | exact Sl.plain (by assumption) (by omega) | (and_intros <;> first | omega | rfl | assumption | (simp only [List.length_set]; omega) | (simp only [ByteArray.size_extract, ByteArray.size_append]; omega) | (simp only [List.length_cons, List.length_nil]; omega) | (simp only [Int.toNat_natCast, Int.toNat_one, List.length_take, List.length_cons, List.length_nil] at *; omega)))) ?_) | (refine Br.mk ?_ ?_ <;> intro hb <;> (try (first | (exfalso; omega) | exact absurd rfl hb | exact Bool.noConfusion hb | exact absurd (fun e => Bool.noConfusion e) hb | (exfalso; simp only [List.length_cons, List.length_nil] at hb; omega) | (exfalso; simp only [Int.toNat_natCast, Int.toNat_one, List.length_take, List.length_cons, List.length_nil] at hb; omega)))) | (refine XLoad.of (by assumption) rfl rfl (by omega) (by omega) rfl ?_) | (refine New.mk ?_; intro b hb) | (refine New2.mk ?_; intro b c hb hbc) | (refine SameR.same ?_) | (refine Two.mk ?_ ?_) | (refine ed_eql ?_) | (refine ed_neq ?_) | (refine drawn tysOk mixed (by kernel_rfl) ?_) | (apply CallK.pure; (case hh => (intro h1 hs; exact hT h1))) | fail))); all_goals (try (conv => whnf)))
        all_goals first
          | (refine ⟨μ - 1, ⟨some (b, c), acc ++ [⟨yf, yt, ys⟩], n + 1, i + 1⟩, hend (some (b, c)) (acc ++ [⟨yf, yt, ys⟩]) (n + 1) (by first | omega | (simp only [str_ne] at *; omega)) rfl rfl (fun b' c' h => by cases h; exact hb) (by simp), by omega, by ((repeat (refine ⟨rfl, ?_⟩)); trivial), rfl, rfl, by exact ⟨by rw [List.take_of_length_le (by omega : acc.length ≤ n.toNat)]; rfl, rfl, trivial⟩⟩)
          | (refine ⟨μ - 1, ⟨some (b0, c0), acc, n, i + 1⟩, hskip (by first | omega | (simp only [str_ne] at *; omega)), by omega, by ((repeat (refine ⟨rfl, ?_⟩)); trivial), rfl, rfl, by exact ⟨rfl, rfl, trivial⟩⟩)
    · rw [drop_all L i (by omega)] at h6
      have hR2 : acc = R := by rw [← h6]; simp [trimGo]
      rcases o with _ | ⟨b0, c0⟩
      · dsimp only [slK, slC]
        ((repeat' ((conv => whnf); (first | (refine Ar.fit (by omega) ?_) | (refine VC.mk (by (first | omega | rfl | assumption | exact Sl.plain (by assumption) (by omega) | (and_intros <;> first | omega | rfl | assumption | (simp only [List.length_set]; omega) | (simp only [ByteArray.size_extract, ByteArray.size_append]; omega) | (simp only [List.length_cons, List.length_nil]; omega) | (simp only [Int.toNat_natCast, Int.toNat_one, List.length_take, List.length_cons, List.length_nil] at *; omega)))) ?_) | (refine Br.mk ?_ ?_ <;> intro hb <;> (try (first | (exfalso; omega) | exact absurd rfl hb | exact Bool.noConfusion hb | exact absurd (fun e => Bool.noConfusion e) hb | (exfalso; simp only [List.length_cons, List.length_nil] at hb; omega) | (exfalso; simp only [Int.toNat_natCast, Int.toNat_one, List.length_take, List.length_cons, List.length_nil] at hb; omega)))) | (refine XLoad.of (by assumption) rfl rfl (by omega) (by omega) rfl ?_) | (refine New.mk ?_; intro b hb) | (refine New2.mk ?_; intro b c hb hbc) | (refine SameR.same ?_) | (refine Two.mk ?_ ?_) | (refine ed_eql ?_) | (refine ed_neq ?_) | (refine drawn tysOk mixed (by kernel_rfl) ?_) | fail))); all_goals (try (conv => whnf)))
        exact ⟨fun h' hs' => ⟨_, rfl, by rw [← hR2, h4 rfl]; exact .nil, hs'.grows⟩⟩
      · dsimp only [slK, slC]
        ((repeat' ((conv => whnf); (first | (refine Ar.fit (by omega) ?_) | (refine VC.mk (by (first | omega | rfl | assumption | exact Sl.plain (by assumption) (by omega) | (and_intros <;> first | omega | rfl | assumption | (simp only [List.length_set]; omega) | (simp only [ByteArray.size_extract, ByteArray.size_append]; omega) | (simp only [List.length_cons, List.length_nil]; omega) | (simp only [Int.toNat_natCast, Int.toNat_one, List.length_take, List.length_cons, List.length_nil] at *; omega)))) ?_) | (refine Br.mk ?_ ?_ <;> intro hb <;> (try (first | (exfalso; omega) | exact absurd rfl hb | exact Bool.noConfusion hb | exact absurd (fun e => Bool.noConfusion e) hb | (exfalso; simp only [List.length_cons, List.length_nil] at hb; omega) | (exfalso; simp only [Int.toNat_natCast, Int.toNat_one, List.length_take, List.length_cons, List.length_nil] at hb; omega)))) | (refine XLoad.of (by assumption) rfl rfl (by omega) (by omega) rfl ?_) | (refine New.mk ?_; intro b hb) | (refine New2.mk ?_; intro b c hb hbc) | (refine SameR.same ?_) | (refine Two.mk ?_ ?_) | (refine ed_eql ?_) | (refine ed_neq ?_) | (refine drawn tysOk mixed (by kernel_rfl) ?_) | fail))); all_goals (try (conv => whnf)))
        exact ⟨fun h' hs' => ⟨_, rfl, by rw [← hR2]; exact hs'.own (k := 43) rfl h2, hs'.grows⟩⟩
set_option maxRecDepth 10000 in
theorem rtrim_any (s : ByteArray) (A : Option Addr) (len cap : Nat) (L : List Ed) (h : Heap) (hA : Sl edR h A len L) (hs : s.size ≤ 140737488355328) (hS : ∀ x ∈ L, x.s.size ≤ 140737488355328) (hr : len * 32 ≤ 140737488355328) :
    CallsH Try.prog 23 #[.string s, .slice A len cap] h fun v h' => ∃ x, v = .tuple #[x, .int .i64 (trimE s L)] ∧ OwnSl edR 36 h h' x (trimL s L) ∧ Grows h h' := by
  refine enter (rep := rep) (m := 9) (ex := []) (cu := []) tysOk Try.func23 rfl (by decide) (rs := [.tmp 4, .tmp 5]) rfl rfl [.val (.string s), .val (.slice A len cap)] rfl ?_
  have hlen := hA.small
  have hL := hA.len_eq
  ((repeat' ((conv => whnf); (first | (refine Ar.fit (by omega) ?_) | (refine VC.mk (by (first | omega | rfl | assumption | exact Sl.plain (by assumption) (by omega) | (and_intros <;> first | omega | rfl | assumption | (simp only [List.length_set]; omega) | (simp only [ByteArray.size_extract, ByteArray.size_append]; omega) | (simp only [List.length_cons, List.length_nil]; omega) | (simp only [Int.toNat_natCast, Int.toNat_one, List.length_take, List.length_cons, List.length_nil] at *; omega)))) ?_) | (refine Br.mk ?_ ?_ <;> intro hb <;> (try (first | (exfalso; omega) | exact absurd rfl hb | exact Bool.noConfusion hb | exact absurd (fun e => Bool.noConfusion e) hb | (exfalso; simp only [List.length_cons, List.length_nil] at hb; omega) | (exfalso; simp only [Int.toNat_natCast, Int.toNat_one, List.length_take, List.length_cons, List.length_nil] at hb; omega)))) | (refine XLoad.of (by assumption) rfl rfl (by omega) (by omega) rfl ?_) | (refine New.mk ?_; intro b hb) | (refine New2.mk ?_; intro b c hb hbc) | (refine SameR.same ?_) | (refine Two.mk ?_ ?_) | (refine ed_eql ?_) | (refine ed_neq ?_) | (refine drawn tysOk mixed (by kernel_rfl) ?_) | (apply CallK.pure; (case hh => (intro h1 hs; exact stand_any _ _ _ _ _ _ (hA.grows hs.grows)))) | fail))); all_goals (try (conv => whnf)))
  · exact ⟨fun h' hs' => ⟨_, tup_eq rfl (int_eq (by rw [trimE, if_pos (by omega)])), by rw [trimL, trimE, if_pos (show (65536 : Int) < s.size by omega), if_neg (by omega)]; exact .nil, hs'.grows⟩⟩
  · have hc : trimE s L = 13 := by rw [trimE, if_neg (by omega)]; exact (chk_two s.size L 0).resolve_left (by simpa using hb)
    exact ⟨fun h' hs' => ⟨_, tup_eq rfl (int_eq hc.symm), by rw [trimL, if_neg (by omega)]; exact .nil, hs'.grows⟩⟩
  · have hE : trimE s L = 0 := by rw [trimE, if_neg (by omega)]; simpa using hb
    obtain ⟨z1, z2⟩ := trim_ok hE
    obtain ⟨R, hR⟩ : ∃ R, trimGo s L = R := ⟨_, rfl⟩
    have hU : trimL s L = R := by rw [trimL, if_pos hE, hR]
    rw [hU, hE]
    refine loop_rule tysOk [6, 7] (fun x : Option (Nat × Nat) × List Ed × Int × Int => [(6, slK 43 x.1 x.2.2.1), (7, .val (.int .i64 x.2.2.2))]) (fun x => slC 43 x.1 x.2.1)
      (fun μ x => 0 ≤ x.2.2.2 ∧ x.2.2.2 + μ = len ∧ x.2.2.1 = x.2.1.length ∧ x.2.2.1 ≤ x.2.2.2 ∧ (x.1 = none → x.2.1 = []) ∧ (∀ b c, x.1 = some (b, c) → h.size ≤ b) ∧ x.2.1 ++ trimGo s (L.drop x.2.2.2.toNat) = R) len ⟨none, [], 0, 0⟩ ?_
    conv => whnf
    refine ⟨?_, trivial, ⟨by simp, by simp, by simp, by simp, by simp, by simp, by simpa using hR⟩, ?_⟩
    · ((repeat (refine ⟨rfl, ?_⟩)); trivial)
    rintro μ ⟨o, acc, n, i⟩ ⟨h0, h1, h2, h3, h4, h5, h6⟩
    dsimp only at h0 h1 h2 h3 h4 h5 h6 ⊢
    by_cases hi : i < len
    · have hm := getI_mem edR.dflt L i h0 (by omega)
      have hx := hS (getI edR.dflt L i) hm
      have hx2 := chk_mem s.size L 0 z2 (by omega) _ hm
      have hT := fun h => rtrimmed_any s (getI edR.dflt L i) h hx2 hs hx
      rw [drop_get edR.dflt L i h0 (by omega)] at h6
      simp only [trimGo] at h6
      have hle := trimF_le s _ hx2
      generalize trimF s (getI edR.dflt L i) = Y at h6 hT hle
      obtain ⟨yf, yt, ys⟩ := Y
      dsimp only at h6 hT hle
      have hskip : yf = yt ∧ ys.size = 0 →
          0 ≤ i + 1 ∧ i + 1 + ((μ - 1 : Nat) : Int) = len ∧ n = acc.length ∧ n ≤ i + 1 ∧ (o = none → acc = []) ∧ (∀ b c, o = some (b, c) → h.size ≤ b) ∧ acc ++ trimGo s (L.drop (i + 1).toNat) = R := by
        intro hh
        rw [if_pos hh] at h6
        exact ⟨by omega, by omega, h2, by omega, h4, h5, h6⟩
      have hend : ∀ (o' : Option (Nat × Nat)) (acc' : List Ed) (n' : Int), ¬ (yf = yt ∧ ys.size = 0) → acc' = acc ++ [⟨yf, yt, ys⟩] → n' = n + 1 → (∀ b c, o' = some (b, c) → h.size ≤ b) → o' ≠ none →
          0 ≤ i + 1 ∧ i + 1 + ((μ - 1 : Nat) : Int) = len ∧ n' = acc'.length ∧ n' ≤ i + 1 ∧ (o' = none → acc' = []) ∧ (∀ b c, o' = some (b, c) → h.size ≤ b) ∧ acc' ++ trimGo s (L.drop (i + 1).toNat) = R := by
        intro o' acc' n' hc ha hn ho1 ho2
        rw [if_neg hc] at h6
        refine ⟨by omega, by omega, by rw [hn, h2, ha]; simp, by omega, fun hh => absurd hh ho2, ho1, ?_⟩
        rw [ha, ← h6]; simp
      rcases o with _ | ⟨b0, c0⟩
      · dsimp only [slK, slC]
        have h4' := h4 rfl
        subst h4'
        have h2' : n = 0 := h2
        subst h2'
        ((repeat' ((conv => whnf); (first | (refine Ar.fit (by omega) ?_) | (refine VC.mk (by (first | omega | rfl | assumption | exact Sl.plain (by assumption) (by omega) | (and_intros <;> first | omega | rfl | assumption | (simp only [List.length_set]; omega) | (simp only [ByteArray.size_extract, ByteArray.size_append]; omega) | (simp only [List.length_cons, List.length_nil]; omega) | (simp only [Int.toNat_natCast, Int.toNat_one, List.length_take, List.length_cons, List.length_nil] at *; omega)))) ?_) | (refine Br.mk ?_ ?_ <;> intro hb <;> (try (first | (exfalso; omega) | exact absurd rfl hb | exact Bool.noConfusion hb | exact absurd (fun e => Bool.noConfusion e) hb | (exfalso; simp only [List.length_cons, List.length_nil] at hb; omega) | (exfalso; simp only [Int.toNat_natCast, Int.toNat_one, List.length_take, List.length_cons, List.length_nil] at hb; omega)))) | (refine XLoad.of (by assumption) rfl rfl (by omega) (by omega) rfl ?_) | (refine New.mk ?_; intro b hb) | (refine New2.mk ?_; intro b c hb hbc) | (refine SameR.same ?_) | (refine Two.mk ?_ ?_) | (refine ed_eql ?_) | (refine ed_neq ?_) | (refine drawn tysOk mixed (by kernel_rfl) ?_) | (apply CallK.pure; (case hh => (intro h1 hs; exact hT h1))) | fail))); all_goals (try (conv => whnf)))
        all_goals first
          | (refine ⟨μ - 1, ⟨some (b, c), [] ++ [⟨yf, yt, ys⟩], 0 + 1, i + 1⟩, hend (some (b, c)) ([] ++ [⟨yf, yt, ys⟩]) (0 + 1) (by first | omega | (simp only [str_ne] at *; omega)) rfl rfl (fun b' c' h => by cases h; exact hb) (by simp), by omega, by ((repeat (refine ⟨rfl, ?_⟩)); trivial), rfl, rfl, by exact ⟨rfl, rfl, trivial⟩⟩)
          | (refine ⟨μ - 1, ⟨none, [], 0, i + 1⟩, hskip (by first | omega | (simp only [str_ne] at *; omega)), by omega, by ((repeat (refine ⟨rfl, ?_⟩)); trivial), rfl, rfl, by trivial⟩)
      · have hb0 := h5 b0 c0 rfl
        dsimp only [slK, slC]
        ((repeat' ((conv => whnf); (first | (refine Ar.fit (by omega) ?_) | (refine VC.mk (by (first | omega | rfl | assumption | exact Sl.plain (by assumption) (by omega) | (and_intros <;> first | omega | rfl | assumption | (simp only [List.length_set]; omega) | (simp only [ByteArray.size_extract, ByteArray.size_append]; omega) | (simp only [List.length_cons, List.length_nil]; omega) | (simp only [Int.toNat_natCast, Int.toNat_one, List.length_take, List.length_cons, List.length_nil] at *; omega)))) ?_) | (refine Br.mk ?_ ?_ <;> intro hb <;> (try (first | (exfalso; omega) | exact absurd rfl hb | exact Bool.noConfusion hb | exact absurd (fun e => Bool.noConfusion e) hb | (exfalso; simp only [List.length_cons, List.length_nil] at hb; omega) | (exfalso; simp only [Int.toNat_natCast, Int.toNat_one, List.length_take, List.length_cons, List.length_nil] at hb; omega)))) | (refine XLoad.of (by assumption) rfl rfl (by omega) (by omega) rfl ?_) | (refine New.mk ?_; intro b hb) | (refine New2.mk ?_; intro b c hb hbc) | (refine SameR.same ?_) | (refine Two.mk ?_ ?_) | (refine ed_eql ?_) | (refine ed_neq ?_) | (refine drawn tysOk mixed (by kernel_rfl) ?_) | (apply CallK.pure; (case hh => (intro h1 hs; exact hT h1))) | fail))); all_goals (try (conv => whnf)))
        all_goals first
          | (refine ⟨μ - 1, ⟨some (b, c), acc ++ [⟨yf, yt, ys⟩], n + 1, i + 1⟩, hend (some (b, c)) (acc ++ [⟨yf, yt, ys⟩]) (n + 1) (by first | omega | (simp only [str_ne] at *; omega)) rfl rfl (fun b' c' h => by cases h; exact hb) (by simp), by omega, by ((repeat (refine ⟨rfl, ?_⟩)); trivial), rfl, rfl, by exact ⟨by rw [List.take_of_length_le (by omega : acc.length ≤ n.toNat)]; rfl, rfl, trivial⟩⟩)
          | (refine ⟨μ - 1, ⟨some (b0, c0), acc, n, i + 1⟩, hskip (by first | omega | (simp only [str_ne] at *; omega)), by omega, by ((repeat (refine ⟨rfl, ?_⟩)); trivial), rfl, rfl, by exact ⟨rfl, rfl, trivial⟩⟩)
    · rw [drop_all L i (by omega)] at h6
      have hR2 : acc = R := by rw [← h6]; simp [trimGo]
      rcases o with _ | ⟨b0, c0⟩
      · dsimp only [slK, slC]
        ((repeat' ((conv => whnf); (first | (refine Ar.fit (by omega) ?_) | (refine VC.mk (by (first | omega | rfl | assumption | exact Sl.plain (by assumption) (by omega) | (and_intros <;> first | omega | rfl | assumption | (simp only [List.length_set]; omega) | (simp only [ByteArray.size_extract, ByteArray.size_append]; omega) | (simp only [List.length_cons, List.length_nil]; omega) | (simp only [Int.toNat_natCast, Int.toNat_one, List.length_take, List.length_cons, List.length_nil] at *; omega)))) ?_) | (refine Br.mk ?_ ?_ <;> intro hb <;> (try (first | (exfalso; omega) | exact absurd rfl hb | exact Bool.noConfusion hb | exact absurd (fun e => Bool.noConfusion e) hb | (exfalso; simp only [List.length_cons, List.length_nil] at hb; omega) | (exfalso; simp only [Int.toNat_natCast, Int.toNat_one, List.length_take, List.length_cons, List.length_nil] at hb; omega)))) | (refine XLoad.of (by assumption) rfl rfl (by omega) (by omega) rfl ?_) | (refine New.mk ?_; intro b hb) | (refine New2.mk ?_; intro b c hb hbc) | (refine SameR.same ?_) | (refine Two.mk ?_ ?_) | (refine ed_eql ?_) | (refine ed_neq ?_) | (refine drawn tysOk mixed (by kernel_rfl) ?_) | fail))); all_goals (try (conv => whnf)))
        exact ⟨fun h' hs' => ⟨_, rfl, by rw [← hR2, h4 rfl]; exact .nil, hs'.grows⟩⟩
      · dsimp only [slK, slC]
        ((repeat' ((conv => whnf); (first | (refine Ar.fit (by omega) ?_) | (refine VC.mk (by (first | omega | rfl | assumption | exact Sl.plain (by assumption) (by omega) | (and_intros <;> first | omega | rfl | assumption | (simp only [List.length_set]; omega) | (simp only [ByteArray.size_extract, ByteArray.size_append]; omega) | (simp only [List.length_cons, List.length_nil]; omega) | (simp only [Int.toNat_natCast, Int.toNat_one, List.length_take, List.length_cons, List.length_nil] at *; omega)))) ?_) | (refine Br.mk ?_ ?_ <;> intro hb <;> (try (first | (exfalso; omega) | exact absurd rfl hb | exact Bool.noConfusion hb | exact absurd (fun e => Bool.noConfusion e) hb | (exfalso; simp only [List.length_cons, List.length_nil] at hb; omega) | (exfalso; simp only [Int.toNat_natCast, Int.toNat_one, List.length_take, List.length_cons, List.length_nil] at hb; omega)))) | (refine XLoad.of (by assumption) rfl rfl (by omega) (by omega) rfl ?_) | (refine New.mk ?_; intro b hb) | (refine New2.mk ?_; intro b c hb hbc) | (refine SameR.same ?_) | (refine Two.mk ?_ ?_) | (refine ed_eql ?_) | (refine ed_neq ?_) | (refine drawn tysOk mixed (by kernel_rfl) ?_) | fail))); all_goals (try (conv => whnf)))
        exact ⟨fun h' hs' => ⟨_, rfl, by rw [← hR2]; exact hs'.own (k := 43) rfl h2, hs'.grows⟩⟩
end Go.Ex
