/-
  Span: edits made less make the same text.
-/
import Derived.Test.YtckodkjaiopmoaaSpM
namespace Go.Ex
open Go.Proofs
set_option linter.unusedVariables false

theorem lcp_take : ∀ (a b : List Int), a.take (lcp a b) = b.take (lcp a b)
  | x :: a, y :: b => by
    simp only [lcp]
    split
    · rename_i h; rw [List.take_succ_cons, List.take_succ_cons, h, lcp_take a b]
    · rfl
  | [], b => by simp [lcp]
  | x :: a, [] => by simp [lcp]
theorem lcp_max : ∀ (a b : List Int), lcp (a.drop (lcp a b)) (b.drop (lcp a b)) = 0
  | x :: a, y :: b => by
    simp only [lcp]
    split
    · rw [List.drop_succ_cons, List.drop_succ_cons]; exact lcp_max a b
    · rename_i h; simp [lcp, h]
  | [], b => by simp [lcp]
  | x :: a, [] => by simp [lcp]
theorem lcp_zero_take : ∀ (a b : List Int) (m n : Nat), lcp a b = 0 → lcp (a.take m) (b.take n) = 0
  | x :: a, y :: b, m, n, h => by
    simp only [lcp] at h
    split at h
    · omega
    · rename_i hne
      cases m with
      | zero => simp [lcp]
      | succ m => cases n with
        | zero => simp [lcp]
        | succ n => simp [lcp, hne]
  | [], b, m, n, _ => by simp [lcp]
  | x :: a, [], m, n, _ => by simp [lcp]
/-- the common end -/
theorem lcs_drop (a b : List Int) (q : Nat) (hq : lcp a.reverse b.reverse = q) : a.drop (a.length - q) = b.drop (b.length - q) := by
  have h := lcp_take a.reverse b.reverse
  rw [hq, List.take_reverse, List.take_reverse] at h
  exact List.reverse_inj.1 h
theorem trim_lists (S T U : List Int) (f t p q : Nat) (hft : f ≤ t) (htS : t ≤ S.length) (hT : T.take t = S.take t) (htT : t ≤ T.length)
    (hp : lcp ((S.take t).drop f) U = p) (hq : lcp (((S.take t).drop f).drop p).reverse (U.drop p).reverse = q) :
    T.take (f + p) ++ (U.drop p).take ((U.drop p).length - q) ++ T.drop (t - q) = T.take f ++ U ++ T.drop t := by
  have hl := lcp_le ((S.take t).drop f) U
  rw [hp] at hl
  have hol : ((S.take t).drop f).length = t - f := by rw [List.length_drop, List.length_take]; omega
  have hq2 := lcp_le (((S.take t).drop f).drop p).reverse (U.drop p).reverse
  rw [hq, List.length_reverse, List.length_reverse, List.length_drop, hol, List.length_drop] at hq2
  have h1 : T.take (f + p) = T.take f ++ U.take p := by
    have : T.take (f + p) = (S.take t).take (f + p) := by rw [← hT, List.take_take, Nat.min_eq_left (by omega)]
    have h3 := lcp_take ((S.take t).drop f) U
    rw [hp] at h3
    rw [this, List.take_add, h3, ← hT, List.take_take, Nat.min_eq_left hft]
  have h2 : T.drop (t - q) = (U.drop p).drop ((U.drop p).length - q) ++ T.drop t := by
    have h3 : T.drop (t - q) = (T.take t).drop (t - q) ++ T.drop t := by
      have h4 : T = T.take t ++ T.drop t := (List.take_append_drop t T).symm
      have h5 : (T.take t ++ T.drop t).drop (t - q) = (T.take t).drop (t - q) ++ T.drop t := List.drop_append_of_le_length (by rw [List.length_take]; omega)
      rw [List.take_append_drop] at h5
      exact h5
    rw [← lcs_drop _ _ q hq, h3, ← hT]
    congr 1
    rw [List.drop_drop, List.drop_drop, List.length_drop, List.length_drop, List.length_take]
    congr 1
    omega
  rw [h1, h2]
  simp only [List.append_assoc]
  rw [← List.append_assoc ((U.drop p).take _), List.take_append_drop, ← List.append_assoc (U.take p), List.take_append_drop]
/-- made less twice is made less once -/
theorem trim_twice (O U : List Int) (p q : Nat) (hp : lcp O U = p) (hq : lcp (O.drop p).reverse (U.drop p).reverse = q) :
    lcp ((O.drop p).take ((O.drop p).length - q)) ((U.drop p).take ((U.drop p).length - q)) = 0 ∧
    lcp ((O.drop p).take ((O.drop p).length - q)).reverse ((U.drop p).take ((U.drop p).length - q)).reverse = 0 := by
  constructor
  · exact lcp_zero_take _ _ _ _ (by rw [← hp]; exact lcp_max O U)
  · rw [← List.drop_reverse, ← List.drop_reverse, ← hq]
    exact lcp_max _ _
theorem byl_step (x : Ed) (T : ByteArray) : byl (step x T) = (byl T).take x.f.toNat ++ byl x.s ++ (byl T).drop x.t.toNat := by
  simp only [step, byl_append, byl_extract, List.drop_zero]
  rw [List.take_of_length_le (l := byl T) (i := T.size) (by rw [byl_len]; exact Nat.le_refl _)]
theorem byl_behind (u : ByteArray) (p : Nat) : byl (u.extract p u.size) = (byl u).drop p := by
  rw [byl_extract, List.take_of_length_le (by rw [byl_len]; exact Nat.le_refl _)]
theorem trimF_parts (s : ByteArray) (f t : Int) (u : ByteArray) : ∃ p q : Nat, trimF s ⟨f, t, u⟩ = ⟨f + p, t - q, (u.extract p u.size).extract 0 ((u.extract p u.size).size - q)⟩ ∧
    lcp (((byl s).take t.toNat).drop f.toNat) (byl u) = p ∧ lcp ((((byl s).take t.toNat).drop f.toNat).drop p).reverse ((byl u).drop p).reverse = q := by
  refine ⟨trP (s.extract f.toNat t.toNat) u, trQ (s.extract f.toNat t.toNat) u, rfl, ?_, ?_⟩
  · rw [← byl_extract]; rfl
  · rw [← byl_extract, ← byl_behind, ← byl_behind]; rfl
theorem trim_step (s T : ByteArray) (x : Ed) (hx : 0 ≤ x.f ∧ x.f ≤ x.t ∧ x.t ≤ s.size) (hT : (byl T).take x.t.toNat = (byl s).take x.t.toNat) (hl : x.t ≤ T.size) : step (trimF s x) T = step x T := by
  obtain ⟨f, t, u⟩ := x
  dsimp only at hx hT hl
  obtain ⟨p, q, hF, hp, hq⟩ := trimF_parts s f t u
  have hle := trimF_le s ⟨f, t, u⟩ hx
  have key := trim_lists (byl s) (byl T) (byl u) f.toNat t.toNat p q (by omega) (by rw [byl_len]; omega) hT (by rw [byl_len]; omega) hp hq
  refine byl_inj ?_
  rw [byl_step, byl_step, hF]
  rw [hF] at hle
  dsimp only at hle ⊢
  rw [byl_extract, byl_behind, List.drop_zero, show (u.extract p u.size).size = ((byl u).drop p).length by rw [← byl_behind, byl_len], show (f + (p : Int)).toNat = f.toNat + p by omega, show (t - (q : Int)).toNat = t.toNat - q by omega]
  exact key
theorem trimF_twice (s : ByteArray) (x : Ed) (hx : 0 ≤ x.f ∧ x.f ≤ x.t ∧ x.t ≤ s.size) : trimF s (trimF s x) = trimF s x := by
  obtain ⟨f, t, u⟩ := x
  dsimp only at hx
  obtain ⟨p, q, hF, hp, hq⟩ := trimF_parts s f t u
  have hle := trimF_le s ⟨f, t, u⟩ hx
  obtain ⟨y, hy⟩ : ∃ y, (u.extract p u.size).extract 0 ((u.extract p u.size).size - q) = y := ⟨_, rfl⟩
  rw [hF, hy] at hle ⊢
  dsimp only at hle
  obtain ⟨p', q', hF', hp', hq'⟩ := trimF_parts s (f + p) (t - q) y
  obtain ⟨k1, k2⟩ := trim_twice _ _ p q hp hq
  have hO : ((byl s).take (t - (q : Int)).toNat).drop (f + (p : Int)).toNat = ((((byl s).take t.toNat).drop f.toNat).drop p).take (((((byl s).take t.toNat).drop f.toNat).drop p).length - q) := by
    rw [List.drop_drop, List.take_drop, List.take_take, List.length_drop, List.length_take, byl_len]
    congr 1
    · omega
    · congr 1; omega
  have hU : byl y = ((byl u).drop p).take (((byl u).drop p).length - q) := by
    rw [← hy, byl_extract, byl_behind, List.drop_zero, show (u.extract p u.size).size = ((byl u).drop p).length by rw [← byl_behind, byl_len]]
  rw [hO, hU] at hp' hq'
  have hp0 : p' = 0 := by rw [← hp']; exact k1
  subst hp0
  rw [List.drop_zero, List.drop_zero] at hq'
  have hq0 : q' = 0 := by rw [← hq']; exact k2
  subst hq0
  rw [hF']
  have e : (y.extract 0 y.size).extract 0 ((y.extract 0 y.size).size - 0) = y := by simp
  rw [e]
  simp
theorem step_none (T : ByteArray) (x : Ed) (h1 : x.f = x.t) (h2 : x.s.size = 0) : step x T = T := by
  refine byl_inj ?_
  rw [byl_step, h1, show byl x.s = [] from List.length_eq_zero_iff.1 (by rw [byl_len]; exact h2), List.append_nil, List.take_append_drop]
theorem chk_lower (z : Int) : ∀ (L : List Ed) (e e' : Int), chkGo z L e = 0 → e' ≤ e → chkGo z L e' = 0
  | [], e, e', _, _ => rfl
  | x :: r, e, e', h, hl => by
    simp only [chkGo] at h ⊢
    split at h
    · omega
    · rw [if_neg (by omega)]; exact h
theorem back_trim (s : ByteArray) : ∀ (L : List Ed) (e : Int), chkGo s.size L e = 0 → 0 ≤ e → e ≤ s.size → backF s (trimGo s L) = backF s L ∧ chkGo s.size (trimGo s L) e = 0 ∧ total (trimGo s L) ≤ total L
  | [], e, _, _, _ => ⟨rfl, rfl, Nat.le_refl _⟩
  | x :: r, e, h, he, hes => by
    simp only [chkGo] at h
    split at h
    · omega
    rename_i hc
    have hx : 0 ≤ x.f ∧ x.f ≤ x.t ∧ x.t ≤ s.size := by omega
    obtain ⟨i1, i2, i3⟩ := back_trim s r x.t h (by omega) (by omega)
    have hlo := back_lo s r x.t h (by omega) (by omega)
    have hr := (rest_ok s r x.t h (by omega) (by omega)).2
    have hs := trim_step s (backF s r) x hx hr hlo.1
    have hle := trimF_le s x hx
    have e1 : backF s (x :: r) = step x (backF s r) := rfl
    simp only [trimGo]
    split
    · rename_i hn
      refine ⟨?_, ?_, by simp only [total]; omega⟩
      · rw [i1, e1, ← hs, step_none _ _ hn.1 hn.2]
      · exact chk_lower s.size _ _ _ i2 (by omega)
    · refine ⟨?_, ?_, by simp only [total]; omega⟩
      · show step (trimF s x) (backF s (trimGo s r)) = _
        rw [i1, e1, hs]
      · simp only [chkGo]
        rw [if_neg (by omega)]
        exact chk_lower s.size _ _ _ i2 (by omega)
end Go.Ex
