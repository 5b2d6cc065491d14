/-
  Tree: the reference's Kids and Own.
-/
import Derived.Test.YtggbpdhhfgmocaaTrH
namespace Go.Ex
open Go.Proofs
set_option linter.unusedVariables false

theorem Has.ends {L : List Nd} {i : Int} (h : Has L i) {E : List Int} (hE : EndsOk L E) : kidsV L i = kch E (nd L i).c.toNat (i + 1) := by
  rw [kidsV, if_pos h, EL_eq hE]
set_option maxHeartbeats 1000000 in
set_option maxRecDepth 10000 in
theorem rkids_any (A : Option Addr) (len cap : Nat) (L : List Nd) (i : Int) (h : Heap) (hA : Sl ndR h A len L) (h2 : len ≤ 2000) (hh : Has L i) :
    CallsH Try.prog 23 #[.slice A len cap, .int .i64 i] h fun v h' => OwnSl (intR .i64) 3 h h' v (kidsV L i) ∧ Grows h h' := by
  refine enter (rep := rep) (m := 9) (ex := []) (cu := []) tysOk Try.func23 rfl (by decide) (rs := [.tmp 4]) rfl rfl [.val (.slice A len cap), .val (.int .i64 i)] rfl ?_
  have hL := hA.len_eq
  have hi := hh.2
  ((repeat' ((conv => whnf); (first | (refine Ar.fit (by omega) ?_) | (refine VC.mk (by (first | omega | rfl | assumption | exact Sl.plain (by assumption) (by omega) | (and_intros <;> first | omega | rfl | assumption | (simp only [List.length_set]; omega) | (simp only [ByteArray.size_extract, ByteArray.size_append]; omega) | (simp only [List.length_cons, List.length_nil]; omega) | (simp only [Int.toNat_natCast, Int.toNat_one, List.length_take, List.length_cons, List.length_nil] at *; omega)))) ?_) | (refine Br.mk ?_ ?_ <;> intro hb <;> (try (first | (exfalso; omega) | exact absurd rfl hb | exact Bool.noConfusion hb | exact absurd (fun e => Bool.noConfusion e) hb | (exfalso; simp only [List.length_cons, List.length_nil] at hb; omega) | (exfalso; simp only [Int.toNat_natCast, Int.toNat_one, List.length_take, List.length_cons, List.length_nil] at hb; omega)))) | (refine XLoad.of (by assumption) rfl rfl (by omega) (by omega) rfl ?_) | (refine New.mk ?_; intro b hb) | (refine New2.mk ?_; intro b c hb hbc) | (refine SameR.same ?_) | (refine Two.mk ?_ ?_) | (refine ed_eql ?_) | (refine ed_neq ?_) | (refine drawn tysOk mixed (by kernel_rfl) ?_) | fail))); all_goals (try (conv => whnf)))
  refine CallK.epoch (fun h1 hq => ends_any A len cap L h1 (hA.grows hq.grows) h2) ?_
  rintro h1 u h3 hq ⟨hg, x, b, E, rfl, hX, hT, hF⟩
  obtain ⟨X, xl, xc, rfl, hE⟩ := hX.sl
  have hg0 := hq.grows.trans hg
  clear hX hq
  rcases b with _ | _
  · have := hT.2 hh.1.root; cases this
  have q1 := hF rfl
  have hl := q1.len
  have hxl := hE.len_eq
  obtain ⟨R, hR⟩ : ∃ R, kch E (nd L i).c.toNat (i + 1) = R := ⟨_, rfl⟩
  rw [hh.ends q1, hR]
  have hms := q1.at_ i (by omega) (by omega)
  have hle := q1.le i (by omega) (by omega)
  ((repeat' ((conv => whnf); (first | (refine Ar.fit (by omega) ?_) | (refine VC.mk (by (first | omega | rfl | assumption | exact Sl.plain (by assumption) (by omega) | (and_intros <;> first | omega | rfl | assumption | (simp only [List.length_set]; omega) | (simp only [ByteArray.size_extract, ByteArray.size_append]; omega) | (simp only [List.length_cons, List.length_nil]; omega) | (simp only [Int.toNat_natCast, Int.toNat_one, List.length_take, List.length_cons, List.length_nil] at *; omega)))) ?_) | (refine Br.mk ?_ ?_ <;> intro hb <;> (try (first | (exfalso; omega) | exact absurd rfl hb | exact Bool.noConfusion hb | exact absurd (fun e => Bool.noConfusion e) hb | (exfalso; simp only [List.length_cons, List.length_nil] at hb; omega) | (exfalso; simp only [Int.toNat_natCast, Int.toNat_one, List.length_take, List.length_cons, List.length_nil] at hb; omega)))) | (refine XLoad.of (by assumption) rfl rfl (by omega) (by omega) rfl ?_) | (refine New.mk ?_; intro b hb) | (refine New2.mk ?_; intro b c hb hbc) | (refine SameR.same ?_) | (refine Two.mk ?_ ?_) | (refine ed_eql ?_) | (refine ed_neq ?_) | (refine drawn tysOk mixed (by kernel_rfl) ?_) | fail))); all_goals (try (conv => whnf)))
  refine loop_rule tysOk [7, 8] (fun x : Option (Nat × Nat) × List Int × Int × Int => [(7, siK 29 x.1 x.2.2.1), (8, .val (.int .i64 x.2.2.2))]) (fun x => siC 29 x.1 x.2.1)
    (fun μ x => x.2.2.1 = x.2.1.length ∧ (x.1 = none → x.2.1 = []) ∧ (∀ b c, x.1 = some (b, c) → h3.size ≤ b) ∧ 0 ≤ x.2.2.2 ∧ x.2.2.1 ≤ x.2.2.2 ∧ ∃ c : Int, Ms L x.2.2.2 c (getI 0 E i) ∧ x.2.1 ++ kch E c.toNat x.2.2.2 = R ∧ μ = c.toNat) (nd L i).c.toNat ⟨none, [], 0, i + 1⟩ ?_
  conv => whnf
  refine ⟨by ((repeat (refine ⟨rfl, ?_⟩)); trivial), trivial, ⟨by simp, by simp, by simp, by dsimp only; omega, by dsimp only; omega, _, hms, hR, rfl⟩, ?_⟩
  rintro μ ⟨o, xs, m, k⟩ ⟨a1, a2, a3, a4, a5, c, a6, a7, a8⟩
  dsimp only at a1 a2 a3 a4 a5 a6 a7 a8 ⊢
  have a9 := Kd.le a6
  have z1 : getI (intR .i64).dflt E i = getI 0 E i := rfl
  have z2 : getI (intR .i64).dflt E k = getI 0 E k := rfl
  rcases a6.cases with ⟨rfl, ek⟩ | ⟨g1, g2, g3, g4, g5, e, g6, g7⟩
  · have a7 : xs = R := by simpa [kch] using a7
    rcases o with _ | ⟨b0, c0⟩
    · have := a2 rfl
      subst this
      dsimp only [siK, siC]
      ((repeat' ((conv => whnf); (first | (refine Ar.fit (by omega) ?_) | (refine VC.mk (by (first | omega | rfl | assumption | exact Sl.plain (by assumption) (by omega) | (and_intros <;> first | omega | rfl | assumption | (simp only [List.length_set]; omega) | (simp only [ByteArray.size_extract, ByteArray.size_append]; omega) | (simp only [List.length_cons, List.length_nil]; omega) | (simp only [Int.toNat_natCast, Int.toNat_one, List.length_take, List.length_cons, List.length_nil] at *; omega)))) ?_) | (refine Br.mk ?_ ?_ <;> intro hb <;> (try (first | (exfalso; omega) | exact absurd rfl hb | exact Bool.noConfusion hb | exact absurd (fun e => Bool.noConfusion e) hb | (exfalso; simp only [List.length_cons, List.length_nil] at hb; omega) | (exfalso; simp only [Int.toNat_natCast, Int.toNat_one, List.length_take, List.length_cons, List.length_nil] at hb; omega)))) | (refine XLoad.of (by assumption) rfl rfl (by omega) (by omega) rfl ?_) | (refine New.mk ?_; intro b hb) | (refine New2.mk ?_; intro b c hb hbc) | (refine SameR.same ?_) | (refine Two.mk ?_ ?_) | (refine ed_eql ?_) | (refine ed_neq ?_) | (refine drawn tysOk mixed (by kernel_rfl) ?_) | fail))); all_goals (try (conv => whnf)))
      rw [← a7]
      exact ⟨fun h' hs => ⟨.nil, hg0.trans hs.grows⟩⟩
    · dsimp only [siK, siC]
      ((repeat' ((conv => whnf); (first | (refine Ar.fit (by omega) ?_) | (refine VC.mk (by (first | omega | rfl | assumption | exact Sl.plain (by assumption) (by omega) | (and_intros <;> first | omega | rfl | assumption | (simp only [List.length_set]; omega) | (simp only [ByteArray.size_extract, ByteArray.size_append]; omega) | (simp only [List.length_cons, List.length_nil]; omega) | (simp only [Int.toNat_natCast, Int.toNat_one, List.length_take, List.length_cons, List.length_nil] at *; omega)))) ?_) | (refine Br.mk ?_ ?_ <;> intro hb <;> (try (first | (exfalso; omega) | exact absurd rfl hb | exact Bool.noConfusion hb | exact absurd (fun e => Bool.noConfusion e) hb | (exfalso; simp only [List.length_cons, List.length_nil] at hb; omega) | (exfalso; simp only [Int.toNat_natCast, Int.toNat_one, List.length_take, List.length_cons, List.length_nil] at hb; omega)))) | (refine XLoad.of (by assumption) rfl rfl (by omega) (by omega) rfl ?_) | (refine New.mk ?_; intro b hb) | (refine New2.mk ?_; intro b c hb hbc) | (refine SameR.same ?_) | (refine Two.mk ?_ ?_) | (refine ed_eql ?_) | (refine ed_neq ?_) | (refine drawn tysOk mixed (by kernel_rfl) ?_) | fail))); all_goals (try (conv => whnf)))
      rw [← a7]
      exact ⟨fun h' hs => ⟨(hs.own (k := 29) rfl a1).base hg0, hg0.trans hs.grows⟩⟩
  · have hge := Kd.ge g6
    have hge2 := Kd.ge g7
    have he : getI 0 E k = e := (q1.at_ k g2 g3).uniq g6
    rw [show c.toNat = (c - 1).toNat + 1 by omega] at a7
    simp only [kch] at a7
    rcases o with _ | ⟨b0, c0⟩
    · have := a2 rfl
      subst this
      dsimp only [siK, siC]
      ((repeat' ((conv => whnf); (first | (refine Ar.fit (by omega) ?_) | (refine VC.mk (by (first | omega | rfl | assumption | exact Sl.plain (by assumption) (by omega) | (and_intros <;> first | omega | rfl | assumption | (simp only [List.length_set]; omega) | (simp only [ByteArray.size_extract, ByteArray.size_append]; omega) | (simp only [List.length_cons, List.length_nil]; omega) | (simp only [Int.toNat_natCast, Int.toNat_one, List.length_take, List.length_cons, List.length_nil] at *; omega)))) ?_) | (refine Br.mk ?_ ?_ <;> intro hb <;> (try (first | (exfalso; omega) | exact absurd rfl hb | exact Bool.noConfusion hb | exact absurd (fun e => Bool.noConfusion e) hb | (exfalso; simp only [List.length_cons, List.length_nil] at hb; omega) | (exfalso; simp only [Int.toNat_natCast, Int.toNat_one, List.length_take, List.length_cons, List.length_nil] at hb; omega)))) | (refine XLoad.of (by assumption) rfl rfl (by omega) (by omega) rfl ?_) | (refine New.mk ?_; intro b hb) | (refine New2.mk ?_; intro b c hb hbc) | (refine SameR.same ?_) | (refine Two.mk ?_ ?_) | (refine ed_eql ?_) | (refine ed_neq ?_) | (refine drawn tysOk mixed (by kernel_rfl) ?_) | fail))); all_goals (try (conv => whnf)))
      refine ⟨μ - 1, ⟨some (b, c), [k], 1, getI 0 E k⟩, ⟨by simp, fun e => (by cases e), fun b' c' e => (by cases e; exact hb), by dsimp only; omega, by dsimp only; omega, _, by dsimp only; rw [he]; exact g7, a7, by omega⟩, by omega, by ((repeat (refine ⟨rfl, ?_⟩)); trivial), rfl, rfl, ⟨rfl, rfl, trivial⟩⟩
    · have hb0 := a3 b0 c0 rfl
      dsimp only [siK, siC]
      ((repeat' ((conv => whnf); (first | (refine Ar.fit (by omega) ?_) | (refine VC.mk (by (first | omega | rfl | assumption | exact Sl.plain (by assumption) (by omega) | (and_intros <;> first | omega | rfl | assumption | (simp only [List.length_set]; omega) | (simp only [ByteArray.size_extract, ByteArray.size_append]; omega) | (simp only [List.length_cons, List.length_nil]; omega) | (simp only [Int.toNat_natCast, Int.toNat_one, List.length_take, List.length_cons, List.length_nil] at *; omega)))) ?_) | (refine Br.mk ?_ ?_ <;> intro hb <;> (try (first | (exfalso; omega) | exact absurd rfl hb | exact Bool.noConfusion hb | exact absurd (fun e => Bool.noConfusion e) hb | (exfalso; simp only [List.length_cons, List.length_nil] at hb; omega) | (exfalso; simp only [Int.toNat_natCast, Int.toNat_one, List.length_take, List.length_cons, List.length_nil] at hb; omega)))) | (refine XLoad.of (by assumption) rfl rfl (by omega) (by omega) rfl ?_) | (refine New.mk ?_; intro b hb) | (refine New2.mk ?_; intro b c hb hbc) | (refine SameR.same ?_) | (refine Two.mk ?_ ?_) | (refine ed_eql ?_) | (refine ed_neq ?_) | (refine drawn tysOk mixed (by kernel_rfl) ?_) | fail))); all_goals (try (conv => whnf)))
      have hxs : List.take m.toNat xs = xs := List.take_of_length_le (by omega)
      refine ⟨μ - 1, ⟨some (b, c), List.take m.toNat xs ++ [k], m + 1, getI 0 E k⟩, ⟨by dsimp only; rw [hxs, List.length_append, List.length_singleton]; omega, fun e => (by cases e), fun b' c' e => (by cases e; exact hb), by dsimp only; omega, by dsimp only; omega, _, by dsimp only; rw [he]; exact g7, by dsimp only; rw [hxs, List.append_assoc]; exact a7, by omega⟩, by omega, by ((repeat (refine ⟨rfl, ?_⟩)); trivial), rfl, rfl, ⟨rfl, rfl, trivial⟩⟩
/-- a token lies in none of some kids -/
def mineB (L : List Nd) (K : List Int) (t : Int) : Bool := K.all fun k => !(decide ((nd L k).f ≤ t) && decide (t < (nd L k).t))
theorem rng_mem {a b x : Int} (h : x ∈ rng a b) : a ≤ x ∧ x < b := by
  simp only [rng, List.mem_map, List.mem_range] at h
  obtain ⟨j, hj, rfl⟩ := h
  omega
theorem rng_split {a m b : Int} (h1 : a ≤ m) (h2 : m ≤ b) : rng a b = rng a m ++ rng m b := by
  have key : ∀ (n : Nat) (a : Int), a + n = m → rng a b = rng a m ++ rng m b := by
    intro n
    induction n with
    | zero => intro a h; rw [rng_nil (a := a) (b := m) (by omega), show a = m by omega]; rfl
    | succ n ih =>
      intro a h
      rw [rng_cons (a := a) (b := b) (by omega), rng_cons (a := a) (b := m) (by omega), ih (a + 1) (by omega)]
      rfl
  exact key (m - a).toNat a (by omega)
theorem Kd.kids_ge {L : List Nd} {n : Int} {E : List Int} (hE : EndsOk L E) {p k c d e : Int} (h : Kd L (lcP L n) (pcP L) p k c d e) : ∀ q ∈ kch E c.toNat k, d ≤ (nd L q).f ∧ 0 ≤ q ∧ q < L.length := by
  induction h with
  | nil => intro q hq; simp [kch] at hq
  | cons p k c d m e hc h0 hk h3 h4 h1 h2 i1 i2 =>
    intro q hq
    rw [show c.toNat = (c - 1).toNat + 1 by omega] at hq
    have em : getI 0 E k = m := Kd.uniq (hE.at_ k h0 hk) h1
    simp only [kch, em] at hq
    rcases List.mem_cons.1 hq with rfl | hq
    · exact ⟨h3.1, h0, hk⟩
    · have := i2 q hq
      have h5 : (nd L k).f ≤ (nd L k).t := h4.2.2.2.2.1
      have := h3.1
      omega
theorem mine_cons (L : List Nd) (k : Int) (K : List Int) (t : Int) : mineB L (k :: K) t = (!(decide ((nd L k).f ≤ t) && decide (t < (nd L k).t)) && mineB L K t) := by
  simp only [mineB, List.all_cons]
theorem mine_all {L : List Nd} {K : List Int} {t d : Int} (h : ∀ q ∈ K, d ≤ (nd L q).f) (ht : t < d) : mineB L K t = true := by
  simp only [mineB, List.all_eq_true]
  intro q hq
  have := h q hq
  simp; omega
theorem Kd.own_eq {L : List Nd} {n : Int} {E : List Int} (hE : EndsOk L E) {p k c d e : Int} (h : Kd L (lcP L n) (pcP L) p k c d e) : d ≤ (nd L p).t → ownGo L E (nd L p).t c.toNat k d = (rng d (nd L p).t).filter (mineB L (kch E c.toNat k)) := by
  induction h with
  | nil p k d =>
    intro hd
    simp only [Int.toNat_zero, ownGo, kch]
    refine (List.filter_eq_self.2 fun x hx => ?_).symm
    rfl
  | cons p k c d m e hc h0 hk h3 h4 h1 h2 i1 i2 =>
    intro hd
    have em : getI 0 E k = m := Kd.uniq (hE.at_ k h0 hk) h1
    have hge := h2.kids_ge hE
    have h5 : (nd L k).f ≤ (nd L k).t := h4.2.2.2.2.1
    obtain ⟨h6, h7, h8⟩ := h3
    have i2 := i2 h7
    rw [show c.toNat = (c - 1).toNat + 1 by omega]
    simp only [ownGo, kch, em]
    rw [show max (max d (nd L k).f) (nd L k).t = (nd L k).t by omega, i2]
    rw [rng_split (a := d) (m := (nd L k).f) (b := (nd L p).t) (by omega) (by omega), rng_split (a := (nd L k).f) (m := (nd L k).t) (b := (nd L p).t) (by omega) (by omega), List.filter_append, List.filter_append]
    have e1 : (rng d (nd L k).f).filter (mineB L (k :: kch E (c - 1).toNat m)) = rng d (nd L k).f := List.filter_eq_self.2 fun x hx => by
      have := rng_mem hx
      exact mine_all (d := (nd L k).f) (fun q hq => by
        rcases List.mem_cons.1 hq with rfl | hq
        · omega
        · have := hge q hq; omega) (by omega)
    have e2 : (rng (nd L k).f (nd L k).t).filter (mineB L (k :: kch E (c - 1).toNat m)) = [] := List.filter_eq_nil_iff.2 fun x hx => by
      have := rng_mem hx
      rw [mine_cons]
      simp; omega
    have e3 : (rng (nd L k).t (nd L p).t).filter (mineB L (k :: kch E (c - 1).toNat m)) = (rng (nd L k).t (nd L p).t).filter (mineB L (kch E (c - 1).toNat m)) := List.filter_congr fun x hx => by
      have := rng_mem hx
      rw [mine_cons]
      have : decide (x < (nd L k).t) = false := by simp; omega
      simp [this]
    rw [e1, e2, e3, List.nil_append]
theorem Has.kd {L : List Nd} {i : Int} (h : Has L i) : ∃ e, Kd L (lcP L mostT) (pcP L) i (i + 1) (nd L i).c (nd L i).f e ∧ lcP L mostT i := by
  obtain ⟨ht, h0, h1⟩ := h
  by_cases hi : i = 0
  · subst hi; exact ⟨_, ht.2.2, ht.2.1⟩
  · obtain ⟨a, b, e, c, d⟩ := ht.2.2.nest i (by omega) h1
    exact ⟨e, d, a⟩
theorem Has.own {L : List Nd} {i : Int} (h : Has L i) : ownV L i = (rng (nd L i).f (nd L i).t).filter (mineB L (kidsV L i)) := by
  obtain ⟨E, U, D, p1, p2, p3, p4⟩ := h.1.root.all
  obtain ⟨e, hk, hl⟩ := h.kd
  rw [ownV, if_pos h, EL_eq p1, h.ends p1]
  exact hk.own_eq p1 hl.2.2.2.2.1
theorem take_snoc (K : List Int) (n : Int) (h0 : 0 ≤ n) (h1 : n < K.length) : K.take (n + 1).toNat = K.take n.toNat ++ [getI 0 K n] := by
  have h2 : n.toNat < K.length := by omega
  rw [show (n + 1).toNat = n.toNat + 1 by omega, List.take_add_one]
  simp [getI, List.getD, h2]
theorem mine_snoc (L : List Nd) (K : List Int) (n t : Int) (h0 : 0 ≤ n) (h1 : n < K.length) : mineB L (K.take (n + 1).toNat) t = (mineB L (K.take n.toNat) t && !(decide ((nd L (getI 0 K n)).f ≤ t) && decide (t < (nd L (getI 0 K n)).t))) := by
  rw [take_snoc K n h0 h1]
  simp [mineB, List.all_append]
structure OwS where
  o : Option (Nat × Nat)
  xs : List Int
  m : Int
  t : Int
set_option maxHeartbeats 4000000 in
set_option maxRecDepth 10000 in
theorem rown_any (A : Option Addr) (len cap : Nat) (L : List Nd) (i : Int) (h : Heap) (hA : Sl ndR h A len L) (h2 : len ≤ 2000) (hh : Has L i) :
    CallsH Try.prog 24 #[.slice A len cap, .int .i64 i] h fun v h' => OwnSl (intR .i64) 3 h h' v (ownV L i) ∧ Grows h h' := by
  refine enter (rep := rep) (m := 10) (ex := []) (cu := []) tysOk Try.func24 rfl (by decide) (rs := [.tmp 4]) rfl rfl [.val (.slice A len cap), .val (.int .i64 i)] rfl ?_
  have hL := hA.len_eq
  have hi := hh.2
  obtain ⟨E, U, D, p1, p2, p3, p4⟩ := hh.1.root.all
  obtain ⟨e0, hkd, hlc⟩ := hh.kd
  have hkk := hkd.kids_ge p1
  rw [← hh.ends p1] at hkk
  rw [hh.own]
  simp only [lcP, mostT] at hlc
  simp only [nd] at hlc ⊢
  obtain ⟨R, hR⟩ : ∃ R, (rng (getI ndR.dflt L i).f (getI ndR.dflt L i).t).filter (mineB L (kidsV L i)) = R := ⟨_, rfl⟩
  rw [hR]
  ((repeat' ((conv => whnf); (first | (refine Ar.fit (by omega) ?_) | (refine VC.mk (by (first | omega | rfl | assumption | exact Sl.plain (by assumption) (by omega) | (and_intros <;> first | omega | rfl | assumption | (simp only [List.length_set]; omega) | (simp only [ByteArray.size_extract, ByteArray.size_append]; omega) | (simp only [List.length_cons, List.length_nil]; omega) | (simp only [Int.toNat_natCast, Int.toNat_one, List.length_take, List.length_cons, List.length_nil] at *; omega)))) ?_) | (refine Br.mk ?_ ?_ <;> intro hb <;> (try (first | (exfalso; omega) | exact absurd rfl hb | exact Bool.noConfusion hb | exact absurd (fun e => Bool.noConfusion e) hb | (exfalso; simp only [List.length_cons, List.length_nil] at hb; omega) | (exfalso; simp only [Int.toNat_natCast, Int.toNat_one, List.length_take, List.length_cons, List.length_nil] at hb; omega)))) | (refine XLoad.of (by assumption) rfl rfl (by omega) (by omega) rfl ?_) | (refine New.mk ?_; intro b hb) | (refine New2.mk ?_; intro b c hb hbc) | (refine SameR.same ?_) | (refine Two.mk ?_ ?_) | (refine ed_eql ?_) | (refine ed_neq ?_) | (refine drawn tysOk mixed (by kernel_rfl) ?_) | fail))); all_goals (try (conv => whnf)))
  refine CallK.epoch (fun h1 hq => rkids_any A len cap L i h1 (hA.grows hq.grows) h2 hh) ?_
  rintro h1 u h3 hq ⟨hX, hg⟩
  obtain ⟨X, xl, xc, rfl, hE⟩ := hX.sl
  have hg0 := hq.grows.trans hg
  have hA2 := hA.grows hg0
  clear hX hq
  generalize kidsV L i = K at *
  have hxl := hE.len_eq
  have hsm := hE.small
  ((repeat' ((conv => whnf); (first | (refine Ar.fit (by omega) ?_) | (refine VC.mk (by (first | omega | rfl | assumption | exact Sl.plain (by assumption) (by omega) | (and_intros <;> first | omega | rfl | assumption | (simp only [List.length_set]; omega) | (simp only [ByteArray.size_extract, ByteArray.size_append]; omega) | (simp only [List.length_cons, List.length_nil]; omega) | (simp only [Int.toNat_natCast, Int.toNat_one, List.length_take, List.length_cons, List.length_nil] at *; omega)))) ?_) | (refine Br.mk ?_ ?_ <;> intro hb <;> (try (first | (exfalso; omega) | exact absurd rfl hb | exact Bool.noConfusion hb | exact absurd (fun e => Bool.noConfusion e) hb | (exfalso; simp only [List.length_cons, List.length_nil] at hb; omega) | (exfalso; simp only [Int.toNat_natCast, Int.toNat_one, List.length_take, List.length_cons, List.length_nil] at hb; omega)))) | (refine XLoad.of (by assumption) rfl rfl (by omega) (by omega) rfl ?_) | (refine New.mk ?_; intro b hb) | (refine New2.mk ?_; intro b c hb hbc) | (refine SameR.same ?_) | (refine Two.mk ?_ ?_) | (refine ed_eql ?_) | (refine ed_neq ?_) | (refine drawn tysOk mixed (by kernel_rfl) ?_) | fail))); all_goals (try (conv => whnf)))
  refine loop_rule tysOk [6, 7] (fun x : OwS => [(6, siK 59 x.o x.m), (7, .val (.int .i64 x.t))]) (fun x => siC 59 x.o x.xs)
    (fun μ x => x.m = x.xs.length ∧ (x.o = none → x.xs = []) ∧ (∀ b c, x.o = some (b, c) → h3.size ≤ b) ∧ (getI ndR.dflt L i).f ≤ x.t ∧ x.t ≤ (getI ndR.dflt L i).t ∧ x.m ≤ x.t ∧ x.xs ++ (rng x.t (getI ndR.dflt L i).t).filter (mineB L K) = R ∧ μ = ((getI ndR.dflt L i).t - x.t).toNat) ((getI ndR.dflt L i).t - (getI ndR.dflt L i).f).toNat ⟨none, [], 0, (getI ndR.dflt L i).f⟩ ?_
  conv => whnf
  refine ⟨by ((repeat (refine ⟨rfl, ?_⟩)); trivial), trivial, ⟨by simp, by simp, by simp, Int.le_refl _, by dsimp only; omega, by dsimp only; omega, hR, rfl⟩, ?_⟩
  rintro μ ⟨o, xs, m, t⟩ ⟨a1, a2, a3, a4, a5, a6, a7, a8⟩
  dsimp only at a1 a2 a3 a4 a5 a6 a7 a8 ⊢
  by_cases ht : t < (getI ndR.dflt L i).t
  · rw [rng_cons ht, List.filter_cons] at a7
    rcases o with _ | ⟨b0, c0⟩
    · have a2 := a2 rfl
      subst a2
      dsimp only [siK, siC]
      ((repeat' ((conv => whnf); (first | (refine Ar.fit (by omega) ?_) | (refine VC.mk (by (first | omega | rfl | assumption | exact Sl.plain (by assumption) (by omega) | (and_intros <;> first | omega | rfl | assumption | (simp only [List.length_set]; omega) | (simp only [ByteArray.size_extract, ByteArray.size_append]; omega) | (simp only [List.length_cons, List.length_nil]; omega) | (simp only [Int.toNat_natCast, Int.toNat_one, List.length_take, List.length_cons, List.length_nil] at *; omega)))) ?_) | (refine Br.mk ?_ ?_ <;> intro hb <;> (try (first | (exfalso; omega) | exact absurd rfl hb | exact Bool.noConfusion hb | exact absurd (fun e => Bool.noConfusion e) hb | (exfalso; simp only [List.length_cons, List.length_nil] at hb; omega) | (exfalso; simp only [Int.toNat_natCast, Int.toNat_one, List.length_take, List.length_cons, List.length_nil] at hb; omega)))) | (refine XLoad.of (by assumption) rfl rfl (by omega) (by omega) rfl ?_) | (refine New.mk ?_; intro b hb) | (refine New2.mk ?_; intro b c hb hbc) | (refine SameR.same ?_) | (refine Two.mk ?_ ?_) | (refine ed_eql ?_) | (refine ed_neq ?_) | (refine drawn tysOk mixed (by kernel_rfl) ?_) | fail))); all_goals (try (conv => whnf)))
      refine loop_rule tysOk [8, 9] (fun x : Bool × Int => [(8, .val (.bool x.1)), (9, .val (.int .i64 x.2))]) (fun x => []) (fun μ x => 0 ≤ x.2 ∧ x.2 ≤ xl ∧ μ = (xl - x.2).toNat ∧ x.1 = mineB L (K.take x.2.toNat) t) xl (true, 0) ?_
      conv => whnf
      refine ⟨by ((repeat (refine ⟨rfl, ?_⟩)); trivial), trivial, ⟨by simp, by simp, by simp, by simp [mineB]⟩, ?_⟩
      rintro ν ⟨bb, n⟩ ⟨c1, c2, c3, c4⟩
      dsimp only at c1 c2 c3 c4 ⊢
      have z1 : getI (intR .i64).dflt K n = getI 0 K n := rfl
      by_cases hn : n < xl
      · have hq := hkk (getI (intR .i64).dflt K n) (getI_mem _ _ _ c1 (by omega))
        have hst := mine_snoc L K n t c1 (by omega)
        rw [← c4, ← z1] at hst
        simp only [nd] at hst
        ((repeat' ((conv => whnf); (first | (refine Ar.fit (by omega) ?_) | (refine VC.mk (by (first | omega | rfl | assumption | exact Sl.plain (by assumption) (by omega) | (and_intros <;> first | omega | rfl | assumption | (simp only [List.length_set]; omega) | (simp only [ByteArray.size_extract, ByteArray.size_append]; omega) | (simp only [List.length_cons, List.length_nil]; omega) | (simp only [Int.toNat_natCast, Int.toNat_one, List.length_take, List.length_cons, List.length_nil] at *; omega)))) ?_) | (refine Br.mk ?_ ?_ <;> intro hb <;> (try (first | (exfalso; omega) | exact absurd rfl hb | exact Bool.noConfusion hb | exact absurd (fun e => Bool.noConfusion e) hb | (exfalso; simp only [List.length_cons, List.length_nil] at hb; omega) | (exfalso; simp only [Int.toNat_natCast, Int.toNat_one, List.length_take, List.length_cons, List.length_nil] at hb; omega)))) | (refine XLoad.of (by assumption) rfl rfl (by omega) (by omega) rfl ?_) | (refine New.mk ?_; intro b hb) | (refine New2.mk ?_; intro b c hb hbc) | (refine SameR.same ?_) | (refine Two.mk ?_ ?_) | (refine ed_eql ?_) | (refine ed_neq ?_) | (refine drawn tysOk mixed (by kernel_rfl) ?_) | fail))); all_goals (try (conv => whnf)))
        · refine ⟨ν - 1, ⟨false, n + 1⟩, ⟨by dsimp only; omega, by dsimp only; omega, by dsimp only; omega, ?_⟩, by omega, by ((repeat (refine ⟨rfl, ?_⟩)); trivial), rfl, rfl, trivial⟩
          dsimp only
          rw [hst]; simp; omega
        all_goals
          refine ⟨ν - 1, ⟨bb, n + 1⟩, ⟨by dsimp only; omega, by dsimp only; omega, by dsimp only; omega, ?_⟩, by omega, by ((repeat (refine ⟨rfl, ?_⟩)); trivial), rfl, rfl, trivial⟩
          dsimp only
          rw [hst]; simp; omega
      · have e : K.take n.toNat = K := List.take_of_length_le (by omega)
        rw [e] at c4
        rw [← c4] at a7
        rcases bb with _ | _
        · have a7 : [] ++ List.filter (mineB L K) (rng (t + 1) (getI ndR.dflt L i).t) = R := by simpa using a7
          ((repeat' ((conv => whnf); (first | (refine Ar.fit (by omega) ?_) | (refine VC.mk (by (first | omega | rfl | assumption | exact Sl.plain (by assumption) (by omega) | (and_intros <;> first | omega | rfl | assumption | (simp only [List.length_set]; omega) | (simp only [ByteArray.size_extract, ByteArray.size_append]; omega) | (simp only [List.length_cons, List.length_nil]; omega) | (simp only [Int.toNat_natCast, Int.toNat_one, List.length_take, List.length_cons, List.length_nil] at *; omega)))) ?_) | (refine Br.mk ?_ ?_ <;> intro hb <;> (try (first | (exfalso; omega) | exact absurd rfl hb | exact Bool.noConfusion hb | exact absurd (fun e => Bool.noConfusion e) hb | (exfalso; simp only [List.length_cons, List.length_nil] at hb; omega) | (exfalso; simp only [Int.toNat_natCast, Int.toNat_one, List.length_take, List.length_cons, List.length_nil] at hb; omega)))) | (refine XLoad.of (by assumption) rfl rfl (by omega) (by omega) rfl ?_) | (refine New.mk ?_; intro b hb) | (refine New2.mk ?_; intro b c hb hbc) | (refine SameR.same ?_) | (refine Two.mk ?_ ?_) | (refine ed_eql ?_) | (refine ed_neq ?_) | (refine drawn tysOk mixed (by kernel_rfl) ?_) | fail))); all_goals (try (conv => whnf)))
          refine ⟨μ - 1, ⟨none, [], m, t + 1⟩, ⟨a1, fun _ => rfl, fun b c e => (by cases e), by dsimp only; omega, by dsimp only; omega, by dsimp only; omega, a7, by dsimp only; omega⟩, by omega, by ((repeat (refine ⟨rfl, ?_⟩)); trivial), rfl, rfl, trivial⟩
        · have a7 : [] ++ t :: List.filter (mineB L K) (rng (t + 1) (getI ndR.dflt L i).t) = R := by simpa using a7
          ((repeat' ((conv => whnf); (first | (refine Ar.fit (by omega) ?_) | (refine VC.mk (by (first | omega | rfl | assumption | exact Sl.plain (by assumption) (by omega) | (and_intros <;> first | omega | rfl | assumption | (simp only [List.length_set]; omega) | (simp only [ByteArray.size_extract, ByteArray.size_append]; omega) | (simp only [List.length_cons, List.length_nil]; omega) | (simp only [Int.toNat_natCast, Int.toNat_one, List.length_take, List.length_cons, List.length_nil] at *; omega)))) ?_) | (refine Br.mk ?_ ?_ <;> intro hb <;> (try (first | (exfalso; omega) | exact absurd rfl hb | exact Bool.noConfusion hb | exact absurd (fun e => Bool.noConfusion e) hb | (exfalso; simp only [List.length_cons, List.length_nil] at hb; omega) | (exfalso; simp only [Int.toNat_natCast, Int.toNat_one, List.length_take, List.length_cons, List.length_nil] at hb; omega)))) | (refine XLoad.of (by assumption) rfl rfl (by omega) (by omega) rfl ?_) | (refine New.mk ?_; intro b hb) | (refine New2.mk ?_; intro b c hb hbc) | (refine SameR.same ?_) | (refine Two.mk ?_ ?_) | (refine ed_eql ?_) | (refine ed_neq ?_) | (refine drawn tysOk mixed (by kernel_rfl) ?_) | fail))); all_goals (try (conv => whnf)))
          refine ⟨μ - 1, ⟨some (b, c), [t], 1, t + 1⟩, ⟨by simp, fun e => (by cases e), fun b' c' e => (by cases e; exact hb), by dsimp only; omega, by dsimp only; omega, by dsimp only; omega, a7, by dsimp only; omega⟩, by omega, by ((repeat (refine ⟨rfl, ?_⟩)); trivial), rfl, rfl, ⟨rfl, rfl, trivial⟩⟩
    · have hb0 := a3 b0 c0 rfl
      dsimp only [siK, siC]
      ((repeat' ((conv => whnf); (first | (refine Ar.fit (by omega) ?_) | (refine VC.mk (by (first | omega | rfl | assumption | exact Sl.plain (by assumption) (by omega) | (and_intros <;> first | omega | rfl | assumption | (simp only [List.length_set]; omega) | (simp only [ByteArray.size_extract, ByteArray.size_append]; omega) | (simp only [List.length_cons, List.length_nil]; omega) | (simp only [Int.toNat_natCast, Int.toNat_one, List.length_take, List.length_cons, List.length_nil] at *; omega)))) ?_) | (refine Br.mk ?_ ?_ <;> intro hb <;> (try (first | (exfalso; omega) | exact absurd rfl hb | exact Bool.noConfusion hb | exact absurd (fun e => Bool.noConfusion e) hb | (exfalso; simp only [List.length_cons, List.length_nil] at hb; omega) | (exfalso; simp only [Int.toNat_natCast, Int.toNat_one, List.length_take, List.length_cons, List.length_nil] at hb; omega)))) | (refine XLoad.of (by assumption) rfl rfl (by omega) (by omega) rfl ?_) | (refine New.mk ?_; intro b hb) | (refine New2.mk ?_; intro b c hb hbc) | (refine SameR.same ?_) | (refine Two.mk ?_ ?_) | (refine ed_eql ?_) | (refine ed_neq ?_) | (refine drawn tysOk mixed (by kernel_rfl) ?_) | fail))); all_goals (try (conv => whnf)))
      refine loop_rule tysOk [8, 9] (fun x : Bool × Int => [(8, .val (.bool x.1)), (9, .val (.int .i64 x.2))]) (fun x => [(59, b0, .arr 3 (intR .i64) xs c0)]) (fun μ x => 0 ≤ x.2 ∧ x.2 ≤ xl ∧ μ = (xl - x.2).toNat ∧ x.1 = mineB L (K.take x.2.toNat) t) xl (true, 0) ?_
      conv => whnf
      refine ⟨by ((repeat (refine ⟨rfl, ?_⟩)); trivial), ⟨rfl, rfl, trivial⟩, ⟨by simp, by simp, by simp, by simp [mineB]⟩, ?_⟩
      rintro ν ⟨bb, n⟩ ⟨c1, c2, c3, c4⟩
      dsimp only at c1 c2 c3 c4 ⊢
      have z1 : getI (intR .i64).dflt K n = getI 0 K n := rfl
      by_cases hn : n < xl
      · have hq := hkk (getI (intR .i64).dflt K n) (getI_mem _ _ _ c1 (by omega))
        have hst := mine_snoc L K n t c1 (by omega)
        rw [← c4, ← z1] at hst
        simp only [nd] at hst
        ((repeat' ((conv => whnf); (first | (refine Ar.fit (by omega) ?_) | (refine VC.mk (by (first | omega | rfl | assumption | exact Sl.plain (by assumption) (by omega) | (and_intros <;> first | omega | rfl | assumption | (simp only [List.length_set]; omega) | (simp only [ByteArray.size_extract, ByteArray.size_append]; omega) | (simp only [List.length_cons, List.length_nil]; omega) | (simp only [Int.toNat_natCast, Int.toNat_one, List.length_take, List.length_cons, List.length_nil] at *; omega)))) ?_) | (refine Br.mk ?_ ?_ <;> intro hb <;> (try (first | (exfalso; omega) | exact absurd rfl hb | exact Bool.noConfusion hb | exact absurd (fun e => Bool.noConfusion e) hb | (exfalso; simp only [List.length_cons, List.length_nil] at hb; omega) | (exfalso; simp only [Int.toNat_natCast, Int.toNat_one, List.length_take, List.length_cons, List.length_nil] at hb; omega)))) | (refine XLoad.of (by assumption) rfl rfl (by omega) (by omega) rfl ?_) | (refine New.mk ?_; intro b hb) | (refine New2.mk ?_; intro b c hb hbc) | (refine SameR.same ?_) | (refine Two.mk ?_ ?_) | (refine ed_eql ?_) | (refine ed_neq ?_) | (refine drawn tysOk mixed (by kernel_rfl) ?_) | fail))); all_goals (try (conv => whnf)))
        · refine ⟨ν - 1, ⟨false, n + 1⟩, ⟨by dsimp only; omega, by dsimp only; omega, by dsimp only; omega, ?_⟩, by omega, by ((repeat (refine ⟨rfl, ?_⟩)); trivial), rfl, rfl, ⟨rfl, rfl, trivial⟩⟩
          dsimp only
          rw [hst]; simp; omega
        all_goals
          refine ⟨ν - 1, ⟨bb, n + 1⟩, ⟨by dsimp only; omega, by dsimp only; omega, by dsimp only; omega, ?_⟩, by omega, by ((repeat (refine ⟨rfl, ?_⟩)); trivial), rfl, rfl, ⟨rfl, rfl, trivial⟩⟩
          dsimp only
          rw [hst]; simp; omega
      · have e : K.take n.toNat = K := List.take_of_length_le (by omega)
        rw [e] at c4
        rw [← c4] at a7
        rcases bb with _ | _
        · have a7 : xs ++ List.filter (mineB L K) (rng (t + 1) (getI ndR.dflt L i).t) = R := by simpa using a7
          ((repeat' ((conv => whnf); (first | (refine Ar.fit (by omega) ?_) | (refine VC.mk (by (first | omega | rfl | assumption | exact Sl.plain (by assumption) (by omega) | (and_intros <;> first | omega | rfl | assumption | (simp only [List.length_set]; omega) | (simp only [ByteArray.size_extract, ByteArray.size_append]; omega) | (simp only [List.length_cons, List.length_nil]; omega) | (simp only [Int.toNat_natCast, Int.toNat_one, List.length_take, List.length_cons, List.length_nil] at *; omega)))) ?_) | (refine Br.mk ?_ ?_ <;> intro hb <;> (try (first | (exfalso; omega) | exact absurd rfl hb | exact Bool.noConfusion hb | exact absurd (fun e => Bool.noConfusion e) hb | (exfalso; simp only [List.length_cons, List.length_nil] at hb; omega) | (exfalso; simp only [Int.toNat_natCast, Int.toNat_one, List.length_take, List.length_cons, List.length_nil] at hb; omega)))) | (refine XLoad.of (by assumption) rfl rfl (by omega) (by omega) rfl ?_) | (refine New.mk ?_; intro b hb) | (refine New2.mk ?_; intro b c hb hbc) | (refine SameR.same ?_) | (refine Two.mk ?_ ?_) | (refine ed_eql ?_) | (refine ed_neq ?_) | (refine drawn tysOk mixed (by kernel_rfl) ?_) | fail))); all_goals (try (conv => whnf)))
          refine ⟨μ - 1, ⟨some (b0, c0), xs, m, t + 1⟩, ⟨a1, fun e => (by cases e), a3, by dsimp only; omega, by dsimp only; omega, by dsimp only; omega, a7, by dsimp only; omega⟩, by omega, by ((repeat (refine ⟨rfl, ?_⟩)); trivial), rfl, rfl, ⟨rfl, rfl, trivial⟩⟩
        · have a7 : xs ++ t :: List.filter (mineB L K) (rng (t + 1) (getI ndR.dflt L i).t) = R := by simpa using a7
          ((repeat' ((conv => whnf); (first | (refine Ar.fit (by omega) ?_) | (refine VC.mk (by (first | omega | rfl | assumption | exact Sl.plain (by assumption) (by omega) | (and_intros <;> first | omega | rfl | assumption | (simp only [List.length_set]; omega) | (simp only [ByteArray.size_extract, ByteArray.size_append]; omega) | (simp only [List.length_cons, List.length_nil]; omega) | (simp only [Int.toNat_natCast, Int.toNat_one, List.length_take, List.length_cons, List.length_nil] at *; omega)))) ?_) | (refine Br.mk ?_ ?_ <;> intro hb <;> (try (first | (exfalso; omega) | exact absurd rfl hb | exact Bool.noConfusion hb | exact absurd (fun e => Bool.noConfusion e) hb | (exfalso; simp only [List.length_cons, List.length_nil] at hb; omega) | (exfalso; simp only [Int.toNat_natCast, Int.toNat_one, List.length_take, List.length_cons, List.length_nil] at hb; omega)))) | (refine XLoad.of (by assumption) rfl rfl (by omega) (by omega) rfl ?_) | (refine New.mk ?_; intro b hb) | (refine New2.mk ?_; intro b c hb hbc) | (refine SameR.same ?_) | (refine Two.mk ?_ ?_) | (refine ed_eql ?_) | (refine ed_neq ?_) | (refine drawn tysOk mixed (by kernel_rfl) ?_) | fail))); all_goals (try (conv => whnf)))
          have hxs : List.take m.toNat xs = xs := List.take_of_length_le (by omega)
          refine ⟨μ - 1, ⟨some (b, c), List.take m.toNat xs ++ [t], m + 1, t + 1⟩, ⟨by dsimp only; rw [hxs, List.length_append, List.length_singleton]; omega, fun e => (by cases e), fun b' c' e => (by cases e; exact hb), by dsimp only; omega, by dsimp only; omega, by dsimp only; omega, by dsimp only; rw [hxs, List.append_assoc]; exact a7, by dsimp only; omega⟩, by omega, by ((repeat (refine ⟨rfl, ?_⟩)); trivial), rfl, rfl, ⟨rfl, rfl, trivial⟩⟩
  · rw [rng_nil (by omega), List.filter_nil, List.append_nil] at a7
    rcases o with _ | ⟨b0, c0⟩
    · have := a2 rfl
      subst this
      dsimp only [siK, siC]
      ((repeat' ((conv => whnf); (first | (refine Ar.fit (by omega) ?_) | (refine VC.mk (by (first | omega | rfl | assumption | exact Sl.plain (by assumption) (by omega) | (and_intros <;> first | omega | rfl | assumption | (simp only [List.length_set]; omega) | (simp only [ByteArray.size_extract, ByteArray.size_append]; omega) | (simp only [List.length_cons, List.length_nil]; omega) | (simp only [Int.toNat_natCast, Int.toNat_one, List.length_take, List.length_cons, List.length_nil] at *; omega)))) ?_) | (refine Br.mk ?_ ?_ <;> intro hb <;> (try (first | (exfalso; omega) | exact absurd rfl hb | exact Bool.noConfusion hb | exact absurd (fun e => Bool.noConfusion e) hb | (exfalso; simp only [List.length_cons, List.length_nil] at hb; omega) | (exfalso; simp only [Int.toNat_natCast, Int.toNat_one, List.length_take, List.length_cons, List.length_nil] at hb; omega)))) | (refine XLoad.of (by assumption) rfl rfl (by omega) (by omega) rfl ?_) | (refine New.mk ?_; intro b hb) | (refine New2.mk ?_; intro b c hb hbc) | (refine SameR.same ?_) | (refine Two.mk ?_ ?_) | (refine ed_eql ?_) | (refine ed_neq ?_) | (refine drawn tysOk mixed (by kernel_rfl) ?_) | fail))); all_goals (try (conv => whnf)))
      rw [← a7]
      exact ⟨fun h' hs => ⟨.nil, hg0.trans hs.grows⟩⟩
    · dsimp only [siK, siC]
      ((repeat' ((conv => whnf); (first | (refine Ar.fit (by omega) ?_) | (refine VC.mk (by (first | omega | rfl | assumption | exact Sl.plain (by assumption) (by omega) | (and_intros <;> first | omega | rfl | assumption | (simp only [List.length_set]; omega) | (simp only [ByteArray.size_extract, ByteArray.size_append]; omega) | (simp only [List.length_cons, List.length_nil]; omega) | (simp only [Int.toNat_natCast, Int.toNat_one, List.length_take, List.length_cons, List.length_nil] at *; omega)))) ?_) | (refine Br.mk ?_ ?_ <;> intro hb <;> (try (first | (exfalso; omega) | exact absurd rfl hb | exact Bool.noConfusion hb | exact absurd (fun e => Bool.noConfusion e) hb | (exfalso; simp only [List.length_cons, List.length_nil] at hb; omega) | (exfalso; simp only [Int.toNat_natCast, Int.toNat_one, List.length_take, List.length_cons, List.length_nil] at hb; omega)))) | (refine XLoad.of (by assumption) rfl rfl (by omega) (by omega) rfl ?_) | (refine New.mk ?_; intro b hb) | (refine New2.mk ?_; intro b c hb hbc) | (refine SameR.same ?_) | (refine Two.mk ?_ ?_) | (refine ed_eql ?_) | (refine ed_neq ?_) | (refine drawn tysOk mixed (by kernel_rfl) ?_) | fail))); all_goals (try (conv => whnf)))
      rw [← a7]
      exact ⟨fun h' hs => ⟨(hs.own (k := 59) rfl a1).base hg0, hg0.trans hs.grows⟩⟩
end Go.Ex
