/-
  Tree: words for nodes and frames; trees in lists, by numbers of kids.
-/
import Derived.Test.YtggbpdhhfgmocaaExK
import Derived.Test.YtggbpdhhfgmocaaEnv
namespace Go.Ex
open Go.Proofs
set_option linter.unusedVariables false

structure Nd where
  k : Int
  c : Int
  w : Int
  f : Int
  t : Int
def unNd : List Value → Option Nd
  | [.int .u8 k, .int .i64 c, .int .i64 w, .int .i64 f, .int .i64 t] => some ⟨k, c, w, f, t⟩
  | _ => none
def ndR : Rep Nd where
  dflt := ⟨0, 0, 0, 0, 0⟩
  sz := 5
  cells := fun x => [.int .u8 x.k, .int .i64 x.c, .int .i64 x.w, .int .i64 x.f, .int .i64 x.t]
  un := unNd
  len := fun _ => rfl
  un_ok := fun l x h => by
    unfold unNd at h
    split at h
    · cases h; rfl
    · cases h
  one := fun x v h => by
    simp at h
    rcases h with rfl | rfl | rfl | rfl | rfl <;> rfl
  pos := by decide
structure Fr where
  p : Int
  c : Int
  d : Int
def unFr : List Value → Option Fr
  | [.int .i64 p, .int .i64 c, .int .i64 d] => some ⟨p, c, d⟩
  | _ => none
def frR : Rep Fr where
  dflt := ⟨0, 0, 0⟩
  sz := 3
  cells := fun x => [.int .i64 x.p, .int .i64 x.c, .int .i64 x.d]
  un := unFr
  len := fun _ => rfl
  un_ok := fun l x h => by
    unfold unFr at h
    split at h
    · cases h; rfl
    · cases h
  one := fun x v h => by
    simp at h
    rcases h with rfl | rfl | rfl <;> rfl
  pos := by decide
def rep : Nat → Option RepS
  | 28 => some ⟨ndR⟩
  | 44 => some ⟨frR⟩
  | 3 => some ⟨intR .i64⟩
  | 5 => some ⟨intR .u8⟩
  | _ => none

/-- node i of a list -/
abbrev nd (L : List Nd) (i : Int) : Nd := getI ndR.dflt L i
/-- c trees, one behind another, from number k up to number e: kids of p, the first one of which begins at d or behind it. lc, pc: what each node, each kid must hold -/
inductive Kd (L : List Nd) (lc : Int → Prop) (pc : Int → Int → Int → Prop) : Int → Int → Int → Int → Int → Prop
  | nil (p k d : Int) : Kd L lc pc p k 0 d k
  | cons (p k c d m e : Int) (hc : 0 < c) (h0 : 0 ≤ k) (hk : k < L.length) (hp : pc p k d) (hl : lc k) (h1 : Kd L lc pc k (k + 1) (nd L k).c (nd L k).f m) (h2 : Kd L lc pc p m (c - 1) (nd L k).t e) : Kd L lc pc p k c d e
/-- the numbers of kids alone -/
def Ms (L : List Nd) (k c e : Int) : Prop := Kd L (fun i => 0 ≤ (nd L i).c ∧ (nd L i).c ≤ L.length) (fun _ _ _ => True) 0 k c 0 e
section
variable {L : List Nd} {lc lc' : Int → Prop} {pc pc' : Int → Int → Int → Prop}
theorem Kd.zero {p k d e : Int} (h : Kd L lc pc p k 0 d e) : e = k := by
  cases h with
  | nil => rfl
  | cons => omega
theorem Kd.inv {p k c d e : Int} (h : Kd L lc pc p k c d e) : (c = 0 ∧ e = k) ∨ (0 < c ∧ 0 ≤ k ∧ k < L.length ∧ pc p k d ∧ lc k ∧ ∃ m, Kd L lc pc k (k + 1) (nd L k).c (nd L k).f m ∧ Kd L lc pc p m (c - 1) (nd L k).t e) := by
  cases h with
  | nil => exact .inl ⟨rfl, rfl⟩
  | cons p k c d m e hc h0 hk h3 h4 h1 h2 => exact .inr ⟨hc, h0, hk, h3, h4, m, h1, h2⟩
theorem Kd.pos {p k c d e : Int} (h : Kd L lc pc p k c d e) : 0 ≤ c := by
  cases h with
  | nil => omega
  | cons => omega
theorem Kd.ge {p k c d e : Int} (h : Kd L lc pc p k c d e) : k + c ≤ e := by
  induction h with
  | nil => omega
  | cons p k c d m e hc h0 hk hp hl h1 h2 i1 i2 => have := h1.pos; omega
theorem Kd.le {p k c d e : Int} (h : Kd L lc pc p k c d e) : k ≤ L.length → e ≤ L.length := by
  induction h with
  | nil => exact fun h => h
  | cons p k c d m e hc h0 hk hp hl h1 h2 i1 i2 => exact fun _ => i2 (i1 (by omega))
theorem Kd.mono {p k c d e : Int} (h : Kd L lc pc p k c d e) (hl : ∀ i, lc i → lc' i) (hp : ∀ p k d, pc p k d → pc' p k d) (h') (hh : h' = d := by rfl) : Kd L lc' pc' p k c h' e := by
  subst hh
  induction h with
  | nil => exact .nil _ _ _
  | cons p k c d m e hc h0 hk h3 h4 h1 h2 i1 i2 => exact .cons p k c d m e hc h0 hk (hp _ _ _ h3) (hl _ h4) i1 i2
/-- which kids, and behind what, counts for the checks alone -/
theorem Kd.ms {p k c d e : Int} (h : Kd L lc pc p k c d e) (hl : ∀ i, lc i → 0 ≤ (nd L i).c ∧ (nd L i).c ≤ L.length) : ∀ p' d', Kd L (fun i => 0 ≤ (nd L i).c ∧ (nd L i).c ≤ L.length) (fun _ _ _ => True) p' k c d' e := by
  induction h with
  | nil => exact fun _ _ => .nil _ _ _
  | cons p k c d m e hc h0 hk h3 h4 h1 h2 i1 i2 => exact fun p' d' => .cons p' k c d' m e hc h0 hk trivial (hl _ h4) (i1 _ _) (i2 _ _)
theorem Ms.any {k c e : Int} (h : Ms L k c e) (p d : Int) : Kd L (fun i => 0 ≤ (nd L i).c ∧ (nd L i).c ≤ L.length) (fun _ _ _ => True) p k c d e := Kd.ms h (fun _ h => h) p d
theorem Ms.of {p k c d e : Int} (h : Kd L (fun i => 0 ≤ (nd L i).c ∧ (nd L i).c ≤ L.length) (fun _ _ _ => True) p k c d e) : Ms L k c e := Kd.ms h (fun _ h => h) 0 0
theorem Ms.nil (k : Int) : Ms L k 0 k := Kd.nil _ _ _
theorem Ms.cons {k c m e : Int} (hc : 0 < c) (h0 : 0 ≤ k) (hk : k < L.length) (hl : 0 ≤ (nd L k).c ∧ (nd L k).c ≤ L.length) (h1 : Ms L (k + 1) (nd L k).c m) (h2 : Ms L m (c - 1) e) : Ms L k c e :=
  Kd.cons 0 k c 0 m e hc h0 hk trivial hl (h1.any _ _) (h2.any _ _)
theorem Ms.cases {k c e : Int} (h : Ms L k c e) : (c = 0 ∧ e = k) ∨ (0 < c ∧ 0 ≤ k ∧ k < L.length ∧ 0 ≤ (nd L k).c ∧ (nd L k).c ≤ L.length ∧ ∃ m, Ms L (k + 1) (nd L k).c m ∧ Ms L m (c - 1) e) := by
  cases h with
  | nil => exact .inl ⟨rfl, rfl⟩
  | cons p k c d m e hc h0 hk h3 h4 h1 h2 => exact .inr ⟨hc, h0, hk, h4.1, h4.2, _, Ms.of h1, Ms.of h2⟩
theorem Kd.uniq {p k c d e : Int} (h : Kd L lc pc p k c d e) : ∀ {lc' : Int → Prop} {pc' : Int → Int → Int → Prop} {p' d' e' : Int}, Kd L lc' pc' p' k c d' e' → e = e' := by
  induction h with
  | nil => exact fun h => h.zero.symm
  | cons p k c d m e hc h0 hk h3 h4 h1 h2 i1 i2 =>
    intro lc' pc' p' d' e' h
    cases h with
    | nil => omega
    | cons _ _ _ _ m' _ _ _ _ _ _ g1 g2 =>
      have := i1 g1
      subst this
      exact i2 g2
theorem Ms.uniq {k c e e' : Int} (h : Ms L k c e) (h' : Ms L k c e') : e = e' := Kd.uniq h h'
theorem Ms.append {k a m : Int} (h : Ms L k a m) : ∀ {b e : Int}, Ms L m b e → Ms L k (a + b) e := by
  have key : ∀ {lc pc p k c d m} (h : Kd L lc pc p k c d m), (∀ i, lc i → 0 ≤ (nd L i).c ∧ (nd L i).c ≤ L.length) → ∀ {b e : Int}, Ms L m b e → Ms L k (c + b) e := by
    intro lc pc p k c d m h hl
    induction h with
    | nil => intro b e hb; rw [Int.zero_add]; exact hb
    | cons p k c d m e hc h0 hk h3 h4 h1 h2 i1 i2 =>
      intro b e' hb
      have hb0 := Kd.pos hb
      exact Ms.cons (by omega) h0 hk (hl _ h4) (Ms.of (h1.ms hl 0 0)) (by rw [show c + b - 1 = c - 1 + b by omega]; exact i2 hb)
  intro b e hb
  exact key h (fun _ h => h) hb
theorem Ms.split {k a b e : Int} (ha : 0 ≤ a) (hb : 0 ≤ b) (h : Ms L k (a + b) e) : ∃ m, Ms L k a m ∧ Ms L m b e := by
  have key : ∀ (n : Nat) (k e : Int), Ms L k (n + b) e → ∃ m, Ms L k n m ∧ Ms L m b e := by
    intro n
    induction n with
    | zero => intro k e h; exact ⟨k, Ms.nil k, by simpa using h⟩
    | succ n ih =>
      intro k e h
      rcases h.cases with ⟨h1, h2⟩ | ⟨h1, h2, h3, h4, h5, m, h6, h7⟩
      · omega
      · rw [show ((n + 1 : Nat) : Int) + b - 1 = n + b by omega] at h7
        obtain ⟨m', q1, q2⟩ := ih m e h7
        exact ⟨m', Ms.cons (by omega) h2 h3 ⟨h4, h5⟩ h6 (by rw [show ((n + 1 : Nat) : Int) - 1 = n by omega]; exact q1), q2⟩
  obtain ⟨m, h1, h2⟩ := key a.toNat k e (by rw [show ((a.toNat : Nat) : Int) = a by omega]; exact h)
  exact ⟨m, by rw [show ((a.toNat : Nat) : Int) = a by omega] at h1; exact h1, h2⟩
/-- what lies within -/
theorem Kd.nest {p k c d e : Int} (h : Kd L lc pc p k c d e) : ∀ j, k ≤ j → j < e → lc j ∧ j < L.length ∧ ∃ ej, ej ≤ e ∧ Kd L lc pc j (j + 1) (nd L j).c (nd L j).f ej := by
  induction h with
  | nil => intro j h1 h2; omega
  | cons p k c d m e hc h0 hk h3 h4 h1 h2 i1 i2 =>
    intro j hj1 hj2
    have g2 := h2.ge
    have g3 := h2.pos
    by_cases hjk : j = k
    · subst hjk; exact ⟨h4, hk, m, by omega, h1⟩
    · by_cases hjm : j < m
      · obtain ⟨a, b, ej, h, h'⟩ := i1 j (by omega) hjm
        exact ⟨a, b, ej, by omega, h'⟩
      · exact i2 j (by omega) hj2
/-- the ends of all nodes -/
structure EndsOk (L : List Nd) (E : List Int) : Prop where
  len : E.length = L.length
  at_ : ∀ i : Int, 0 ≤ i → i < L.length → Ms L (i + 1) (nd L i).c (getI 0 E i)
  le : ∀ i : Int, 0 ≤ i → i < L.length → getI 0 E i ≤ L.length
theorem EndsOk.lt {E : List Int} (h : EndsOk L E) (i : Int) (h0 : 0 ≤ i) (h1 : i < L.length) : i < getI 0 E i := by
  have := Kd.ge (h.at_ i h0 h1)
  have := Kd.pos (h.at_ i h0 h1)
  omega
theorem getI_ext {E E' : List Int} (hl : E.length = E'.length) (h : ∀ i : Int, 0 ≤ i → i < E.length → getI 0 E i = getI 0 E' i) : E = E' := by
  refine List.ext_getElem hl fun i h1 h2 => ?_
  have := h i (by omega) (by omega)
  simpa [getI, List.getD, h1, h2] using this
theorem EndsOk.uniq {E E' : List Int} (h : EndsOk L E) (h' : EndsOk L E') : E = E' :=
  getI_ext (h.len.trans h'.len.symm) fun i h0 h1 => by
    rw [h.len] at h1
    exact (h.at_ i h0 h1).uniq (h'.at_ i h0 h1)

/-! ### checks -/
def lcP (L : List Nd) (n : Int) (i : Int) : Prop := ¬ 68 < (nd L i).k ∧ 0 ≤ (nd L i).c ∧ (nd L i).c ≤ L.length ∧ 0 ≤ (nd L i).f ∧ (nd L i).f ≤ (nd L i).t ∧ (nd L i).t ≤ n ∧ ((nd L i).w = -1 ∨ ((nd L i).f ≤ (nd L i).w ∧ (nd L i).w < (nd L i).t))
def pcP (L : List Nd) (p k d : Int) : Prop := d ≤ (nd L k).f ∧ (nd L k).t ≤ (nd L p).t ∧ ¬ ((nd L k).f ≤ (nd L p).w ∧ (nd L p).w < (nd L k).t)
/-- a list is a tree of n tokens -/
def TreeP (L : List Nd) (n : Int) : Prop := 0 < L.length ∧ lcP L n 0 ∧ Kd L (lcP L n) (pcP L) 0 1 (nd L 0).c (nd L 0).f L.length
theorem lcP_c {n i : Int} (h : lcP L n i) : 0 ≤ (nd L i).c ∧ (nd L i).c ≤ L.length := ⟨h.2.1, h.2.2.1⟩
/-- a chain of kids, by the ends -/
def Chain (L : List Nd) (E : List Int) (p : Int) : Nat → Int → Int → Prop
  | 0, _, _ => True
  | c + 1, k, d => pcP L p k d ∧ Chain L E p c (getI 0 E k) (nd L k).t
theorem Kd.all {n : Int} {E : List Int} (hE : EndsOk L E) {p k c d e : Int} (h : Kd L (lcP L n) (pcP L) p k c d e) : (∀ j, k ≤ j → j < e → lcP L n j ∧ Chain L E j (nd L j).c.toNat (j + 1) (nd L j).f) ∧ Chain L E p c.toNat k d := by
  induction h with
  | nil => exact ⟨fun j h1 h2 => by omega, trivial⟩
  | cons p k c d m e hc h0 hk h3 h4 h1 h2 i1 i2 =>
    have em : getI 0 E k = m := Kd.uniq (hE.at_ k h0 hk) h1
    have g1 := h1.ge
    have g2 := h1.pos
    refine ⟨fun j hj1 hj2 => ?_, ?_⟩
    · by_cases hjk : j = k
      · subst hjk; exact ⟨h4, i1.2⟩
      · by_cases hjm : j < m
        · exact i1.1 j (by omega) hjm
        · exact i2.1 j (by omega) hj2
    · rw [show c.toNat = (c - 1).toNat + 1 by omega]
      exact ⟨h3, by rw [em]; exact i2.2⟩
theorem Ms.full {n : Int} {E : List Int} (hE : EndsOk L E) {k c e : Int} (h : Ms L k c e) : ∀ (p d : Int), (∀ j, k ≤ j → j < e → lcP L n j ∧ Chain L E j (nd L j).c.toNat (j + 1) (nd L j).f) → Chain L E p c.toNat k d → Kd L (lcP L n) (pcP L) p k c d e := by
  have key : ∀ {p k c d e : Int}, Kd L (fun i => 0 ≤ (nd L i).c ∧ (nd L i).c ≤ L.length) (fun _ _ _ => True) p k c d e → ∀ (p d : Int), (∀ j, k ≤ j → j < e → lcP L n j ∧ Chain L E j (nd L j).c.toNat (j + 1) (nd L j).f) → Chain L E p c.toNat k d → Kd L (lcP L n) (pcP L) p k c d e := by
    intro p k c d e h
    induction h with
    | nil => exact fun _ _ _ _ => .nil _ _ _
    | cons p k c d m e hc h0 hk h3 h4 h1 h2 i1 i2 =>
      intro p' d' hj hch
      have em : getI 0 E k = m := Kd.uniq (hE.at_ k h0 hk) h1
      have g1 := h1.ge
      have g2 := h2.ge
      have g3 := h2.pos
      rw [show c.toNat = (c - 1).toNat + 1 by omega] at hch
      obtain ⟨q1, q2⟩ := hch
      rw [em] at q2
      have q3 := hj k (Int.le_refl _) (by omega)
      exact .cons p' k c d' m e hc h0 hk q1 q3.1 (i1 k _ (fun j h h' => hj j (by omega) (by omega)) q3.2) (i2 p' _ (fun j h h' => hj j (by omega) (by omega)) q2)
  exact key h
/-- a tree: the numbers of kids make one, and each node and each chain of kids is as it must be -/
theorem tree_iff {n : Int} {E : List Int} (hE : EndsOk L E) : TreeP L n ↔ 0 < L.length ∧ getI 0 E 0 = L.length ∧ ∀ j : Int, 0 ≤ j → j < L.length → lcP L n j ∧ Chain L E j (nd L j).c.toNat (j + 1) (nd L j).f := by
  constructor
  · rintro ⟨h0, h1, h2⟩
    have := h2.all hE
    refine ⟨h0, Kd.uniq (hE.at_ 0 (by omega) (by omega)) h2, fun j hj1 hj2 => ?_⟩
    by_cases hj : j = 0
    · subst hj; exact ⟨h1, this.2⟩
    · exact this.1 j (by omega) hj2
  · rintro ⟨h0, h1, h2⟩
    have q := h2 0 (by omega) (by omega)
    refine ⟨h0, q.1, ?_⟩
    have := Ms.full (n := n) hE (hE.at_ 0 (by omega) (by omega)) 0 (nd L 0).f (fun j h h' => h2 j (by omega) (by rw [h1] at h'; exact h')) q.2
    rw [h1] at this
    exact this

/-! ### the stack -/
/-- what is still to come, as the stack says -/
def SO (L : List Nd) (n : Int) : Int → List Fr → Prop
  | i, [] => i = L.length
  | i, x :: st => ∃ e, Kd L (lcP L n) (pcP L) x.p i x.c x.d e ∧ SO L n e st
theorem SO_pop {n i : Int} {x : Fr} {st : List Fr} (h : x.c = 0) : SO L n i (x :: st) ↔ SO L n i st := by
  simp only [SO, h]
  constructor
  · rintro ⟨e, h1, h2⟩; rw [h1.zero] at h2; exact h2
  · exact fun h => ⟨i, .nil _ _ _, h⟩
theorem SO_push {n i : Int} {x : Fr} {st : List Fr} (h : 0 < x.c) (h0 : 0 ≤ i) (hi : i < L.length) (hp : pcP L x.p i x.d) (hl : lcP L n i) : SO L n i (x :: st) ↔ SO L n (i + 1) (⟨i, (nd L i).c, (nd L i).f⟩ :: ⟨x.p, x.c - 1, (nd L i).t⟩ :: st) := by
  simp only [SO]
  constructor
  · rintro ⟨e, h1, h2⟩
    rcases h1.inv with ⟨q, _⟩ | ⟨_, _, _, _, _, m, g1, g2⟩
    · omega
    · exact ⟨m, g1, e, g2, h2⟩
  · rintro ⟨m, g1, e, g2, h2⟩
    exact ⟨e, .cons _ _ _ _ m _ h h0 hi hp hl g1 g2, h2⟩
theorem SO_must {n i : Int} {x : Fr} {st : List Fr} (h : 0 < x.c) (hs : SO L n i (x :: st)) : pcP L x.p i x.d ∧ lcP L n i ∧ i < L.length := by
  simp only [SO] at hs
  obtain ⟨e, h1, h2⟩ := hs
  rcases h1.inv with ⟨q, _⟩ | ⟨_, _, h3, h4, h5, _⟩
  · omega
  · exact ⟨h4, h5, h3⟩
end
end Go.Ex
