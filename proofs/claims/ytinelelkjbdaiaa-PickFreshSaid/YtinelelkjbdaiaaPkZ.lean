/-
  Pick: the law PickFresh, walked.
-/
import Derived.Test.YtinelelkjbdaiaaPkY
namespace Go.Ex
open Go.Proofs
set_option linter.unusedVariables false
set_option linter.unusedSimpArgs false
attribute [local irreducible] CallsH

/-- what is given: matches with their own binds -/
structure GS where
  h : Heap
  o : Option (Nat × Nat)
  m : Int
  MG : List Mt
  XG : List Am
  i : Int
structure GInv (X : List Am) (h : Heap) (x : GS) : Prop where
  i0 : 0 ≤ x.i
  i1 : x.i ≤ X.length
  m : x.m = x.MG.length
  mi : x.m = x.i
  nil : x.o = none → x.MG = []
  cap : ∀ b c, x.o = some (b, c) → x.MG.length ≤ c
  reads : All2 (fun m a => m.rule = a.rule ∧ m.part = a.part ∧ Held bindR x.h (blks (moC 38 x.o x.MG)) m.A m.n a.bs) x.MG x.XG
  so : x.XG = X.take x.i.toNat
  bas : Bas h x.h (blks (moC 38 x.o x.MG))
theorem Bas.cap {h h0 : Heap} {c c' : List Nat} (b : Bas h h0 c) (hc : ∀ y ∈ c', y ∈ c) : Bas h h0 c' := ⟨b.gr, fun y hy => b.cp y (hc y hy)⟩
theorem Held.bas {τ : Type} {R : Rep τ} {h h0 : Heap} {cap : List Nat} {A : Option Addr} {n : Nat} {xs : List τ} (hs : Sl R h A n xs) (b : Bas h h0 cap) : Held R h0 cap A n xs :=
  ⟨hs.grows b.gr, fun h1 a ha => by
    obtain ⟨bl, o, e, hb, _⟩ := hs.at_ h1
    rw [ha] at e
    cases e
    exact ⟨Nat.lt_of_lt_of_le hb b.gr.size, fun hm => by have := b.cp _ hm; dsimp only at this; omega⟩⟩
theorem Held.chunk {S : St} {h : Heap} (hs : HS S h) {τ : Type} {k b T cap : Nat} {R : Rep τ} {xs : List τ} (hf : findC S.ch k = some (b, .arr T R xs cap)) {c : List Nat} (hc : b ∉ c) : Held R h c (some ⟨b, 0, none⟩) xs.length xs := by
  have t := hs.sl hf (Nat.le_refl xs.length)
  rw [List.take_length] at t
  refine ⟨t, fun _ a ha => ?_⟩
  cases ha
  exact ⟨(hs.chunk _ (findC_mem hf)).1, hc⟩
theorem take_next {X : List Am} {i : Int} (h0 : 0 ≤ i) (h1 : i < X.length) : X.take (i + 1).toNat = X.take i.toNat ++ [amAt X i] := by
  have hq : i.toNat < X.length := by omega
  rw [show (i + 1).toNat = i.toNat + 1 by omega, List.take_add_one, List.getElem?_eq_getElem hq]
  simp only [amAt, getI, List.getD]
  rw [List.getElem?_eq_getElem hq]; rfl
/-- the blocks of what has been picked -/
def Wof (R : List Mt) : List Nat := R.filterMap fun m => m.A.map (·.block)
theorem mem_W {R : List Mt} {y : Nat} : y ∈ Wof R ↔ ∃ m ∈ R, ∃ a, m.A = some a ∧ a.block = y := by
  simp [Wof, List.mem_filterMap, Option.map_eq_some_iff]
/-- binds that may be written to -/
def BF (h : Heap) (m : Mt) : Prop := m.n = 0 ∨ ∃ b cap BS, m.A = some ⟨b, 0, none⟩ ∧ m.n = BS.length ∧ b < h.size ∧ ChunkAt h b (.arr 40 bindR BS cap)
theorem BF.of {h1 h2 : Heap} {m : Mt} {bs : List Bd} (o : OwnSl bindR 40 h1 h2 (.slice m.A m.n m.c) bs) : BF h2 m := by
  obtain ⟨r, p, A, n, c⟩ := m
  dsimp only at o
  cases o with
  | nil => exact .inl rfl
  | arr b cap L hb hl hat => exact .inr ⟨b, c, bs, rfl, rfl, hl, hat⟩
theorem BF.keep {h h' : Heap} {m : Mt} (o : BF h m) (hs : h.size ≤ h'.size) (hf : ∀ a, m.A = some a → a.block < h.size → h'[a.block]? = h[a.block]?) : BF h' m := by
  rcases o with o | ⟨b, cap, BS, o1, o2, o3, o4⟩
  · exact .inl o
  · exact .inr ⟨b, cap, BS, o1, o2, Nat.lt_of_lt_of_le o3 hs, o4.congr (hf _ o1 o3)⟩
theorem HS.more {h0 h : Heap} {c c' : List Nat} (hs : HS ⟨h0, c, []⟩ h) (hc : ∀ y ∈ c, y ∈ c') : HS ⟨h0, c', []⟩ h :=
  ⟨hs.size, fun b hb hn => hs.frame b hb fun hm => hn (hc _ hm), fun e he => (by cases he), .nil⟩
theorem HS.past {h0 hE h : Heap} {W c : List Nat} {ch : Chs} (hs : HS ⟨h0, W, []⟩ hE) (hs' : HS ⟨hE, c, ch⟩ h) (hc : ∀ y ∈ c, y ∈ W) : HS ⟨h0, W, []⟩ h :=
  ⟨Nat.le_trans hs.size hs'.size, fun b hb hn => (hs'.frame b (Nat.lt_of_lt_of_le hb hs.size) fun hm => hn (hc _ hm)).trans (hs.frame b hb hn), fun e he => (by cases he), .nil⟩
theorem Held.keep {τ : Type} {R : Rep τ} {h0 h : Heap} {c : List Nat} {ch : Chs} {A : Option Addr} {n : Nat} {xs : List τ} (hk : Held R h0 c A n xs) (hs : HS ⟨h0, c, ch⟩ h) : Held R h c A n xs :=
  ⟨Held.at_ (S := ⟨h0, c, ch⟩) hk hs, fun h1 a ha => ⟨Nat.lt_of_lt_of_le (hk.out h1 a ha).1 hs.size, (hk.out h1 a ha).2⟩⟩
theorem HS.bare (h : Heap) : HS ⟨h, [], []⟩ h := ⟨Nat.le_refl _, fun _ _ _ => rfl, fun e he => (by cases he), .nil⟩
theorem sep_at {R : List Mt} (hs : Sep R) {i j : Int} (i0 : 0 ≤ i) (ij : i < j) (j1 : j < R.length) {a a' : Addr} (ha : (getI matR.dflt R i).A = some a) (ha' : (getI matR.dflt R j).A = some a') : a.block < a'.block := by
  have e1 : getI matR.dflt R i = R[i.toNat]'(by omega) := by simp only [getI, List.getD]; rw [List.getElem?_eq_getElem (by omega)]; rfl
  have e2 : getI matR.dflt R j = R[j.toNat]'(by omega) := by simp only [getI, List.getD]; rw [List.getElem?_eq_getElem (by omega)]; rfl
  rw [e1] at ha
  rw [e2] at ha'
  exact List.pairwise_iff_getElem.1 hs i.toNat j.toNat (by omega) (by omega) (by omega) a a' ha ha'
structure FS where
  h : Heap
  BS : List Bd
  t : Int
set_option maxHeartbeats 2000000 in
set_option maxRecDepth 10000 in
theorem fresh_law (A : Option Addr) (n c : Nat) (L : List Pt) (B : Option Addr) (k c2 : Nat) (M : List Mt) (X : List Am) (h : Heap) (hL : Sl partR h A n L) (hM : Sl matR h B k M)
    (hX : All2 (RM h) M X) (hbz : ∀ a ∈ X, a.bs.length * 32 ≤ 140737488355328) :
    CallsH Try.prog 7 #[.slice A n c, .slice B k c2] h fun v h' => v = .bool true ∧ Grows h h' := by
  refine enter (rep := rep) (m := 16) (ex := [18, 23, 54, 64]) (cu := []) tysOk Try.func7 rfl (by decide) (rs := [.tmp 4]) rfl rfl [.val (.slice A n c), .val (.slice B k c2)] rfl ?_
  have hlen := hL.len_eq
  have hmlen := hM.len_eq
  have hXl := hX.len
  by_cases hgr : 300 < n ∨ 300 < k
  · ((repeat' ((conv => whnf); (first | (refine Ar.fit (by first | omega | (simp only [lo, hi]; omega)) ?_) | (refine VC.mk (by (first | omega | rfl | assumption | exact Sl.plain (by assumption) (by omega) | (and_intros <;> first | omega | rfl | assumption | (simp only [List.length_set]; omega) | (simp only [List.length_append, List.length_take, List.length_replicate, List.length_cons, List.length_nil]; omega) | (simp only [ByteArray.size_extract, ByteArray.size_append]; omega) | (simp only [List.length_cons, List.length_nil]; omega) | (simp only [Int.toNat_natCast, Int.toNat_one, List.length_take, List.length_cons, List.length_nil] at *; omega)))) ?_) | (refine Br.mk ?_ ?_ <;> intro hb <;> (try (first | (exfalso; omega) | exact absurd rfl hb | exact Bool.noConfusion hb | exact absurd (fun e => Bool.noConfusion e) hb | (exfalso; simp only [List.length_cons, List.length_nil] at hb; omega) | (exfalso; simp only [Int.toNat_natCast, Int.toNat_one, List.length_take, List.length_cons, List.length_nil] at hb; omega)))) | (refine XLoad.of (by assumption) rfl rfl (by omega) (by omega) rfl ?_) | (refine New.mk ?_; intro b hb) | (refine New2.mk ?_; intro b c hb hbc) | (refine NewO.mk ?_; intro b c hb hbc) | (refine SameR.same ?_) | (refine Two.mk ?_ ?_) | (refine Tri.mk ?_ ?_ ?_) | (refine ed_eql ?_) | (refine ed_neq ?_) | (refine drawn tysOk mixed (by kernel_rfl) ?_) | (apply CallK.pure; (case hh => (intro h1 hs; exact (great_any _ _ _ _ _ _ h1).mono (fun v h' ⟨e1, e2⟩ => ⟨e1.trans (prop_true hgr), e2⟩)))) | (apply CallK.pure; (case hh => (intro h1 hs; exact fixed_any h1))) | fail))); all_goals (try (conv => whnf)))
    exact ⟨fun h' hs => ⟨prop_true rfl, hs.grows⟩⟩
  ((repeat' ((conv => whnf); (first | (refine Ar.fit (by first | omega | (simp only [lo, hi]; omega)) ?_) | (refine VC.mk (by (first | omega | rfl | assumption | exact Sl.plain (by assumption) (by omega) | (and_intros <;> first | omega | rfl | assumption | (simp only [List.length_set]; omega) | (simp only [List.length_append, List.length_take, List.length_replicate, List.length_cons, List.length_nil]; omega) | (simp only [ByteArray.size_extract, ByteArray.size_append]; omega) | (simp only [List.length_cons, List.length_nil]; omega) | (simp only [Int.toNat_natCast, Int.toNat_one, List.length_take, List.length_cons, List.length_nil] at *; omega)))) ?_) | (refine Br.mk ?_ ?_ <;> intro hb <;> (try (first | (exfalso; omega) | exact absurd rfl hb | exact Bool.noConfusion hb | exact absurd (fun e => Bool.noConfusion e) hb | (exfalso; simp only [List.length_cons, List.length_nil] at hb; omega) | (exfalso; simp only [Int.toNat_natCast, Int.toNat_one, List.length_take, List.length_cons, List.length_nil] at hb; omega)))) | (refine XLoad.of (by assumption) rfl rfl (by omega) (by omega) rfl ?_) | (refine New.mk ?_; intro b hb) | (refine New2.mk ?_; intro b c hb hbc) | (refine NewO.mk ?_; intro b c hb hbc) | (refine SameR.same ?_) | (refine Two.mk ?_ ?_) | (refine Tri.mk ?_ ?_ ?_) | (refine ed_eql ?_) | (refine ed_neq ?_) | (refine drawn tysOk mixed (by kernel_rfl) ?_) | (apply CallK.pure; (case hh => (intro h1 hs; exact (great_any _ _ _ _ _ _ h1).mono (fun v h' ⟨e1, e2⟩ => ⟨e1.trans (prop_false hgr), e2⟩)))) | fail))); all_goals (try (conv => whnf)))
  refine loop_gen tysOk [5, 6] (fun x : GS => [(5, moKi 38 x.o x.m), (6, .val (.int .i64 x.i))]) (fun x => ⟨x.h, blks (moC 38 x.o x.MG), moC 38 x.o x.MG⟩) (fun μ x => GInv X h x ∧ μ = (k - x.i).toNat) ?_
  conv => whnf
  refine ⟨fun h1 hs1 => ?_, ?_⟩
  · exact ⟨k, ⟨h1, none, 0, [], [], 0⟩, ⟨⟨by simp, by simp, rfl, rfl, fun _ => rfl, by simp, trivial, rfl, (Bas.start h).anew hs1⟩, by simp⟩, by ((repeat (refine ⟨⟨_, rfl, rfl⟩, ?_⟩)); trivial), hs1.anew⟩
  rintro μ6 ⟨hI, o, m, MG, XG, i⟩ ⟨d, hμ⟩
  have d' := d
  obtain ⟨p1, p2, p3, p4, p5, p6, p7, p8, p9⟩ := d'
  dsimp only at p1 p2 p3 p4 p5 p6 p7 p8 p9 hμ ⊢
  by_cases hi : i < k
  · have hx := hX.get matR.dflt ⟨0, 0, []⟩ i p1 (by omega)
    have hxz := hbz _ (amAt_mem (X := X) p1 (by omega))
    have hx2 : Sl bindR h (getI matR.dflt M i).A (getI matR.dflt M i).n (amAt X i).bs := hx.2.2
    obtain ⟨bs, hbs⟩ : ∃ bs, bs = (amAt X i).bs := ⟨_, rfl⟩
    rw [← hbs] at hxz hx2
    have hMs := Held.bas hM p9
    have hBs := Held.bas hx2 p9
    rcases o with _ | ⟨bo, co⟩
    · have hMG := p5 rfl
      subst hMG
      dsimp only [moKi, moC, blks] at p7 p9 hMs hBs ⊢
      ((repeat' ((conv => whnf); (first | (refine Ar.fit (by first | omega | (simp only [lo, hi]; omega)) ?_) | (refine VC.mk (by (first | omega | rfl | assumption | exact Sl.plain (by assumption) (by omega) | (and_intros <;> first | omega | rfl | assumption | (simp only [List.length_set]; omega) | (simp only [List.length_append, List.length_take, List.length_replicate, List.length_cons, List.length_nil]; omega) | (simp only [ByteArray.size_extract, ByteArray.size_append]; omega) | (simp only [List.length_cons, List.length_nil]; omega) | (simp only [Int.toNat_natCast, Int.toNat_one, List.length_take, List.length_cons, List.length_nil] at *; omega)))) ?_) | (refine Br.mk ?_ ?_ <;> intro hb <;> (try (first | (exfalso; omega) | exact absurd rfl hb | exact Bool.noConfusion hb | exact absurd (fun e => Bool.noConfusion e) hb | (exfalso; simp only [List.length_cons, List.length_nil] at hb; omega) | (exfalso; simp only [Int.toNat_natCast, Int.toNat_one, List.length_take, List.length_cons, List.length_nil] at hb; omega)))) | (refine XLoad.of (by assumption) rfl rfl (by omega) (by omega) rfl ?_) | (refine New.mk ?_; intro b hb) | (refine New2.mk ?_; intro b c hb hbc) | (refine NewO.mk ?_; intro b c hb hbc) | (refine SameR.same ?_) | (refine Two.mk ?_ ?_) | (refine Tri.mk ?_ ?_ ?_) | (refine ed_eql ?_) | (refine ed_neq ?_) | (refine drawn tysOk mixed (by kernel_rfl) ?_) | (refine XLoad.held hMs rfl (by omega) (by omega) rfl ?_) | (refine XList.held hBs ?_) | fail))); all_goals (try (conv => whnf)))
      rename_i b7 hb7 b30 hb30 b33 c33 hb33 hbc33 b37 hb37 hz37
      intro hf hsf
      refine ⟨_, ⟨hf, some (b, c), m + 1, [] ++ [(⟨(getI matR.dflt M i).rule, (getI matR.dflt M i).part, some ⟨b33, 0, none⟩, bs.length, c33⟩ : Mt)], XG ++ [amAt X i], i + 1⟩, ⟨⟨by dsimp only; omega, by dsimp only; omega, by dsimp only; rw [List.length_append, List.length_singleton]; omega, by dsimp only; omega, fun e => (by cases e), fun b' c' e => (by cases e; (simp only [Int.toNat_natCast, Int.toNat_one, List.length_append, List.length_take, List.length_drop, List.length_cons, List.length_nil] at *; omega)), ?_, ?_, (p9.anew hsf).cap (fun y hy => by simp only [moC, blks, List.mem_cons, List.not_mem_nil, or_false] at hy ⊢; omega)⟩, rfl⟩, by dsimp only; omega, by ((repeat (refine ⟨⟨_, rfl, (by first | rfl | exact osl_den (by (simp only [Int.toNat_natCast, Int.toNat_one, List.length_append, List.length_take, List.length_drop, List.length_cons, List.length_nil] at *; omega)))⟩, ?_⟩)); trivial), (hsf.ren [38] (L := moC 38 (some (b, c)) ([] ++ [(⟨(getI matR.dflt M i).rule, (getI matR.dflt M i).part, some ⟨b33, 0, none⟩, bs.length, c33⟩ : Mt)])) ⟨⟨_, rfl, SameCh.arr (by simp [p3])⟩, rfl, trivial⟩).anew⟩
      · refine All2.append (d.reads.mono fun m hm a ⟨r1, r2, r3⟩ => ⟨r1, r2, (Held.anew (S := ⟨hI, _, _⟩) r3 hsf).cap (fun y hy => by simp only [moC, blks, List.mem_cons, List.not_mem_nil, or_false] at hy ⊢; omega)⟩) ⟨⟨hx.1, hx.2.1, ?_⟩, trivial⟩
        show Held bindR hf [b] (some ⟨b33, 0, none⟩) bs.length (amAt X i).bs
        rw [← hbs]
        exact Held.chunk hsf (k := 33) (b := b33) rfl (fun hm => hsf.ne (k := 33) (k' := 38) rfl rfl (by decide) (by simpa using hm))
      · dsimp only
        rw [take_next p1 (by omega), p8]
    · have hco := p6 bo co rfl
      dsimp only [moKi, moC, blks] at p7 p9 hMs hBs ⊢
      ((repeat' ((conv => whnf); (first | (refine Ar.fit (by first | omega | (simp only [lo, hi]; omega)) ?_) | (refine VC.mk (by (first | omega | rfl | assumption | exact Sl.plain (by assumption) (by omega) | (and_intros <;> first | omega | rfl | assumption | (simp only [List.length_set]; omega) | (simp only [List.length_append, List.length_take, List.length_replicate, List.length_cons, List.length_nil]; omega) | (simp only [ByteArray.size_extract, ByteArray.size_append]; omega) | (simp only [List.length_cons, List.length_nil]; omega) | (simp only [Int.toNat_natCast, Int.toNat_one, List.length_take, List.length_cons, List.length_nil] at *; omega)))) ?_) | (refine Br.mk ?_ ?_ <;> intro hb <;> (try (first | (exfalso; omega) | exact absurd rfl hb | exact Bool.noConfusion hb | exact absurd (fun e => Bool.noConfusion e) hb | (exfalso; simp only [List.length_cons, List.length_nil] at hb; omega) | (exfalso; simp only [Int.toNat_natCast, Int.toNat_one, List.length_take, List.length_cons, List.length_nil] at hb; omega)))) | (refine XLoad.of (by assumption) rfl rfl (by omega) (by omega) rfl ?_) | (refine New.mk ?_; intro b hb) | (refine New2.mk ?_; intro b c hb hbc) | (refine NewO.mk ?_; intro b c hb hbc) | (refine SameR.same ?_) | (refine Two.mk ?_ ?_) | (refine Tri.mk ?_ ?_ ?_) | (refine ed_eql ?_) | (refine ed_neq ?_) | (refine drawn tysOk mixed (by kernel_rfl) ?_) | (refine XLoad.held hMs rfl (by omega) (by omega) rfl ?_) | (refine XList.held hBs ?_) | fail))); all_goals (try (conv => whnf)))
      rename_i b7 hb7 b30 hb30 b33 c33 hb33 hbc33 b37 hb37
      intro hf hsf
      refine ⟨_, ⟨hf, some (b, c), m + 1, MG ++ [(⟨(getI matR.dflt M i).rule, (getI matR.dflt M i).part, some ⟨b33, 0, none⟩, bs.length, c33⟩ : Mt)], XG ++ [amAt X i], i + 1⟩, ⟨⟨by dsimp only; omega, by dsimp only; omega, by dsimp only; rw [List.length_append, List.length_singleton]; omega, by dsimp only; omega, fun e => (by cases e), fun b' c' e => (by cases e; (simp only [Int.toNat_natCast, Int.toNat_one, List.length_append, List.length_take, List.length_drop, List.length_cons, List.length_nil] at *; omega)), ?_, ?_, (p9.anew hsf).cap (fun y hy => by simp only [moC, blks, List.mem_cons, List.not_mem_nil, or_false] at hy ⊢; omega)⟩, rfl⟩, by dsimp only; omega, by ((repeat (refine ⟨⟨_, rfl, (by first | rfl | exact osl_den (by (simp only [Int.toNat_natCast, Int.toNat_one, List.length_append, List.length_take, List.length_drop, List.length_cons, List.length_nil] at *; omega)))⟩, ?_⟩)); trivial), (hsf.ren [38] (L := moC 38 (some (b, c)) (MG ++ [(⟨(getI matR.dflt M i).rule, (getI matR.dflt M i).part, some ⟨b33, 0, none⟩, bs.length, c33⟩ : Mt)])) ⟨⟨_, rfl, SameCh.arr (by simp [p3])⟩, rfl, trivial⟩).anew⟩
      · refine All2.append (d.reads.mono fun m hm a ⟨r1, r2, r3⟩ => ⟨r1, r2, (Held.anew (S := ⟨hI, _, _⟩) r3 hsf).cap (fun y hy => by simp only [moC, blks, List.mem_cons, List.not_mem_nil, or_false] at hy ⊢; omega)⟩) ⟨⟨hx.1, hx.2.1, ?_⟩, trivial⟩
        show Held bindR hf [b] (some ⟨b33, 0, none⟩) bs.length (amAt X i).bs
        rw [← hbs]
        exact Held.chunk hsf (k := 33) (b := b33) rfl (fun hm => hsf.ne (k := 33) (k' := 38) rfl rfl (by decide) (by simpa using hm))
      · dsimp only
        rw [take_next p1 (by omega), p8]
  · have hik : i = k := by omega
    subst hik
    have hXG : X = XG := by rw [p8]; exact (List.take_of_length_le (by omega)).symm
    subst hXG
    rcases o with _ | ⟨bo, co⟩
    · have hMG := p5 rfl
      subst hMG
      dsimp only [moKi, moC, blks] at p7 p9 ⊢
      ((repeat' ((conv => whnf); (first | (refine Ar.fit (by first | omega | (simp only [lo, hi]; omega)) ?_) | (refine VC.mk (by (first | omega | rfl | assumption | exact Sl.plain (by assumption) (by omega) | (and_intros <;> first | omega | rfl | assumption | (simp only [List.length_set]; omega) | (simp only [List.length_append, List.length_take, List.length_replicate, List.length_cons, List.length_nil]; omega) | (simp only [ByteArray.size_extract, ByteArray.size_append]; omega) | (simp only [List.length_cons, List.length_nil]; omega) | (simp only [Int.toNat_natCast, Int.toNat_one, List.length_take, List.length_cons, List.length_nil] at *; omega)))) ?_) | (refine Br.mk ?_ ?_ <;> intro hb <;> (try (first | (exfalso; omega) | exact absurd rfl hb | exact Bool.noConfusion hb | exact absurd (fun e => Bool.noConfusion e) hb | (exfalso; simp only [List.length_cons, List.length_nil] at hb; omega) | (exfalso; simp only [Int.toNat_natCast, Int.toNat_one, List.length_take, List.length_cons, List.length_nil] at hb; omega)))) | (refine XLoad.of (by assumption) rfl rfl (by omega) (by omega) rfl ?_) | (refine New.mk ?_; intro b hb) | (refine New2.mk ?_; intro b c hb hbc) | (refine NewO.mk ?_; intro b c hb hbc) | (refine SameR.same ?_) | (refine Two.mk ?_ ?_) | (refine Tri.mk ?_ ?_ ?_) | (refine ed_eql ?_) | (refine ed_neq ?_) | fail))); all_goals (try (conv => whnf)))
      refine CallK.epoch (fun h1 hq => pick_any A n _ L _ _ _ ([] : List Mt) X h1 ((Held.bas hL p9).at_ hq) (by omega) (Sl.nil _ _ _) (by omega) (d.reads.mono fun m hm a ⟨r1, r2, r3⟩ => ⟨r1, r2, Held.at_ (S := ⟨hI, _, _⟩) r3 hq⟩) hbz) ?_
      rintro h1 u h2 hq ⟨⟨C, dd, e, er, R, RA, rfl, hr, hn⟩, hg⟩
      have gh1 := p9.fin hq
      have hG1 : Sl matR h1 none 0 ([] : List Mt) := Sl.nil _ _ _
      have hGR1 : All2 (RM h1) ([] : List Mt) X := d.reads.mono fun m hm a ⟨r1, r2, r3⟩ => ⟨r1, r2, Held.at_ (S := ⟨hI, _, _⟩) r3 hq⟩
      clear hq p9
      ((repeat' ((conv => whnf); (first | (refine Ar.fit (by first | omega | (simp only [lo, hi]; omega)) ?_) | (refine VC.mk (by (first | omega | rfl | assumption | exact Sl.plain (by assumption) (by omega) | (and_intros <;> first | omega | rfl | assumption | (simp only [List.length_set]; omega) | (simp only [List.length_append, List.length_take, List.length_replicate, List.length_cons, List.length_nil]; omega) | (simp only [ByteArray.size_extract, ByteArray.size_append]; omega) | (simp only [List.length_cons, List.length_nil]; omega) | (simp only [Int.toNat_natCast, Int.toNat_one, List.length_take, List.length_cons, List.length_nil] at *; omega)))) ?_) | (refine Br.mk ?_ ?_ <;> intro hb <;> (try (first | (exfalso; omega) | exact absurd rfl hb | exact Bool.noConfusion hb | exact absurd (fun e => Bool.noConfusion e) hb | (exfalso; simp only [List.length_cons, List.length_nil] at hb; omega) | (exfalso; simp only [Int.toNat_natCast, Int.toNat_one, List.length_take, List.length_cons, List.length_nil] at hb; omega)))) | (refine XLoad.of (by assumption) rfl rfl (by omega) (by omega) rfl ?_) | (refine New.mk ?_; intro b hb) | (refine New2.mk ?_; intro b c hb hbc) | (refine NewO.mk ?_; intro b c hb hbc) | (refine SameR.same ?_) | (refine Two.mk ?_ ?_) | (refine Tri.mk ?_ ?_ ?_) | (refine ed_eql ?_) | (refine ed_neq ?_) | fail))); all_goals (try (conv => whnf)))
      refine CallK.epoch (fun h1 hq => pick_is hr ((hL.grows (gh1.trans hg)).grows hq.grows) (by omega) ((hG1.grows hg).grows hq.grows) (by omega) (RMs.grows (RMs.grows hGR1 hg) hq.grows) hbz) ?_
      rintro h3 u h4 hq3 ⟨⟨C', d', e', R', rfl, hn'⟩, hg3⟩
      have g24 := hq3.grows.trans hg3
      have hWlt : ∀ y ∈ Wof R, h1.size ≤ y ∧ y < h2.size := fun y hy => by
        obtain ⟨m, hm, a, ha, rfl⟩ := mem_W.1 hy
        obtain ⟨j, hj, rfl⟩ := List.mem_iff_getElem.1 hm
        have hrl := hn.reads.len
        have g := hn.reads.get ⟨0, 0, none, 0, 0⟩ ⟨0, 0, []⟩ j (by omega) (by omega)
        have g2 : getI ⟨0, 0, none, 0, 0⟩ R (j : Int) = R[j] := by simp only [getI, List.getD, Int.toNat_natCast]; rw [List.getElem?_eq_getElem hj]; rfl
        rw [g2] at g
        obtain ⟨A1, n1, c1, q1, q2, q3⟩ := g.2.2.at_
        cases q1
        exact q3 a ha
      have bas4 : Bas h h4 (Wof R) := ⟨(gh1.trans hg).trans g24, fun y hy => Nat.le_trans gh1.size (hWlt y hy).1⟩
      have bas14 : Bas h1 h4 (Wof R) := ⟨hg.trans g24, fun y hy => (hWlt y hy).1⟩
      have kC : Held matR h4 (Wof R) C dd R := ⟨hn.sl.1.grows g24, fun h0 a ha => by
        obtain ⟨A1, n1, c1, q1, q2, q3⟩ := hn.own.at_
        cases q1
        refine ⟨Nat.lt_of_lt_of_le (q3 a ha).2 g24.size, fun hm => ?_⟩
        obtain ⟨m, hm, a', ha', e⟩ := mem_W.1 hm
        exact hn.apart m hm a' ha' a ha e.symm⟩
      have kB : Held matR h4 (Wof R) C' d' R' := ⟨hn'.sl.1, fun h0 a ha => by
        obtain ⟨A1, n1, c1, q1, q2, q3⟩ := hn'.own.at_
        cases q1
        refine ⟨(q3 a ha).2, fun hm => ?_⟩
        have := (hWlt _ hm).2
        have := (q3 a ha).1
        have := hq3.size
        dsimp only at this
        omega⟩
      have kBR : All2 (fun m a => m.rule = a.rule ∧ m.part = a.part ∧ Held bindR h4 (Wof R) m.A m.n a.bs) R' RA := hn'.reads.mono fun m hm a ⟨r1, r2, r3⟩ => ⟨r1, r2, by
        obtain ⟨A1, n1, c1, q1, q2, q3⟩ := r3.at_
        cases q1
        refine ⟨q2, fun h0 a ha => ⟨(q3 a ha).2, fun hm => ?_⟩⟩
        have := (hWlt _ hm).2
        have := (q3 a ha).1
        have := hq3.size
        dsimp only at this
        omega⟩
      have kBF : ∀ j : Int, 0 ≤ j → j < dd → BF h4 (getI matR.dflt R j) := fun j j0 j1 => by
        have hrl := hn.reads.len
        have hcl := hn.sl.1.len_eq
        have g := hn.reads.get matR.dflt ⟨0, 0, []⟩ j j0 (by omega)
        exact (BF.of g.2.2).keep g24.size (fun a ha hb => g24.same _ hb)
      have kSm : ∀ j : Int, 0 ≤ j → j < dd → (getI matR.dflt R j).n ≤ 9223372036854775807 := fun j j0 j1 => by
        have hcl := hn.sl.1.len_eq
        exact (hn.sl.2.get matR.dflt ⟨0, 0, []⟩ j j0 (by omega)).2.2.small
      have kSep := hn.sep
      have kCp := kC.sl
      have hCs := hn.sl.1.small
      have hCl := hn.sl.1.len_eq
      have hR'l := hn'.sl.1.len_eq
      clear hn hn'
      ((repeat' ((conv => whnf); (first | (refine Ar.fit (by first | omega | (simp only [lo, hi]; omega)) ?_) | (refine VC.mk (by (first | omega | rfl | assumption | exact Sl.plain (by assumption) (by omega) | (and_intros <;> first | omega | rfl | assumption | (simp only [List.length_set]; omega) | (simp only [List.length_append, List.length_take, List.length_replicate, List.length_cons, List.length_nil]; omega) | (simp only [ByteArray.size_extract, ByteArray.size_append]; omega) | (simp only [List.length_cons, List.length_nil]; omega) | (simp only [Int.toNat_natCast, Int.toNat_one, List.length_take, List.length_cons, List.length_nil] at *; omega)))) ?_) | (refine Br.mk ?_ ?_ <;> intro hb <;> (try (first | (exfalso; omega) | exact absurd rfl hb | exact Bool.noConfusion hb | exact absurd (fun e => Bool.noConfusion e) hb | (exfalso; simp only [List.length_cons, List.length_nil] at hb; omega) | (exfalso; simp only [Int.toNat_natCast, Int.toNat_one, List.length_take, List.length_cons, List.length_nil] at hb; omega)))) | (refine XLoad.of (by assumption) rfl rfl (by omega) (by omega) rfl ?_) | (refine New.mk ?_; intro b hb) | (refine New2.mk ?_; intro b c hb hbc) | (refine NewO.mk ?_; intro b c hb hbc) | (refine SameR.same ?_) | (refine Two.mk ?_ ?_) | (refine Tri.mk ?_ ?_ ?_) | (refine ed_eql ?_) | (refine ed_neq ?_) | fail))); all_goals (try (conv => whnf)))
      refine loop_gen tysOk [12] (fun x : Heap × Int => [(12, .val (.int .i64 x.2))]) (fun x => ⟨x.1, [], []⟩) (fun μ x => HS ⟨h4, Wof R, []⟩ x.1 ∧ 0 ≤ x.2 ∧ x.2 ≤ dd ∧ (∀ j : Int, x.2 ≤ j → j < dd → BF x.1 (getI matR.dflt R j)) ∧ μ = (dd - x.2).toNat) ?_
      conv => whnf
      refine ⟨fun h5 hs5 => ⟨dd, (h5, 0), ⟨hs5.more (fun y hy => by cases hy), by simp, by dsimp only; omega, fun j j0 j1 => (kBF j j0 j1).keep hs5.grows.size (fun a ha hb => hs5.grows.same _ hb), by simp⟩, by ((repeat (refine ⟨⟨_, rfl, rfl⟩, ?_⟩)); trivial), hs5.anew⟩, ?_⟩
      rintro μ12 ⟨hJ, i⟩ ⟨f1, f2, f3, f4, f5⟩
      dsimp only at f1 f2 f3 f4 f5 ⊢
      by_cases hi : i < dd
      · have hbf := f4 i (Int.le_refl _) hi
        have hsm := kSm i f2 hi
        rcases hbf with hn0 | ⟨b, cap, BS, o1, o2, o3, o4⟩
        · have kCJ : Held matR hJ [] C dd R := Held.anew (S := ⟨h4, Wof R, []⟩) kC f1
          ((repeat' ((conv => whnf); (first | (refine Ar.fit (by first | omega | (simp only [lo, hi]; omega)) ?_) | (refine VC.mk (by (first | omega | rfl | assumption | exact Sl.plain (by assumption) (by omega) | (and_intros <;> first | omega | rfl | assumption | (simp only [List.length_set]; omega) | (simp only [List.length_append, List.length_take, List.length_replicate, List.length_cons, List.length_nil]; omega) | (simp only [ByteArray.size_extract, ByteArray.size_append]; omega) | (simp only [List.length_cons, List.length_nil]; omega) | (simp only [Int.toNat_natCast, Int.toNat_one, List.length_take, List.length_cons, List.length_nil] at *; omega)))) ?_) | (refine Br.mk ?_ ?_ <;> intro hb <;> (try (first | (exfalso; omega) | exact absurd rfl hb | exact Bool.noConfusion hb | exact absurd (fun e => Bool.noConfusion e) hb | (exfalso; simp only [List.length_cons, List.length_nil] at hb; omega) | (exfalso; simp only [Int.toNat_natCast, Int.toNat_one, List.length_take, List.length_cons, List.length_nil] at hb; omega)))) | (refine XLoad.of (by assumption) rfl rfl (by omega) (by omega) rfl ?_) | (refine New.mk ?_; intro b hb) | (refine New2.mk ?_; intro b c hb hbc) | (refine NewO.mk ?_; intro b c hb hbc) | (refine SameR.same ?_) | (refine Two.mk ?_ ?_) | (refine Tri.mk ?_ ?_ ?_) | (refine ed_eql ?_) | (refine ed_neq ?_) | fail))); all_goals (try (conv => whnf)))
          refine loop_gen tysOk [13] (fun _ : Unit => [(13, .val (.int .i64 0))]) (fun _ => ⟨hJ, [], []⟩) (fun μ _ => μ = 0) ?_
          conv => whnf
          refine ⟨fun h6 hs6 => ⟨0, (), rfl, by ((repeat (refine ⟨⟨_, rfl, rfl⟩, ?_⟩)); trivial), hs6⟩, ?_⟩
          rintro μ13 ⟨⟩ hμ13
          ((repeat' ((conv => whnf); (first | (refine Ar.fit (by first | omega | (simp only [lo, hi]; omega)) ?_) | (refine VC.mk (by (first | omega | rfl | assumption | exact Sl.plain (by assumption) (by omega) | (and_intros <;> first | omega | rfl | assumption | (simp only [List.length_set]; omega) | (simp only [List.length_append, List.length_take, List.length_replicate, List.length_cons, List.length_nil]; omega) | (simp only [ByteArray.size_extract, ByteArray.size_append]; omega) | (simp only [List.length_cons, List.length_nil]; omega) | (simp only [Int.toNat_natCast, Int.toNat_one, List.length_take, List.length_cons, List.length_nil] at *; omega)))) ?_) | (refine Br.mk ?_ ?_ <;> intro hb <;> (try (first | (exfalso; omega) | exact absurd rfl hb | exact Bool.noConfusion hb | exact absurd (fun e => Bool.noConfusion e) hb | (exfalso; simp only [List.length_cons, List.length_nil] at hb; omega) | (exfalso; simp only [Int.toNat_natCast, Int.toNat_one, List.length_take, List.length_cons, List.length_nil] at hb; omega)))) | (refine XLoad.of (by assumption) rfl rfl (by omega) (by omega) rfl ?_) | (refine New.mk ?_; intro b hb) | (refine New2.mk ?_; intro b c hb hbc) | (refine NewO.mk ?_; intro b c hb hbc) | (refine SameR.same ?_) | (refine Two.mk ?_ ?_) | (refine Tri.mk ?_ ?_ ?_) | (refine ed_eql ?_) | (refine ed_neq ?_) | (refine XLoad.held kCJ rfl (by omega) (by omega) rfl ?_) | fail))); all_goals (try (conv => whnf)))
          intro hf hsf
          exact ⟨μ12 - 1, (hf, i + 1), ⟨f1.past hsf (fun y hy => by cases hy), by dsimp only; omega, by dsimp only; omega, fun j j0 j1 => (f4 j (by dsimp only at j0; omega) j1).keep hsf.grows.size (fun a ha hb => hsf.grows.same _ hb), by dsimp only; omega⟩, by omega, by ((repeat (refine ⟨⟨_, rfl, rfl⟩, ?_⟩)); trivial), HS.bare hf⟩
        · have hpl : PlainA (getI matR.dflt R i).A := ⟨b, 0, o1⟩
          have hbW : b ∈ Wof R := mem_W.2 ⟨getI matR.dflt R i, by
            simp only [getI, List.getD]
            rw [List.getElem?_eq_getElem (by omega)]
            exact List.getElem_mem _, _, o1, rfl⟩
          have hsub : ∀ y ∈ [b], y ∈ Wof R := fun y hy => by rw [List.mem_singleton.1 hy]; exact hbW
          ((repeat' ((conv => whnf); (first | (refine Ar.fit (by first | omega | (simp only [lo, hi]; omega)) ?_) | (refine VC.mk (by (first | omega | rfl | assumption | exact Sl.plain (by assumption) (by omega) | (and_intros <;> first | omega | rfl | assumption | (simp only [List.length_set]; omega) | (simp only [List.length_append, List.length_take, List.length_replicate, List.length_cons, List.length_nil]; omega) | (simp only [ByteArray.size_extract, ByteArray.size_append]; omega) | (simp only [List.length_cons, List.length_nil]; omega) | (simp only [Int.toNat_natCast, Int.toNat_one, List.length_take, List.length_cons, List.length_nil] at *; omega)))) ?_) | (refine Br.mk ?_ ?_ <;> intro hb <;> (try (first | (exfalso; omega) | exact absurd rfl hb | exact Bool.noConfusion hb | exact absurd (fun e => Bool.noConfusion e) hb | (exfalso; simp only [List.length_cons, List.length_nil] at hb; omega) | (exfalso; simp only [Int.toNat_natCast, Int.toNat_one, List.length_take, List.length_cons, List.length_nil] at hb; omega)))) | (refine XLoad.of (by assumption) rfl rfl (by omega) (by omega) rfl ?_) | (refine New.mk ?_; intro b hb) | (refine New2.mk ?_; intro b c hb hbc) | (refine NewO.mk ?_; intro b c hb hbc) | (refine SameR.same ?_) | (refine Two.mk ?_ ?_) | (refine Tri.mk ?_ ?_ ?_) | (refine ed_eql ?_) | (refine ed_neq ?_) | fail))); all_goals (try (conv => whnf)))
          refine loop_gen tysOk [13] (fun x : FS => [(13, .val (.int .i64 x.t))]) (fun x => ⟨x.h, [b], [(9, b, .arr 40 bindR x.BS cap)]⟩) (fun μ x => HS ⟨h4, Wof R, []⟩ x.h ∧ x.BS.length = (getI matR.dflt R i).n ∧ 0 ≤ x.t ∧ x.t ≤ (getI matR.dflt R i).n ∧ (∀ j : Int, i + 1 ≤ j → j < dd → BF x.h (getI matR.dflt R j)) ∧ μ = ((getI matR.dflt R i).n - x.t).toNat) ?_
          conv => whnf
          refine ⟨fun h6 hs6 => ⟨(getI matR.dflt R i).n, ⟨h6, BS, 0⟩, ⟨f1.past hs6 (fun y hy => by cases hy), o2.symm, by simp, by dsimp only; omega, fun j j0 j1 => (f4 j (by omega) j1).keep hs6.grows.size (fun a ha hb => hs6.grows.same _ hb), by simp⟩, by ((repeat (refine ⟨⟨_, rfl, rfl⟩, ?_⟩)); trivial), ?_⟩, ?_⟩
          · exact ⟨Nat.le_refl _, fun _ _ _ => rfl, fun e he => by
              have := List.mem_singleton.1 he; subst this
              exact ⟨Nat.lt_of_lt_of_le o3 hs6.grows.size, .inr (by simp), o4.congr (hs6.grows.same _ o3)⟩, List.pairwise_singleton _ _⟩
          rintro μ13 ⟨hE, BE, t⟩ ⟨t1, t2, t3, t4, t5, t6⟩
          dsimp only at t1 t2 t3 t4 t5 t6 ⊢
          have kCE : Held matR hE [b] C dd R := (kC.keep t1).cap hsub
          by_cases ht : t < (getI matR.dflt R i).n
          · ((repeat' ((conv => whnf); (first | (refine Ar.fit (by first | omega | (simp only [lo, hi]; omega)) ?_) | (refine VC.mk (by (first | omega | rfl | assumption | exact Sl.plain (by assumption) (by omega) | (and_intros <;> first | omega | rfl | assumption | (simp only [List.length_set]; omega) | (simp only [List.length_append, List.length_take, List.length_replicate, List.length_cons, List.length_nil]; omega) | (simp only [ByteArray.size_extract, ByteArray.size_append]; omega) | (simp only [List.length_cons, List.length_nil]; omega) | (simp only [Int.toNat_natCast, Int.toNat_one, List.length_take, List.length_cons, List.length_nil] at *; omega)))) ?_) | (refine Br.mk ?_ ?_ <;> intro hb <;> (try (first | (exfalso; omega) | exact absurd rfl hb | exact Bool.noConfusion hb | exact absurd (fun e => Bool.noConfusion e) hb | (exfalso; simp only [List.length_cons, List.length_nil] at hb; omega) | (exfalso; simp only [Int.toNat_natCast, Int.toNat_one, List.length_take, List.length_cons, List.length_nil] at hb; omega)))) | (refine XLoad.of (by assumption) rfl rfl (by omega) (by omega) rfl ?_) | (refine New.mk ?_; intro b hb) | (refine New2.mk ?_; intro b c hb hbc) | (refine NewO.mk ?_; intro b c hb hbc) | (refine SameR.same ?_) | (refine Two.mk ?_ ?_) | (refine Tri.mk ?_ ?_ ?_) | (refine ed_eql ?_) | (refine ed_neq ?_) | (refine XLoad.held kCE rfl (by omega) (by omega) rfl ?_) | (refine XStore.mk ⟨9, b, o1, ?_⟩) | fail))); all_goals (try (conv => whnf)))
            intro hf hsf
            exact ⟨μ13 - 1, ⟨hE, _, t + 1⟩, ⟨t1, by dsimp only; rw [List.length_set]; exact t2, by dsimp only; omega, by dsimp only; omega, t5, by dsimp only; omega⟩, by omega, by ((repeat (refine ⟨⟨_, rfl, rfl⟩, ?_⟩)); trivial), hsf⟩
          · ((repeat' ((conv => whnf); (first | (refine Ar.fit (by first | omega | (simp only [lo, hi]; omega)) ?_) | (refine VC.mk (by (first | omega | rfl | assumption | exact Sl.plain (by assumption) (by omega) | (and_intros <;> first | omega | rfl | assumption | (simp only [List.length_set]; omega) | (simp only [List.length_append, List.length_take, List.length_replicate, List.length_cons, List.length_nil]; omega) | (simp only [ByteArray.size_extract, ByteArray.size_append]; omega) | (simp only [List.length_cons, List.length_nil]; omega) | (simp only [Int.toNat_natCast, Int.toNat_one, List.length_take, List.length_cons, List.length_nil] at *; omega)))) ?_) | (refine Br.mk ?_ ?_ <;> intro hb <;> (try (first | (exfalso; omega) | exact absurd rfl hb | exact Bool.noConfusion hb | exact absurd (fun e => Bool.noConfusion e) hb | (exfalso; simp only [List.length_cons, List.length_nil] at hb; omega) | (exfalso; simp only [Int.toNat_natCast, Int.toNat_one, List.length_take, List.length_cons, List.length_nil] at hb; omega)))) | (refine XLoad.of (by assumption) rfl rfl (by omega) (by omega) rfl ?_) | (refine New.mk ?_; intro b hb) | (refine New2.mk ?_; intro b c hb hbc) | (refine NewO.mk ?_; intro b c hb hbc) | (refine SameR.same ?_) | (refine Two.mk ?_ ?_) | (refine Tri.mk ?_ ?_ ?_) | (refine ed_eql ?_) | (refine ed_neq ?_) | (refine XLoad.held kCE rfl (by omega) (by omega) rfl ?_) | fail))); all_goals (try (conv => whnf)))
            intro hf hsf
            exact ⟨μ12 - 1, (hf, i + 1), ⟨t1.past hsf hsub, by dsimp only; omega, by dsimp only; omega, fun j j0 j1 => (t5 j j0 j1).keep hsf.size (fun a ha hb => hsf.frame a.block hb (fun hm => by
              have := sep_at kSep f2 (show i < j by dsimp only at j0; omega) (by omega) o1 ha
              have := List.mem_singleton.1 hm
              dsimp only at *
              omega)), by dsimp only; omega⟩, by omega, by ((repeat (refine ⟨⟨_, rfl, rfl⟩, ?_⟩)); trivial), HS.bare hf⟩
      · have hid : i = dd := by omega
        subst hid
        ((repeat' ((conv => whnf); (first | (refine Ar.fit (by first | omega | (simp only [lo, hi]; omega)) ?_) | (refine VC.mk (by (first | omega | rfl | assumption | exact Sl.plain (by assumption) (by omega) | (and_intros <;> first | omega | rfl | assumption | (simp only [List.length_set]; omega) | (simp only [List.length_append, List.length_take, List.length_replicate, List.length_cons, List.length_nil]; omega) | (simp only [ByteArray.size_extract, ByteArray.size_append]; omega) | (simp only [List.length_cons, List.length_nil]; omega) | (simp only [Int.toNat_natCast, Int.toNat_one, List.length_take, List.length_cons, List.length_nil] at *; omega)))) ?_) | (refine Br.mk ?_ ?_ <;> intro hb <;> (try (first | (exfalso; omega) | exact absurd rfl hb | exact Bool.noConfusion hb | exact absurd (fun e => Bool.noConfusion e) hb | (exfalso; simp only [List.length_cons, List.length_nil] at hb; omega) | (exfalso; simp only [Int.toNat_natCast, Int.toNat_one, List.length_take, List.length_cons, List.length_nil] at hb; omega)))) | (refine XLoad.of (by assumption) rfl rfl (by omega) (by omega) rfl ?_) | (refine New.mk ?_; intro b hb) | (refine New2.mk ?_; intro b c hb hbc) | (refine NewO.mk ?_; intro b c hb hbc) | (refine SameR.same ?_) | (refine Two.mk ?_ ?_) | (refine Tri.mk ?_ ?_ ?_) | (refine ed_eql ?_) | (refine ed_neq ?_) | fail))); all_goals (try (conv => whnf)))
        refine CallK.epoch (fun h1 hq => rpick_any A n _ L _ k _ M X h1 (Held.at_ (S := ⟨h4, Wof R, []⟩) (Held.bas hL bas4) (f1.past hq (fun y hy => by cases hy))) (by omega) (Held.at_ (S := ⟨h4, Wof R, []⟩) (Held.bas hM bas4) (f1.past hq (fun y hy => by cases hy))) (by omega)
          (hX.mono fun m hm a r => ⟨r.1, r.2.1, Held.at_ (S := ⟨h4, Wof R, []⟩) (Held.bas r.2.2 bas4) (f1.past hq (fun y hy => by cases hy))⟩)) ?_
        rintro h7 u h8 hq7 ⟨⟨C2, d2, e2, er2, R2, RA2, rfl, hr2, hC2, hR2⟩, hg8⟩
        obtain ⟨rfl, rfl⟩ := hr.uniq hr2
        have base7 : HS ⟨h4, Wof R, []⟩ h7 := f1.past hq7 (fun y hy => by cases hy)
        have sB := (Held.at_ (S := ⟨h4, Wof R, []⟩) kB base7).grows hg8
        have sBR : All2 (RM h8) R' RA := kBR.mono fun m hm a r => ⟨r.1, r.2.1, (Held.at_ (S := ⟨h4, Wof R, []⟩) r.2.2 base7).grows hg8⟩
        have sG := (Held.at_ (S := ⟨h4, Wof R, []⟩) (Held.bas hG1 bas14) base7).grows hg8
        have sGR : All2 (RM h8) ([] : List Mt) X := hGR1.mono fun m hm a r => ⟨r.1, r.2.1, (Held.at_ (S := ⟨h4, Wof R, []⟩) (Held.bas r.2.2 bas14) base7).grows hg8⟩
        have sM := (Held.at_ (S := ⟨h4, Wof R, []⟩) (Held.bas hM bas4) base7).grows hg8
        have sX : All2 (RM h8) M X := hX.mono fun m hm a r => ⟨r.1, r.2.1, (Held.at_ (S := ⟨h4, Wof R, []⟩) (Held.bas r.2.2 bas4) base7).grows hg8⟩
        have gfin : Grows h h8 := (bas4.fin (S := ⟨h4, Wof R, []⟩) base7).trans hg8
        ((repeat' ((conv => whnf); (first | (refine Ar.fit (by first | omega | (simp only [lo, hi]; omega)) ?_) | (refine VC.mk (by (first | omega | rfl | assumption | exact Sl.plain (by assumption) (by omega) | (and_intros <;> first | omega | rfl | assumption | (simp only [List.length_set]; omega) | (simp only [List.length_append, List.length_take, List.length_replicate, List.length_cons, List.length_nil]; omega) | (simp only [ByteArray.size_extract, ByteArray.size_append]; omega) | (simp only [List.length_cons, List.length_nil]; omega) | (simp only [Int.toNat_natCast, Int.toNat_one, List.length_take, List.length_cons, List.length_nil] at *; omega)))) ?_) | (refine Br.mk ?_ ?_ <;> intro hb <;> (try (first | (exfalso; omega) | exact absurd rfl hb | exact Bool.noConfusion hb | exact absurd (fun e => Bool.noConfusion e) hb | (exfalso; simp only [List.length_cons, List.length_nil] at hb; omega) | (exfalso; simp only [Int.toNat_natCast, Int.toNat_one, List.length_take, List.length_cons, List.length_nil] at hb; omega)))) | (refine XLoad.of (by assumption) rfl rfl (by omega) (by omega) rfl ?_) | (refine New.mk ?_; intro b hb) | (refine New2.mk ?_; intro b c hb hbc) | (refine NewO.mk ?_; intro b c hb hbc) | (refine SameR.same ?_) | (refine Two.mk ?_ ?_) | (refine Tri.mk ?_ ?_ ?_) | (refine ed_eql ?_) | (refine ed_neq ?_) | (apply CallK.pure; (case hh => (intro h1 hs; exact fixed_any h1))) | (apply CallK.pure; (case hh => (intro h1 hs; exact (same_any _ _ _ _ _ _ _ _ _ _ _ (sB.grows hs.grows) (hC2.grows hs.grows) (RMs.grows sBR hs.grows) (RMs.grows hR2 hs.grows)).mono (fun v h' ⟨e1, e2⟩ => ⟨e1.trans (prop_true rfl), e2⟩)))) | (apply CallK.pure; (case hh => (intro h1 hs; exact (same_any _ _ _ _ _ _ _ _ _ _ _ (sG.grows hs.grows) (sM.grows hs.grows) (RMs.grows sGR hs.grows) (RMs.grows sX hs.grows)).mono (fun v h' ⟨e1, e2⟩ => ⟨e1.trans (prop_true rfl), e2⟩)))) | fail))); all_goals (try (conv => whnf)))
        exact ⟨fun h' hs => ⟨prop_true rfl, gfin.trans hs.grows⟩⟩
    · have hco := p6 bo co rfl
      subst p3
      have hMGl := d.reads.len
      dsimp only at hMGl
      dsimp only [moKi, moC, blks] at p7 p9 ⊢
      ((repeat' ((conv => whnf); (first | (refine Ar.fit (by first | omega | (simp only [lo, hi]; omega)) ?_) | (refine VC.mk (by (first | omega | rfl | assumption | exact Sl.plain (by assumption) (by omega) | (and_intros <;> first | omega | rfl | assumption | (simp only [List.length_set]; omega) | (simp only [List.length_append, List.length_take, List.length_replicate, List.length_cons, List.length_nil]; omega) | (simp only [ByteArray.size_extract, ByteArray.size_append]; omega) | (simp only [List.length_cons, List.length_nil]; omega) | (simp only [Int.toNat_natCast, Int.toNat_one, List.length_take, List.length_cons, List.length_nil] at *; omega)))) ?_) | (refine Br.mk ?_ ?_ <;> intro hb <;> (try (first | (exfalso; omega) | exact absurd rfl hb | exact Bool.noConfusion hb | exact absurd (fun e => Bool.noConfusion e) hb | (exfalso; simp only [List.length_cons, List.length_nil] at hb; omega) | (exfalso; simp only [Int.toNat_natCast, Int.toNat_one, List.length_take, List.length_cons, List.length_nil] at hb; omega)))) | (refine XLoad.of (by assumption) rfl rfl (by omega) (by omega) rfl ?_) | (refine New.mk ?_; intro b hb) | (refine New2.mk ?_; intro b c hb hbc) | (refine NewO.mk ?_; intro b c hb hbc) | (refine SameR.same ?_) | (refine Two.mk ?_ ?_) | (refine Tri.mk ?_ ?_ ?_) | (refine ed_eql ?_) | (refine ed_neq ?_) | fail))); all_goals (try (conv => whnf)))
      refine CallK.epoch (fun h1 hq => pick_any A n _ L _ _ _ MG X h1 ((Held.bas hL p9).at_ hq) (by omega) (by have t := hq.sl (k := 38) rfl (Nat.le_refl MG.length); rw [List.take_length] at t; exact t) (by omega) (d.reads.mono fun m hm a ⟨r1, r2, r3⟩ => ⟨r1, r2, Held.at_ (S := ⟨hI, _, _⟩) r3 hq⟩) hbz) ?_
      rintro h1 u h2 hq ⟨⟨C, dd, e, er, R, RA, rfl, hr, hn⟩, hg⟩
      have gh1 := p9.fin hq
      have hG1 : Sl matR h1 (some ⟨bo, 0, none⟩) MG.length MG := (by have t := hq.sl (k := 38) rfl (Nat.le_refl MG.length); rw [List.take_length] at t; exact t)
      have hGR1 : All2 (RM h1) MG X := d.reads.mono fun m hm a ⟨r1, r2, r3⟩ => ⟨r1, r2, Held.at_ (S := ⟨hI, _, _⟩) r3 hq⟩
      clear hq p9
      ((repeat' ((conv => whnf); (first | (refine Ar.fit (by first | omega | (simp only [lo, hi]; omega)) ?_) | (refine VC.mk (by (first | omega | rfl | assumption | exact Sl.plain (by assumption) (by omega) | (and_intros <;> first | omega | rfl | assumption | (simp only [List.length_set]; omega) | (simp only [List.length_append, List.length_take, List.length_replicate, List.length_cons, List.length_nil]; omega) | (simp only [ByteArray.size_extract, ByteArray.size_append]; omega) | (simp only [List.length_cons, List.length_nil]; omega) | (simp only [Int.toNat_natCast, Int.toNat_one, List.length_take, List.length_cons, List.length_nil] at *; omega)))) ?_) | (refine Br.mk ?_ ?_ <;> intro hb <;> (try (first | (exfalso; omega) | exact absurd rfl hb | exact Bool.noConfusion hb | exact absurd (fun e => Bool.noConfusion e) hb | (exfalso; simp only [List.length_cons, List.length_nil] at hb; omega) | (exfalso; simp only [Int.toNat_natCast, Int.toNat_one, List.length_take, List.length_cons, List.length_nil] at hb; omega)))) | (refine XLoad.of (by assumption) rfl rfl (by omega) (by omega) rfl ?_) | (refine New.mk ?_; intro b hb) | (refine New2.mk ?_; intro b c hb hbc) | (refine NewO.mk ?_; intro b c hb hbc) | (refine SameR.same ?_) | (refine Two.mk ?_ ?_) | (refine Tri.mk ?_ ?_ ?_) | (refine ed_eql ?_) | (refine ed_neq ?_) | fail))); all_goals (try (conv => whnf)))
      refine CallK.epoch (fun h1 hq => pick_is hr ((hL.grows (gh1.trans hg)).grows hq.grows) (by omega) ((hG1.grows hg).grows hq.grows) (by omega) (RMs.grows (RMs.grows hGR1 hg) hq.grows) hbz) ?_
      rintro h3 u h4 hq3 ⟨⟨C', d', e', R', rfl, hn'⟩, hg3⟩
      have g24 := hq3.grows.trans hg3
      have hWlt : ∀ y ∈ Wof R, h1.size ≤ y ∧ y < h2.size := fun y hy => by
        obtain ⟨m, hm, a, ha, rfl⟩ := mem_W.1 hy
        obtain ⟨j, hj, rfl⟩ := List.mem_iff_getElem.1 hm
        have hrl := hn.reads.len
        have g := hn.reads.get ⟨0, 0, none, 0, 0⟩ ⟨0, 0, []⟩ j (by omega) (by omega)
        have g2 : getI ⟨0, 0, none, 0, 0⟩ R (j : Int) = R[j] := by simp only [getI, List.getD, Int.toNat_natCast]; rw [List.getElem?_eq_getElem hj]; rfl
        rw [g2] at g
        obtain ⟨A1, n1, c1, q1, q2, q3⟩ := g.2.2.at_
        cases q1
        exact q3 a ha
      have bas4 : Bas h h4 (Wof R) := ⟨(gh1.trans hg).trans g24, fun y hy => Nat.le_trans gh1.size (hWlt y hy).1⟩
      have bas14 : Bas h1 h4 (Wof R) := ⟨hg.trans g24, fun y hy => (hWlt y hy).1⟩
      have kC : Held matR h4 (Wof R) C dd R := ⟨hn.sl.1.grows g24, fun h0 a ha => by
        obtain ⟨A1, n1, c1, q1, q2, q3⟩ := hn.own.at_
        cases q1
        refine ⟨Nat.lt_of_lt_of_le (q3 a ha).2 g24.size, fun hm => ?_⟩
        obtain ⟨m, hm, a', ha', e⟩ := mem_W.1 hm
        exact hn.apart m hm a' ha' a ha e.symm⟩
      have kB : Held matR h4 (Wof R) C' d' R' := ⟨hn'.sl.1, fun h0 a ha => by
        obtain ⟨A1, n1, c1, q1, q2, q3⟩ := hn'.own.at_
        cases q1
        refine ⟨(q3 a ha).2, fun hm => ?_⟩
        have := (hWlt _ hm).2
        have := (q3 a ha).1
        have := hq3.size
        dsimp only at this
        omega⟩
      have kBR : All2 (fun m a => m.rule = a.rule ∧ m.part = a.part ∧ Held bindR h4 (Wof R) m.A m.n a.bs) R' RA := hn'.reads.mono fun m hm a ⟨r1, r2, r3⟩ => ⟨r1, r2, by
        obtain ⟨A1, n1, c1, q1, q2, q3⟩ := r3.at_
        cases q1
        refine ⟨q2, fun h0 a ha => ⟨(q3 a ha).2, fun hm => ?_⟩⟩
        have := (hWlt _ hm).2
        have := (q3 a ha).1
        have := hq3.size
        dsimp only at this
        omega⟩
      have kBF : ∀ j : Int, 0 ≤ j → j < dd → BF h4 (getI matR.dflt R j) := fun j j0 j1 => by
        have hrl := hn.reads.len
        have hcl := hn.sl.1.len_eq
        have g := hn.reads.get matR.dflt ⟨0, 0, []⟩ j j0 (by omega)
        exact (BF.of g.2.2).keep g24.size (fun a ha hb => g24.same _ hb)
      have kSm : ∀ j : Int, 0 ≤ j → j < dd → (getI matR.dflt R j).n ≤ 9223372036854775807 := fun j j0 j1 => by
        have hcl := hn.sl.1.len_eq
        exact (hn.sl.2.get matR.dflt ⟨0, 0, []⟩ j j0 (by omega)).2.2.small
      have kSep := hn.sep
      have kCp := kC.sl
      have hCs := hn.sl.1.small
      have hCl := hn.sl.1.len_eq
      have hR'l := hn'.sl.1.len_eq
      clear hn hn'
      ((repeat' ((conv => whnf); (first | (refine Ar.fit (by first | omega | (simp only [lo, hi]; omega)) ?_) | (refine VC.mk (by (first | omega | rfl | assumption | exact Sl.plain (by assumption) (by omega) | (and_intros <;> first | omega | rfl | assumption | (simp only [List.length_set]; omega) | (simp only [List.length_append, List.length_take, List.length_replicate, List.length_cons, List.length_nil]; omega) | (simp only [ByteArray.size_extract, ByteArray.size_append]; omega) | (simp only [List.length_cons, List.length_nil]; omega) | (simp only [Int.toNat_natCast, Int.toNat_one, List.length_take, List.length_cons, List.length_nil] at *; omega)))) ?_) | (refine Br.mk ?_ ?_ <;> intro hb <;> (try (first | (exfalso; omega) | exact absurd rfl hb | exact Bool.noConfusion hb | exact absurd (fun e => Bool.noConfusion e) hb | (exfalso; simp only [List.length_cons, List.length_nil] at hb; omega) | (exfalso; simp only [Int.toNat_natCast, Int.toNat_one, List.length_take, List.length_cons, List.length_nil] at hb; omega)))) | (refine XLoad.of (by assumption) rfl rfl (by omega) (by omega) rfl ?_) | (refine New.mk ?_; intro b hb) | (refine New2.mk ?_; intro b c hb hbc) | (refine NewO.mk ?_; intro b c hb hbc) | (refine SameR.same ?_) | (refine Two.mk ?_ ?_) | (refine Tri.mk ?_ ?_ ?_) | (refine ed_eql ?_) | (refine ed_neq ?_) | fail))); all_goals (try (conv => whnf)))
      refine loop_gen tysOk [12] (fun x : Heap × Int => [(12, .val (.int .i64 x.2))]) (fun x => ⟨x.1, [], []⟩) (fun μ x => HS ⟨h4, Wof R, []⟩ x.1 ∧ 0 ≤ x.2 ∧ x.2 ≤ dd ∧ (∀ j : Int, x.2 ≤ j → j < dd → BF x.1 (getI matR.dflt R j)) ∧ μ = (dd - x.2).toNat) ?_
      conv => whnf
      refine ⟨fun h5 hs5 => ⟨dd, (h5, 0), ⟨hs5.more (fun y hy => by cases hy), by simp, by dsimp only; omega, fun j j0 j1 => (kBF j j0 j1).keep hs5.grows.size (fun a ha hb => hs5.grows.same _ hb), by simp⟩, by ((repeat (refine ⟨⟨_, rfl, rfl⟩, ?_⟩)); trivial), hs5.anew⟩, ?_⟩
      rintro μ12 ⟨hJ, i⟩ ⟨f1, f2, f3, f4, f5⟩
      dsimp only at f1 f2 f3 f4 f5 ⊢
      by_cases hi : i < dd
      · have hbf := f4 i (Int.le_refl _) hi
        have hsm := kSm i f2 hi
        rcases hbf with hn0 | ⟨b, cap, BS, o1, o2, o3, o4⟩
        · have kCJ : Held matR hJ [] C dd R := Held.anew (S := ⟨h4, Wof R, []⟩) kC f1
          ((repeat' ((conv => whnf); (first | (refine Ar.fit (by first | omega | (simp only [lo, hi]; omega)) ?_) | (refine VC.mk (by (first | omega | rfl | assumption | exact Sl.plain (by assumption) (by omega) | (and_intros <;> first | omega | rfl | assumption | (simp only [List.length_set]; omega) | (simp only [List.length_append, List.length_take, List.length_replicate, List.length_cons, List.length_nil]; omega) | (simp only [ByteArray.size_extract, ByteArray.size_append]; omega) | (simp only [List.length_cons, List.length_nil]; omega) | (simp only [Int.toNat_natCast, Int.toNat_one, List.length_take, List.length_cons, List.length_nil] at *; omega)))) ?_) | (refine Br.mk ?_ ?_ <;> intro hb <;> (try (first | (exfalso; omega) | exact absurd rfl hb | exact Bool.noConfusion hb | exact absurd (fun e => Bool.noConfusion e) hb | (exfalso; simp only [List.length_cons, List.length_nil] at hb; omega) | (exfalso; simp only [Int.toNat_natCast, Int.toNat_one, List.length_take, List.length_cons, List.length_nil] at hb; omega)))) | (refine XLoad.of (by assumption) rfl rfl (by omega) (by omega) rfl ?_) | (refine New.mk ?_; intro b hb) | (refine New2.mk ?_; intro b c hb hbc) | (refine NewO.mk ?_; intro b c hb hbc) | (refine SameR.same ?_) | (refine Two.mk ?_ ?_) | (refine Tri.mk ?_ ?_ ?_) | (refine ed_eql ?_) | (refine ed_neq ?_) | fail))); all_goals (try (conv => whnf)))
          refine loop_gen tysOk [13] (fun _ : Unit => [(13, .val (.int .i64 0))]) (fun _ => ⟨hJ, [], []⟩) (fun μ _ => μ = 0) ?_
          conv => whnf
          refine ⟨fun h6 hs6 => ⟨0, (), rfl, by ((repeat (refine ⟨⟨_, rfl, rfl⟩, ?_⟩)); trivial), hs6⟩, ?_⟩
          rintro μ13 ⟨⟩ hμ13
          ((repeat' ((conv => whnf); (first | (refine Ar.fit (by first | omega | (simp only [lo, hi]; omega)) ?_) | (refine VC.mk (by (first | omega | rfl | assumption | exact Sl.plain (by assumption) (by omega) | (and_intros <;> first | omega | rfl | assumption | (simp only [List.length_set]; omega) | (simp only [List.length_append, List.length_take, List.length_replicate, List.length_cons, List.length_nil]; omega) | (simp only [ByteArray.size_extract, ByteArray.size_append]; omega) | (simp only [List.length_cons, List.length_nil]; omega) | (simp only [Int.toNat_natCast, Int.toNat_one, List.length_take, List.length_cons, List.length_nil] at *; omega)))) ?_) | (refine Br.mk ?_ ?_ <;> intro hb <;> (try (first | (exfalso; omega) | exact absurd rfl hb | exact Bool.noConfusion hb | exact absurd (fun e => Bool.noConfusion e) hb | (exfalso; simp only [List.length_cons, List.length_nil] at hb; omega) | (exfalso; simp only [Int.toNat_natCast, Int.toNat_one, List.length_take, List.length_cons, List.length_nil] at hb; omega)))) | (refine XLoad.of (by assumption) rfl rfl (by omega) (by omega) rfl ?_) | (refine New.mk ?_; intro b hb) | (refine New2.mk ?_; intro b c hb hbc) | (refine NewO.mk ?_; intro b c hb hbc) | (refine SameR.same ?_) | (refine Two.mk ?_ ?_) | (refine Tri.mk ?_ ?_ ?_) | (refine ed_eql ?_) | (refine ed_neq ?_) | (refine XLoad.held kCJ rfl (by omega) (by omega) rfl ?_) | fail))); all_goals (try (conv => whnf)))
          intro hf hsf
          exact ⟨μ12 - 1, (hf, i + 1), ⟨f1.past hsf (fun y hy => by cases hy), by dsimp only; omega, by dsimp only; omega, fun j j0 j1 => (f4 j (by dsimp only at j0; omega) j1).keep hsf.grows.size (fun a ha hb => hsf.grows.same _ hb), by dsimp only; omega⟩, by omega, by ((repeat (refine ⟨⟨_, rfl, rfl⟩, ?_⟩)); trivial), HS.bare hf⟩
        · have hpl : PlainA (getI matR.dflt R i).A := ⟨b, 0, o1⟩
          have hbW : b ∈ Wof R := mem_W.2 ⟨getI matR.dflt R i, by
            simp only [getI, List.getD]
            rw [List.getElem?_eq_getElem (by omega)]
            exact List.getElem_mem _, _, o1, rfl⟩
          have hsub : ∀ y ∈ [b], y ∈ Wof R := fun y hy => by rw [List.mem_singleton.1 hy]; exact hbW
          ((repeat' ((conv => whnf); (first | (refine Ar.fit (by first | omega | (simp only [lo, hi]; omega)) ?_) | (refine VC.mk (by (first | omega | rfl | assumption | exact Sl.plain (by assumption) (by omega) | (and_intros <;> first | omega | rfl | assumption | (simp only [List.length_set]; omega) | (simp only [List.length_append, List.length_take, List.length_replicate, List.length_cons, List.length_nil]; omega) | (simp only [ByteArray.size_extract, ByteArray.size_append]; omega) | (simp only [List.length_cons, List.length_nil]; omega) | (simp only [Int.toNat_natCast, Int.toNat_one, List.length_take, List.length_cons, List.length_nil] at *; omega)))) ?_) | (refine Br.mk ?_ ?_ <;> intro hb <;> (try (first | (exfalso; omega) | exact absurd rfl hb | exact Bool.noConfusion hb | exact absurd (fun e => Bool.noConfusion e) hb | (exfalso; simp only [List.length_cons, List.length_nil] at hb; omega) | (exfalso; simp only [Int.toNat_natCast, Int.toNat_one, List.length_take, List.length_cons, List.length_nil] at hb; omega)))) | (refine XLoad.of (by assumption) rfl rfl (by omega) (by omega) rfl ?_) | (refine New.mk ?_; intro b hb) | (refine New2.mk ?_; intro b c hb hbc) | (refine NewO.mk ?_; intro b c hb hbc) | (refine SameR.same ?_) | (refine Two.mk ?_ ?_) | (refine Tri.mk ?_ ?_ ?_) | (refine ed_eql ?_) | (refine ed_neq ?_) | fail))); all_goals (try (conv => whnf)))
          refine loop_gen tysOk [13] (fun x : FS => [(13, .val (.int .i64 x.t))]) (fun x => ⟨x.h, [b], [(9, b, .arr 40 bindR x.BS cap)]⟩) (fun μ x => HS ⟨h4, Wof R, []⟩ x.h ∧ x.BS.length = (getI matR.dflt R i).n ∧ 0 ≤ x.t ∧ x.t ≤ (getI matR.dflt R i).n ∧ (∀ j : Int, i + 1 ≤ j → j < dd → BF x.h (getI matR.dflt R j)) ∧ μ = ((getI matR.dflt R i).n - x.t).toNat) ?_
          conv => whnf
          refine ⟨fun h6 hs6 => ⟨(getI matR.dflt R i).n, ⟨h6, BS, 0⟩, ⟨f1.past hs6 (fun y hy => by cases hy), o2.symm, by simp, by dsimp only; omega, fun j j0 j1 => (f4 j (by omega) j1).keep hs6.grows.size (fun a ha hb => hs6.grows.same _ hb), by simp⟩, by ((repeat (refine ⟨⟨_, rfl, rfl⟩, ?_⟩)); trivial), ?_⟩, ?_⟩
          · exact ⟨Nat.le_refl _, fun _ _ _ => rfl, fun e he => by
              have := List.mem_singleton.1 he; subst this
              exact ⟨Nat.lt_of_lt_of_le o3 hs6.grows.size, .inr (by simp), o4.congr (hs6.grows.same _ o3)⟩, List.pairwise_singleton _ _⟩
          rintro μ13 ⟨hE, BE, t⟩ ⟨t1, t2, t3, t4, t5, t6⟩
          dsimp only at t1 t2 t3 t4 t5 t6 ⊢
          have kCE : Held matR hE [b] C dd R := (kC.keep t1).cap hsub
          by_cases ht : t < (getI matR.dflt R i).n
          · ((repeat' ((conv => whnf); (first | (refine Ar.fit (by first | omega | (simp only [lo, hi]; omega)) ?_) | (refine VC.mk (by (first | omega | rfl | assumption | exact Sl.plain (by assumption) (by omega) | (and_intros <;> first | omega | rfl | assumption | (simp only [List.length_set]; omega) | (simp only [List.length_append, List.length_take, List.length_replicate, List.length_cons, List.length_nil]; omega) | (simp only [ByteArray.size_extract, ByteArray.size_append]; omega) | (simp only [List.length_cons, List.length_nil]; omega) | (simp only [Int.toNat_natCast, Int.toNat_one, List.length_take, List.length_cons, List.length_nil] at *; omega)))) ?_) | (refine Br.mk ?_ ?_ <;> intro hb <;> (try (first | (exfalso; omega) | exact absurd rfl hb | exact Bool.noConfusion hb | exact absurd (fun e => Bool.noConfusion e) hb | (exfalso; simp only [List.length_cons, List.length_nil] at hb; omega) | (exfalso; simp only [Int.toNat_natCast, Int.toNat_one, List.length_take, List.length_cons, List.length_nil] at hb; omega)))) | (refine XLoad.of (by assumption) rfl rfl (by omega) (by omega) rfl ?_) | (refine New.mk ?_; intro b hb) | (refine New2.mk ?_; intro b c hb hbc) | (refine NewO.mk ?_; intro b c hb hbc) | (refine SameR.same ?_) | (refine Two.mk ?_ ?_) | (refine Tri.mk ?_ ?_ ?_) | (refine ed_eql ?_) | (refine ed_neq ?_) | (refine XLoad.held kCE rfl (by omega) (by omega) rfl ?_) | (refine XStore.mk ⟨9, b, o1, ?_⟩) | fail))); all_goals (try (conv => whnf)))
            intro hf hsf
            exact ⟨μ13 - 1, ⟨hE, _, t + 1⟩, ⟨t1, by dsimp only; rw [List.length_set]; exact t2, by dsimp only; omega, by dsimp only; omega, t5, by dsimp only; omega⟩, by omega, by ((repeat (refine ⟨⟨_, rfl, rfl⟩, ?_⟩)); trivial), hsf⟩
          · ((repeat' ((conv => whnf); (first | (refine Ar.fit (by first | omega | (simp only [lo, hi]; omega)) ?_) | (refine VC.mk (by (first | omega | rfl | assumption | exact Sl.plain (by assumption) (by omega) | (and_intros <;> first | omega | rfl | assumption | (simp only [List.length_set]; omega) | (simp only [List.length_append, List.length_take, List.length_replicate, List.length_cons, List.length_nil]; omega) | (simp only [ByteArray.size_extract, ByteArray.size_append]; omega) | (simp only [List.length_cons, List.length_nil]; omega) | (simp only [Int.toNat_natCast, Int.toNat_one, List.length_take, List.length_cons, List.length_nil] at *; omega)))) ?_) | (refine Br.mk ?_ ?_ <;> intro hb <;> (try (first | (exfalso; omega) | exact absurd rfl hb | exact Bool.noConfusion hb | exact absurd (fun e => Bool.noConfusion e) hb | (exfalso; simp only [List.length_cons, List.length_nil] at hb; omega) | (exfalso; simp only [Int.toNat_natCast, Int.toNat_one, List.length_take, List.length_cons, List.length_nil] at hb; omega)))) | (refine XLoad.of (by assumption) rfl rfl (by omega) (by omega) rfl ?_) | (refine New.mk ?_; intro b hb) | (refine New2.mk ?_; intro b c hb hbc) | (refine NewO.mk ?_; intro b c hb hbc) | (refine SameR.same ?_) | (refine Two.mk ?_ ?_) | (refine Tri.mk ?_ ?_ ?_) | (refine ed_eql ?_) | (refine ed_neq ?_) | (refine XLoad.held kCE rfl (by omega) (by omega) rfl ?_) | fail))); all_goals (try (conv => whnf)))
            intro hf hsf
            exact ⟨μ12 - 1, (hf, i + 1), ⟨t1.past hsf hsub, by dsimp only; omega, by dsimp only; omega, fun j j0 j1 => (t5 j j0 j1).keep hsf.size (fun a ha hb => hsf.frame a.block hb (fun hm => by
              have := sep_at kSep f2 (show i < j by dsimp only at j0; omega) (by omega) o1 ha
              have := List.mem_singleton.1 hm
              dsimp only at *
              omega)), by dsimp only; omega⟩, by omega, by ((repeat (refine ⟨⟨_, rfl, rfl⟩, ?_⟩)); trivial), HS.bare hf⟩
      · have hid : i = dd := by omega
        subst hid
        ((repeat' ((conv => whnf); (first | (refine Ar.fit (by first | omega | (simp only [lo, hi]; omega)) ?_) | (refine VC.mk (by (first | omega | rfl | assumption | exact Sl.plain (by assumption) (by omega) | (and_intros <;> first | omega | rfl | assumption | (simp only [List.length_set]; omega) | (simp only [List.length_append, List.length_take, List.length_replicate, List.length_cons, List.length_nil]; omega) | (simp only [ByteArray.size_extract, ByteArray.size_append]; omega) | (simp only [List.length_cons, List.length_nil]; omega) | (simp only [Int.toNat_natCast, Int.toNat_one, List.length_take, List.length_cons, List.length_nil] at *; omega)))) ?_) | (refine Br.mk ?_ ?_ <;> intro hb <;> (try (first | (exfalso; omega) | exact absurd rfl hb | exact Bool.noConfusion hb | exact absurd (fun e => Bool.noConfusion e) hb | (exfalso; simp only [List.length_cons, List.length_nil] at hb; omega) | (exfalso; simp only [Int.toNat_natCast, Int.toNat_one, List.length_take, List.length_cons, List.length_nil] at hb; omega)))) | (refine XLoad.of (by assumption) rfl rfl (by omega) (by omega) rfl ?_) | (refine New.mk ?_; intro b hb) | (refine New2.mk ?_; intro b c hb hbc) | (refine NewO.mk ?_; intro b c hb hbc) | (refine SameR.same ?_) | (refine Two.mk ?_ ?_) | (refine Tri.mk ?_ ?_ ?_) | (refine ed_eql ?_) | (refine ed_neq ?_) | fail))); all_goals (try (conv => whnf)))
        refine CallK.epoch (fun h1 hq => rpick_any A n _ L _ k _ M X h1 (Held.at_ (S := ⟨h4, Wof R, []⟩) (Held.bas hL bas4) (f1.past hq (fun y hy => by cases hy))) (by omega) (Held.at_ (S := ⟨h4, Wof R, []⟩) (Held.bas hM bas4) (f1.past hq (fun y hy => by cases hy))) (by omega)
          (hX.mono fun m hm a r => ⟨r.1, r.2.1, Held.at_ (S := ⟨h4, Wof R, []⟩) (Held.bas r.2.2 bas4) (f1.past hq (fun y hy => by cases hy))⟩)) ?_
        rintro h7 u h8 hq7 ⟨⟨C2, d2, e2, er2, R2, RA2, rfl, hr2, hC2, hR2⟩, hg8⟩
        obtain ⟨rfl, rfl⟩ := hr.uniq hr2
        have base7 : HS ⟨h4, Wof R, []⟩ h7 := f1.past hq7 (fun y hy => by cases hy)
        have sB := (Held.at_ (S := ⟨h4, Wof R, []⟩) kB base7).grows hg8
        have sBR : All2 (RM h8) R' RA := kBR.mono fun m hm a r => ⟨r.1, r.2.1, (Held.at_ (S := ⟨h4, Wof R, []⟩) r.2.2 base7).grows hg8⟩
        have sG := (Held.at_ (S := ⟨h4, Wof R, []⟩) (Held.bas hG1 bas14) base7).grows hg8
        have sGR : All2 (RM h8) MG X := hGR1.mono fun m hm a r => ⟨r.1, r.2.1, (Held.at_ (S := ⟨h4, Wof R, []⟩) (Held.bas r.2.2 bas14) base7).grows hg8⟩
        have sM := (Held.at_ (S := ⟨h4, Wof R, []⟩) (Held.bas hM bas4) base7).grows hg8
        have sX : All2 (RM h8) M X := hX.mono fun m hm a r => ⟨r.1, r.2.1, (Held.at_ (S := ⟨h4, Wof R, []⟩) (Held.bas r.2.2 bas4) base7).grows hg8⟩
        have gfin : Grows h h8 := (bas4.fin (S := ⟨h4, Wof R, []⟩) base7).trans hg8
        ((repeat' ((conv => whnf); (first | (refine Ar.fit (by first | omega | (simp only [lo, hi]; omega)) ?_) | (refine VC.mk (by (first | omega | rfl | assumption | exact Sl.plain (by assumption) (by omega) | (and_intros <;> first | omega | rfl | assumption | (simp only [List.length_set]; omega) | (simp only [List.length_append, List.length_take, List.length_replicate, List.length_cons, List.length_nil]; omega) | (simp only [ByteArray.size_extract, ByteArray.size_append]; omega) | (simp only [List.length_cons, List.length_nil]; omega) | (simp only [Int.toNat_natCast, Int.toNat_one, List.length_take, List.length_cons, List.length_nil] at *; omega)))) ?_) | (refine Br.mk ?_ ?_ <;> intro hb <;> (try (first | (exfalso; omega) | exact absurd rfl hb | exact Bool.noConfusion hb | exact absurd (fun e => Bool.noConfusion e) hb | (exfalso; simp only [List.length_cons, List.length_nil] at hb; omega) | (exfalso; simp only [Int.toNat_natCast, Int.toNat_one, List.length_take, List.length_cons, List.length_nil] at hb; omega)))) | (refine XLoad.of (by assumption) rfl rfl (by omega) (by omega) rfl ?_) | (refine New.mk ?_; intro b hb) | (refine New2.mk ?_; intro b c hb hbc) | (refine NewO.mk ?_; intro b c hb hbc) | (refine SameR.same ?_) | (refine Two.mk ?_ ?_) | (refine Tri.mk ?_ ?_ ?_) | (refine ed_eql ?_) | (refine ed_neq ?_) | (apply CallK.pure; (case hh => (intro h1 hs; exact fixed_any h1))) | (apply CallK.pure; (case hh => (intro h1 hs; exact (same_any _ _ _ _ _ _ _ _ _ _ _ (sB.grows hs.grows) (hC2.grows hs.grows) (RMs.grows sBR hs.grows) (RMs.grows hR2 hs.grows)).mono (fun v h' ⟨e1, e2⟩ => ⟨e1.trans (prop_true rfl), e2⟩)))) | (apply CallK.pure; (case hh => (intro h1 hs; exact (same_any _ _ _ _ _ _ _ _ _ _ _ (sG.grows hs.grows) (sM.grows hs.grows) (RMs.grows sGR hs.grows) (RMs.grows sX hs.grows)).mono (fun v h' ⟨e1, e2⟩ => ⟨e1.trans (prop_true rfl), e2⟩)))) | fail))); all_goals (try (conv => whnf)))
        exact ⟨fun h' hs => ⟨prop_true rfl, gfin.trans hs.grows⟩⟩
end Go.Ex
