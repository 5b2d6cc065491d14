/-
  Pick: words; the queue's own methods.
-/
import Derived.Test.YtinelelkjbdaiaaExL
import Derived.Test.YtinelelkjbdaiaaEnv
namespace Go.Ex
open Go.Proofs
set_option linter.unusedVariables false
set_option linter.unusedSimpArgs false
attribute [local irreducible] CallsH

/-- a match, as it lies in memory -/
structure Mt where
  rule : Int
  part : Int
  A : Option Addr
  n : Nat
  c : Nat
def Mt.cells (m : Mt) : List Value := [.int .i64 m.rule, .int .i64 m.part, .slice m.A m.n m.c]
def matR : Rep Mt where
  dflt := ⟨0, 0, none, 0, 0⟩
  sz := 3
  cells := Mt.cells
  un := fun l => match l with
    | [.int .i64 a, .int .i64 b, .slice A n c] => some ⟨a, b, A, n, c⟩
    | _ => none
  len := fun _ => rfl
  un_ok := fun l x h => by
    split at h
    · cases h; rfl
    · cases h
  one := fun x v h => by simp [Mt.cells] at h; rcases h with rfl | rfl | rfl <;> rfl
  pos := by decide
/-- .. with its number -/
structure It where
  rule : Int
  part : Int
  A : Option Addr
  n : Nat
  c : Nat
  nth : Int
def It.m (x : It) : Mt := ⟨x.rule, x.part, x.A, x.n, x.c⟩
def itR : Rep It where
  dflt := ⟨0, 0, none, 0, 0, 0⟩
  sz := 4
  cells := fun x => [.int .i64 x.rule, .int .i64 x.part, .slice x.A x.n x.c, .int .i64 x.nth]
  un := fun l => match l with
    | [.int .i64 a, .int .i64 b, .slice A n c, .int .i64 d] => some ⟨a, b, A, n, c, d⟩
    | _ => none
  len := fun _ => rfl
  un_ok := fun l x h => by
    split at h
    · cases h; rfl
    · cases h
  one := fun x v h => by simp at h; rcases h with rfl | rfl | rfl | rfl <;> rfl
  pos := by decide
structure Pt where
  kind : Int
  kids : Int
  word : ByteArray
def partR : Rep Pt where
  dflt := ⟨0, 0, ⟨#[]⟩⟩
  sz := 3
  cells := fun x => [.int .u8 x.kind, .int .i64 x.kids, .string x.word]
  un := fun l => match l with
    | [.int .u8 a, .int .i64 b, .string s] => some ⟨a, b, s⟩
    | _ => none
  len := fun _ => rfl
  un_ok := fun l x h => by
    split at h
    · cases h; rfl
    · cases h
  one := fun x v h => by simp at h; rcases h with rfl | rfl | rfl <;> rfl
  pos := by decide
structure Bd where
  name : ByteArray
  frm : Int
  to : Int
def bindR : Rep Bd where
  dflt := ⟨⟨#[]⟩, 0, 0⟩
  sz := 3
  cells := fun x => [.string x.name, .int .i64 x.frm, .int .i64 x.to]
  un := fun l => match l with
    | [.string s, .int .i64 a, .int .i64 b] => some ⟨s, a, b⟩
    | _ => none
  len := fun _ => rfl
  un_ok := fun l x h => by
    split at h
    · cases h; rfl
    · cases h
  one := fun x v h => by simp at h; rcases h with rfl | rfl | rfl <;> rfl
  pos := by decide
def rep : Nat → Option RepS
  | 3 => some ⟨intR .i64⟩
  | 33 => some ⟨matR⟩
  | 40 => some ⟨bindR⟩
  | 42 => some ⟨partR⟩
  | 48 => some ⟨itR⟩
  | _ => none
theorem prop_true {p : Prop} (h : p) : denC (.prop p) = .bool true := by simp [denC, h]
theorem prop_false {p : Prop} (h : ¬ p) : denC (.prop p) = .bool false := by simp [denC, h]
abbrev itAt (L : List It) (i : Int) : It := getI itR.dflt L i
/-- the queue's order -/
def Lt (x y : It) : Prop := x.part < y.part ∨ x.part = y.part ∧ (x.rule < y.rule ∨ x.rule = y.rule ∧ x.nth < y.nth)

set_option maxHeartbeats 1000000 in
set_option maxRecDepth 10000 in
theorem qlen_any (A : Option Addr) (n c : Nat) (h : Heap) : CallsH Try.prog 23 #[.slice A n c] h fun v h' => v = .int .i64 n ∧ Grows h h' := by
  refine enter (rep := rep) (m := 8) (ex := []) (cu := []) tysOk Try.func23 rfl (by decide) (rs := [.tmp 2]) rfl rfl [.val (.slice A n c)] rfl ?_
  ((repeat' ((conv => whnf); (first | (refine Ar.fit (by first | omega | (simp only [lo, hi]; omega)) ?_) | (refine VC.mk (by (first | omega | rfl | assumption | exact Sl.plain (by assumption) (by omega) | (and_intros <;> first | omega | rfl | assumption | (simp only [List.length_set]; omega) | (simp only [List.length_append, List.length_take, List.length_replicate, List.length_cons, List.length_nil]; omega) | (simp only [ByteArray.size_extract, ByteArray.size_append]; omega) | (simp only [List.length_cons, List.length_nil]; omega) | (simp only [Int.toNat_natCast, Int.toNat_one, List.length_take, List.length_cons, List.length_nil] at *; omega)))) ?_) | (refine Br.mk ?_ ?_ <;> intro hb <;> (try (first | (exfalso; omega) | exact absurd rfl hb | exact Bool.noConfusion hb | exact absurd (fun e => Bool.noConfusion e) hb | (exfalso; simp only [List.length_cons, List.length_nil] at hb; omega) | (exfalso; simp only [Int.toNat_natCast, Int.toNat_one, List.length_take, List.length_cons, List.length_nil] at hb; omega)))) | (refine XLoad.of (by assumption) rfl rfl (by omega) (by omega) rfl ?_) | (refine New.mk ?_; intro b hb) | (refine New2.mk ?_; intro b c hb hbc) | (refine NewO.mk ?_; intro b c hb hbc) | (refine SameR.same ?_) | (refine Two.mk ?_ ?_) | (refine Tri.mk ?_ ?_ ?_) | (refine ed_eql ?_) | (refine ed_neq ?_) | (refine drawn tysOk mixed (by kernel_rfl) ?_) | fail))); all_goals (try (conv => whnf)))
  exact ⟨fun h' hs => ⟨rfl, hs.grows⟩⟩
set_option maxHeartbeats 1000000 in
set_option maxRecDepth 10000 in
theorem qless_any (A : Option Addr) (n c : Nat) (L : List It) (i j : Int) (h : Heap) (hL : Sl itR h A n L) (hi : 0 ≤ i ∧ i < n) (hj : 0 ≤ j ∧ j < n) : CallsH Try.prog 44 #[.slice A n c, .int .i64 i, .int .i64 j] h fun v h' => v = denC (.prop (Lt (itAt L i) (itAt L j))) ∧ Grows h h' := by
  refine enter (rep := rep) (m := 9) (ex := [23, 37]) (cu := []) tysOk Try.func44 rfl (by decide) (rs := [.tmp 6]) rfl rfl [.val (.slice A n c), .val (.int .i64 i), .val (.int .i64 j)] rfl ?_
  obtain ⟨hi1, hi2⟩ := hi
  obtain ⟨hj1, hj2⟩ := hj
  ((repeat' ((conv => whnf); (first | (refine drawnW tysOk mixed (.pull 0 [2, 3, 10, 11] (.pull 1 [2, 3, 10, 11] (.pull 2 [3, 10, 11] (.pull 4 [6, 7, 11] (.pull 5 [6, 7, 11] (.pull 6 [7, 11] (.pull 3 [10, 11] (.tri 7 8 9 (.br 8 9 (.one 9 (.one 10 (.one 11 .done))) (.one 8 (.one 10 (.one 11 .done)))) (.br 7 9 (.one 9 (.one 10 (.one 11 .done))) (.br 7 10 (.one 10 (.one 11 .done)) (.pull 7 [11] (.one 11 .done)))) (.br 7 8 (.one 8 (.one 10 (.one 11 .done))) (.br 7 10 (.one 10 (.one 11 .done)) (.pull 7 [11] (.one 11 .done)))))))))))) (by kernel_rfl) (by kernel_rfl) ?_) | (refine Ar.fit (by first | omega | (simp only [lo, hi]; omega)) ?_) | (refine VC.mk (by (first | omega | rfl | assumption | exact Sl.plain (by assumption) (by omega) | (and_intros <;> first | omega | rfl | assumption | (simp only [List.length_set]; omega) | (simp only [List.length_append, List.length_take, List.length_replicate, List.length_cons, List.length_nil]; omega) | (simp only [ByteArray.size_extract, ByteArray.size_append]; omega) | (simp only [List.length_cons, List.length_nil]; omega) | (simp only [Int.toNat_natCast, Int.toNat_one, List.length_take, List.length_cons, List.length_nil] at *; omega)))) ?_) | (refine Br.mk ?_ ?_ <;> intro hb <;> (try (first | (exfalso; omega) | exact absurd rfl hb | exact Bool.noConfusion hb | exact absurd (fun e => Bool.noConfusion e) hb | (exfalso; simp only [List.length_cons, List.length_nil] at hb; omega) | (exfalso; simp only [Int.toNat_natCast, Int.toNat_one, List.length_take, List.length_cons, List.length_nil] at hb; omega)))) | (refine XLoad.of (by assumption) rfl rfl (by omega) (by omega) rfl ?_) | (refine New.mk ?_; intro b hb) | (refine New2.mk ?_; intro b c hb hbc) | (refine NewO.mk ?_; intro b c hb hbc) | (refine SameR.same ?_) | (refine Two.mk ?_ ?_) | (refine Tri.mk ?_ ?_ ?_) | (refine ed_eql ?_) | (refine ed_neq ?_) | (refine drawn tysOk mixed (by kernel_rfl) ?_) | fail))); all_goals (try (conv => whnf)))
  all_goals exact ⟨fun h' hs => ⟨prop_eq (by simp only [Lt, itAt]; omega), hs.grows⟩⟩
def swap (L : List It) (i j : Int) : List It := (L.set i.toNat (itAt L j)).set j.toNat (itAt L i)
set_option maxHeartbeats 1000000 in
set_option maxRecDepth 10000 in
theorem qswap_any (b cap : Nat) (L : List It) (i j : Int) (h : Heap) (hs : HS ⟨h, [b], [(13, b, .arr 48 itR L cap)]⟩ h) (hi : 0 ≤ i ∧ i < L.length) (hj : 0 ≤ j ∧ j < L.length) :
    CallsH Try.prog 47 #[den (.osl 13 b L.length cap), .int .i64 i, .int .i64 j] h fun v h' => v = .tuple #[] ∧ HS ⟨h, [b], [(13, b, .arr 48 itR (swap L i j) cap)]⟩ h' := by
  refine enter_in (rep := rep) (m := 3) (ex := []) (cu := []) (args := [.osl 13 b L.length cap, .val (.int .i64 i), .val (.int .i64 j)]) tysOk Try.func47 rfl (by decide) (rs := []) rfl rfl rfl hs ?_
  obtain ⟨hi1, hi2⟩ := hi
  obtain ⟨hj1, hj2⟩ := hj
  ((repeat' ((conv => whnf); (first | (refine drawnW tysOk mixed (.pull 0 [12, 13, 14, 15] (.pull 1 [12, 13, 14, 15] (.pull 2 [14, 15] (.pull 3 [14, 15] (.pull 4 [6, 7, 12, 13, 14, 15] (.pull 5 [6, 7, 12, 13, 14, 15] (.pull 6 [7, 12, 13, 14, 15] (.pull 8 [10, 11, 12, 13, 14, 15] (.pull 9 [10, 11, 12, 13, 14, 15] (.pull 10 [11, 12, 13, 14, 15] (.pull 7 [12, 13, 14, 15] (.pull 11 [12, 13, 14, 15] (.pull 12 [13, 14, 15] (.one 13 (.pull 14 [15] (.one 15 .done)))))))))))))))) (by kernel_rfl) (by kernel_rfl) ?_) | (refine Ar.fit (by first | omega | (simp only [lo, hi]; omega)) ?_) | (refine VC.mk (by (first | omega | rfl | assumption | exact Sl.plain (by assumption) (by omega) | (and_intros <;> first | omega | rfl | assumption | (simp only [List.length_set]; omega) | (simp only [List.length_append, List.length_take, List.length_replicate, List.length_cons, List.length_nil]; omega) | (simp only [ByteArray.size_extract, ByteArray.size_append]; omega) | (simp only [List.length_cons, List.length_nil]; omega) | (simp only [Int.toNat_natCast, Int.toNat_one, List.length_take, List.length_cons, List.length_nil] at *; omega)))) ?_) | (refine Br.mk ?_ ?_ <;> intro hb <;> (try (first | (exfalso; omega) | exact absurd rfl hb | exact Bool.noConfusion hb | exact absurd (fun e => Bool.noConfusion e) hb | (exfalso; simp only [List.length_cons, List.length_nil] at hb; omega) | (exfalso; simp only [Int.toNat_natCast, Int.toNat_one, List.length_take, List.length_cons, List.length_nil] at hb; omega)))) | (refine XLoad.of (by assumption) rfl rfl (by omega) (by omega) rfl ?_) | (refine New.mk ?_; intro b hb) | (refine New2.mk ?_; intro b c hb hbc) | (refine NewO.mk ?_; intro b c hb hbc) | (refine SameR.same ?_) | (refine Two.mk ?_ ?_) | (refine Tri.mk ?_ ?_ ?_) | (refine ed_eql ?_) | (refine ed_neq ?_) | (refine drawn tysOk mixed (by kernel_rfl) ?_) | fail))); all_goals (try (conv => whnf)))
  all_goals exact ⟨fun h' hs => ⟨rfl, hs⟩⟩
end Go.Ex
