/-
  The engine, part 12: calls that turn what the caller made; interfaces.
-/
import Derived.Test.YtinelelkjbdaiaaExK
namespace Go.Ex
set_option linter.unusedVariables false
set_option linter.unusedSimpArgs false
section
variable {P : Program} {S : St}
theorem blks_spec : ∀ {ch : Chs} {b : Nat}, b ∈ blks ch → ∃ e ∈ ch, e.2.1 = b
  | [], b, h => by cases h
  | (k, b', c) :: r, b, h => by
    rcases List.mem_cons.1 h with rfl | h
    · exact ⟨_, List.mem_cons_self, rfl⟩
    · obtain ⟨e, he, h2⟩ := blks_spec h; exact ⟨e, List.mem_cons_of_mem _ he, h2⟩
/-- a part of what the caller made, seen alone -/
theorem HS.part {q r : Chs} {h : Heap} (hs : HS S h) (hc : HasC S.ch (q ++ r)) : HS ⟨h, blks q, q⟩ h := by
  have h1 := hc.hs hs
  refine ⟨Nat.le_refl _, fun _ _ _ => rfl, fun e he => ?_, (List.pairwise_append.1 h1.apart).1⟩
  obtain ⟨a1, a2, a3⟩ := h1.chunk e (List.mem_append.2 (.inl he))
  exact ⟨a1, .inr (blks_mem he), a3⟩
/-- .. and put back after it has turned -/
theorem HS.join {q r q' : Chs} {h h' : Heap} (hs : HS S h) (hc : HasC S.ch (q ++ r)) (hs' : HS ⟨h, blks q, q'⟩ h') : HS ⟨S.h0, S.cap, q' ++ r⟩ h' := by
  have h1 := hc.hs hs
  have hap := List.pairwise_append.1 h1.apart
  have hbk : ∀ b, b ∈ blks q → b < h.size ∧ (S.h0.size ≤ b ∨ b ∈ S.cap) := fun b hb => by
    obtain ⟨e, he, rfl⟩ := blks_spec hb
    obtain ⟨a1, a2, _⟩ := h1.chunk e (List.mem_append.2 (.inl he))
    exact ⟨a1, a2⟩
  have hrq : ∀ e ∈ r, e.2.1 ∉ blks q := fun e he hm => by
    obtain ⟨e', he', h3⟩ := blks_spec hm
    exact hap.2.2 e' he' e he h3
  refine ⟨Nat.le_trans hs.size hs'.size, fun b hb hn => ?_, fun e he => ?_, ?_⟩
  · have hb : b < S.h0.size := hb
    refine (hs'.frame b (Nat.lt_of_lt_of_le hb hs.size) fun hm => ?_).trans (hs.frame b hb hn)
    rcases (hbk b hm).2 with h2 | h2
    · exact absurd h2 (by omega)
    · exact hn h2
  · rcases List.mem_append.1 he with he | he
    · obtain ⟨a1, a2, a3⟩ := hs'.chunk e he
      refine ⟨a1, ?_, a3⟩
      rcases a2 with a2 | a2
      · left; exact Nat.le_trans hs.size a2
      · exact (hbk _ a2).2
    · obtain ⟨a1, a2, a3⟩ := h1.chunk e (List.mem_append.2 (.inr he))
      exact ⟨Nat.lt_of_lt_of_le a1 hs'.size, a2, a3.congr (hs'.frame _ a1 (hrq e he))⟩
  · refine List.pairwise_append.2 ⟨hs'.apart, hap.2.1, fun a ha e he => ?_⟩
    obtain ⟨a1, a2, _⟩ := hs'.chunk a ha
    intro e'
    rcases a2 with a2 | a2
    · have := (h1.chunk e (List.mem_append.2 (.inr he))).1
      have a2 : h.size ≤ a.2.1 := a2
      omega
    · exact hrq e he (by rw [← e']; exact a2)
/-- a call that turns q and leaves r -/
theorem CallK.mut {f : Nat} {args caps : List KV} {κ : KV → St → Prop} (q r : Chs) (Post : KV → Chs → Prop) (hc : HasC S.ch (q ++ r))
    (hh : ∀ h, HS S h → HS ⟨h, blks q, q⟩ h → CallsH P f (args.map den1 ++ caps.map denC).toArray h fun u h' => ∃ kv q', den kv = u ∧ HS ⟨h, blks q, q'⟩ h' ∧ Post kv q')
    (hk : ∀ kv q', Post kv q' → κ kv ⟨S.h0, S.cap, q' ++ r⟩) : CallK P f args caps S κ :=
  ⟨fun h hs => .inl (by
    have := hh h hs (hs.part hc)
    refine ⟨this.1, fun w hw => (this.2 w hw).mono fun e w' ⟨he, u, h1, kv, q', h2, h3, h4⟩ => ⟨he, u, h1, kv, _, h2, hs.join hc h3, hk kv q' h4⟩⟩)⟩
/-- chunks under other numbers -/
def SameCh (c c' : Chunk) : Prop := ∀ h b, ChunkAt h b c → ChunkAt h b c'
theorem SameCh.rfl {c : Chunk} : SameCh c c := fun _ _ h => h
theorem SameCh.box {T : Nat} {cs cs' : List KV} (h : cs.map denC = cs'.map denC) : SameCh (.box T cs) (.box T cs') := fun hp b hc => by
  simp only [ChunkAt] at hc ⊢; rw [← h]; exact hc
def notInN (k : Nat) : List Nat → Bool
  | [] => true
  | j :: r => !(Nat.beq k j) && notInN k r
def RenC (ch : Chs) : List Nat → Chs → Prop
  | [], [] => True
  | k :: ks, (_, b, c) :: r => (∃ c0, findC ch k = some (b, c0) ∧ SameCh c0 c) ∧ notInN k ks = true ∧ RenC ch ks r
  | _, _ => False
theorem notInN_spec : ∀ {r : List Nat} {k : Nat}, notInN k r = true → ∀ e ∈ r, e ≠ k
  | [], k, h, e, he => by simp at he
  | j :: r, k, h, e, he => by
    simp only [notInN, Bool.and_eq_true, Bool.not_eq_true'] at h
    rcases List.mem_cons.1 he with rfl | he
    · exact fun e' => nat_beq_false h.1 e'.symm
    · exact notInN_spec h.2 e he
theorem RenC.mem : ∀ {ch : Chs} {ks : List Nat} {L : Chs}, RenC ch ks L → ∀ e ∈ L, ∃ k c0, k ∈ ks ∧ (k, e.2.1, c0) ∈ ch ∧ SameCh c0 e.2.2
  | ch, [], [], h, e, he => by cases he
  | ch, k :: ks, (j, b, c) :: r, h, e, he => by
    rcases List.mem_cons.1 he with rfl | he
    · obtain ⟨c0, h1, h2⟩ := h.1
      exact ⟨k, c0, List.mem_cons_self, findC_mem h1, h2⟩
    · obtain ⟨k', c0, h1, h2⟩ := RenC.mem h.2.2 e he
      exact ⟨k', c0, List.mem_cons_of_mem _ h1, h2⟩
theorem RenC.apart : ∀ {ch : Chs} {ks : List Nat} {L : Chs}, RenC ch ks L → (ch.Pairwise fun e e' => e.2.1 ≠ e'.2.1) → L.Pairwise fun e e' => e.2.1 ≠ e'.2.1
  | ch, [], [], h, hp => .nil
  | ch, k :: ks, (j, b, c) :: r, h, hp => by
    refine List.pairwise_cons.2 ⟨fun e he => ?_, RenC.apart h.2.2 hp⟩
    obtain ⟨c0, h1, _⟩ := h.1
    obtain ⟨k', c1, h2, h3, _⟩ := RenC.mem h.2.2 e he
    have hne := notInN_spec h.2.1 k' h2
    exact apart_of (x := (k, b, c0)) (y := (k', e.2.1, c1)) hp (findC_mem h1) h3 (fun e' => hne (congrArg Prod.fst e').symm)
theorem HS.ren {h : Heap} (hs : HS S h) (ks : List Nat) {L : Chs} (hL : RenC S.ch ks L) : HS ⟨S.h0, S.cap, L⟩ h :=
  ⟨hs.size, hs.frame, fun e he => by
    obtain ⟨k, c0, _, h1, h2⟩ := hL.mem e he
    obtain ⟨a1, a2, a3⟩ := hs.chunk _ h1
    exact ⟨a1, a2, h2 _ _ a3⟩, hL.apart hs.apart⟩
/-- methods by name -/
def Row (P : Program) (t : Nat) (name : String) (f : Nat) (ptr : Bool) : Prop :=
  (P.info? t).map (fun x => (x.methods.find? (·.name == name)).map fun m => (m.path.toList.isEmpty, m.path.isEmpty, m.func)) = some (some (true, true, some (f, ptr)))
theorem Row.get {t : Nat} {name : String} {f : Nat} {ptr : Bool} (h : Row P t name f ptr) : ∃ x m, P.info? t = some x ∧ x.methods.find? (·.name == name) = some m ∧ m.path.toList = [] ∧ m.path.isEmpty = true ∧ m.func = some (f, ptr) := by
  unfold Row at h
  cases hx : P.info? t with
  | none => rw [hx] at h; cases h
  | some x =>
    rw [hx] at h
    simp only [Option.map_some, Option.some.injEq] at h
    cases hm : x.methods.find? (·.name == name) with
    | none => rw [hm] at h; cases h
    | some m =>
      rw [hm] at h
      simp only [Option.map_some, Option.some.injEq, Prod.mk.injEq, List.isEmpty_iff] at h
      exact ⟨x, m, rfl, hm, h.1, h.2.1, h.2.2⟩
/-- a pointer's method -/
theorem MethodIs.ptr {t e f b j : Nat} {name : String} {k : Nat} (hr : Row P t name f true) (hu : P.underlying t = some (.pointer e)) : MethodIs P t (.pointer (some ⟨b, j, none⟩)) name S f (.own k b j) := by
  intro w hs
  obtain ⟨x, m, h1, h2, h3, h4, h5⟩ := hr.get
  rw [show P.types.size + Made.depth = (P.types.size + 99) + 1 from rfl]
  have e1 : (typeInfo t).run P w = .ok x w := by simp [typeInfo, h1]
  have e2 : (underlying t).run P w = .ok (.pointer e) w := by simp [underlying, hu]
  unfold method
  rw [Sem.run_bind, e1, Result.andThen_ok, h2]
  simp only
  rw [h3]
  simp only [follow, Sem.run_bind, Sem.run_pure, Result.andThen_ok, h5, receiverAt, e2, Place.get]
  rfl
theorem run_wrapNil (tys : Array TypeId) (t : TypeId) (a : Addr) (s m : String) (w : World) : (Builtin.ssaWrapNilChk_ tys t #[.pointer (some a), strVal s, strVal m]).run P w = .ok (.pointer (some a)) w := rfl
/-- .. of what it points to -/
theorem MethodIs.deref {ty : Nat → Option TyI} (hty : TysOk P ty) {t e f k b j : Nat} {name : String} {kv : KV} (hr : Row P t name f false) (hu : P.underlying t = some (.pointer e)) (h : loadK ty e (.own k b j) S fun v => v = kv ∧ den kv = den1 kv) : MethodIs P t (.pointer (some ⟨b, j, none⟩)) name S f kv := by
  intro w hs
  obtain ⟨x, m, h1, h2, h3, h4, h5⟩ := hr.get
  obtain ⟨v, ⟨rfl, hd⟩, hl⟩ := loadK_sound (P := P) hty h
  obtain ⟨ad, h7, h8⟩ := loadVar_of (hl w hs)
  have h7 : Value.pointer (some ⟨b, j, none⟩) = .pointer (some ad) := h7
  cases h7
  rw [show P.types.size + Made.depth = (P.types.size + 99) + 1 from rfl]
  have e1 : (typeInfo t).run P w = .ok x w := by simp [typeInfo, h1]
  have e2 : (underlying t).run P w = .ok (.pointer e) w := by simp [underlying, hu]
  unfold method
  rw [Sem.run_bind, e1, Result.andThen_ok, h2]
  simp only
  rw [h3]
  simp only [follow, Sem.run_bind, Sem.run_pure, Result.andThen_ok, h5, receiverAt, e2, Place.get, h4, if_true, run_wrapNil, asAddr]
  rw [h8, hd]
  rfl
/-- what a call that only reads says of it -/
theorem CallK.says {f : Nat} {args caps : List KV} {κ : KV → St → Prop} (kv : KV) (hh : ∀ h, HS S h → CallsH P f (args.map den1 ++ caps.map denC).toArray h fun u h' => u = den kv ∧ Grows h h') (hk : κ kv S) : CallK P f args caps S κ :=
  ⟨fun h hs => .inl (by
    refine ⟨(hh h hs).1, fun w hw => ((hh h hs).2 w hw).mono fun e w' ⟨he, u, h1, h2, h3⟩ => ⟨he, u, h1, kv, S, h2.symm, hs.later h3, hk⟩⟩)⟩
end
end Go.Ex
