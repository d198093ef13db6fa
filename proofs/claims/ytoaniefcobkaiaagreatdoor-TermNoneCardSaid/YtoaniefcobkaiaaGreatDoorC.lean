/- Proved here, with the other texts of this claim: the law TermNone of package marqueelaw18 answers true for every input, and each argument reads behind the call as before; without any condition. These texts hold an evaluator of the program's code over memories of which a part is known, its soundness, and the walks of the functions that the law calls. -/
import Derived.Test.YtoaniefcobkaiaaGreatDoorB
import Derived.WalkKit
import Derived.ProofKit
import Derived.OpenShut
import Derived.WideKeyArgs
section
namespace Go.Ev
/-! a call's promise over a small memory holds over a great one -/

mutual
def ren (ρ : Nat → Nat) : Value → Value
  | .pointer (some a) => .pointer (some ⟨ρ a.block, a.off, a.spot⟩)
  | .slice (some a) l k => .slice (some ⟨ρ a.block, a.off, a.spot⟩) l k
  | .map (some r) => .map (some (ρ r))
  | .func (.yield m) a b => .func (.yield m) a b
  | .func f ⟨a⟩ ⟨b⟩ => .func f ⟨rens ρ a⟩ ⟨rens ρ b⟩
  | .iface t v => .iface t (ren ρ v)
  | .agg ⟨a⟩ => .agg ⟨rens ρ a⟩
  | .tuple ⟨a⟩ => .tuple ⟨rens ρ a⟩
  | v => v
def rens (ρ : Nat → Nat) : List Value → List Value
  | [] => []
  | a :: l => ren ρ a :: rens ρ l
end
def renE (ρ : Nat → Nat) (e : MapEntry) : MapEntry := { e with val := ren ρ e.val }
def renO (ρ : Nat → Nat) : AObj → AObj
  | .cells c e fz s => .cells (rens ρ c) e fz s
  | .siter s p => .siter s p
  | .map es cl => .map (es.map (renE ρ)) cl
  | .miter m since seen st => .miter (m.map ρ) since seen st

theorem rens_get {ρ : Nat → Nat} : ∀ {l : List Value} {i : Nat}, (rens ρ l)[i]? = (l[i]?).map (ren ρ)
  | [], i => by simp [rens]
  | a :: l, 0 => by simp [rens]
  | a :: l, i + 1 => by simp [rens, rens_get]
theorem rens_length {ρ : Nat → Nat} : ∀ {l : List Value}, (rens ρ l).length = l.length
  | [] => rfl
  | a :: l => by simp [rens, rens_length]
theorem ren_lit {ρ : Nat → Nat} {v : Value} (h : litV v = true) : ren ρ v = v := by
  cases v with
  | pointer a => cases a <;> simp [litV] at h <;> rfl
  | slice a l k => cases a <;> first | rfl | simp [litV] at h
  | map a => cases a <;> simp [litV] at h <;> rfl
  | _ => first | rfl | simp [litV] at h
theorem lit_ren {ρ : Nat → Nat} {v : Value} (h : litV (ren ρ v) = true) : litV v = true := by
  cases v with
  | pointer a => cases a <;> simp [ren, litV] at h ⊢
  | slice a l k => cases a <;> first | exact h | simp [ren, litV] at h
  | map a => cases a <;> simp [ren, litV] at h ⊢
  | func f a b => obtain ⟨a⟩ := a; obtain ⟨b⟩ := b; cases f <;> simp [ren, litV] at h
  | agg a => obtain ⟨a⟩ := a; simp [ren, litV] at h
  | tuple a => obtain ⟨a⟩ := a; simp [ren, litV] at h
  | iface t v => simp [ren, litV] at h
  | _ => exact h

/-! all blocks that a value names are of a kind -/
mutual
def vq (p : Nat → Bool) : Value → Bool
  | .pointer (some a) => p a.block
  | .slice (some a) _ _ => p a.block
  | .map (some r) => p r
  | .func (.yield _) _ _ => true
  | .func _ ⟨a⟩ ⟨b⟩ => vqs p a && vqs p b
  | .iface _ v => vq p v
  | .agg ⟨a⟩ => vqs p a
  | .tuple ⟨a⟩ => vqs p a
  | _ => true
def vqs (p : Nat → Bool) : List Value → Bool
  | [] => true
  | a :: l => vq p a && vqs p l
end
def oq (p : Nat → Bool) : AObj → Bool
  | .cells c _ _ _ => vqs p c
  | .siter _ _ => true
  | .map es _ => es.all fun e => vq p e.val
  | .miter (some b) _ _ _ => p b
  | .miter none _ _ _ => true
theorem vqs_mem {p : Nat → Bool} : ∀ {l : List Value}, vqs p l = true → ∀ v ∈ l, vq p v = true
  | [], _, v, hv => by cases hv
  | a :: l, h, v, hv => by
    simp only [vqs, Bool.and_eq_true] at h
    rcases List.mem_cons.1 hv with rfl | hv
    · exact h.1
    · exact vqs_mem h.2 v hv

/-- names go over -/
structure Ren (ρ : Nat → Nat) (p : Nat → Bool) (μ0 μ : Mu) : Prop where
  im : ∀ r i v, μ0.f.im r i v → μ.f.im r i v
  has : ∀ b, p b = true → μ0.has b → μ.has (ρ b)
  at_ : ∀ b r ro sz, p b = true → μ0.has b → μ (ρ b) = .at_ r ro sz → μ0 b = .at_ r ro sz

mutual
theorem VR.ren {ρ : Nat → Nat} {p : Nat → Bool} {μ0 μ : Mu} (hρ : Ren ρ p μ0 μ) : ∀ {v v' : Value}, VR μ0 v v' → vq p v = true → VR μ (ren ρ v) v'
  | _, _, .lit v h, _ => by rw [ren_lit h]; exact .lit v h
  | _, _, .ptr a a' h, hp => .ptr _ a' ⟨h.1, hρ.has _ hp h.2.1, fun r ro sz e => h.2.2 r ro sz (hρ.at_ _ _ _ _ hp h.2.1 e)⟩
  | _, _, .slice a a' l k c h, hp => .slice _ a' l k c ⟨h.1, hρ.has _ hp h.2.1, h.2.2.1, fun r ro sz e => h.2.2.2 r ro sz (hρ.at_ _ _ _ _ hp h.2.1 e)⟩
  | _, _, .map b r h, hp => .map _ r ⟨hρ.has _ hp h.1, fun r' ro' sz' e => h.2 r' ro' sz' (hρ.at_ _ _ _ _ hp h.1 e)⟩
  | _, _, .func f x y x' y' hx hy, hp => by
    simp only [vq, Bool.and_eq_true] at hp
    exact .func f _ _ x' y' (VRs.rens hρ hx hp.1) (VRs.rens hρ hy hp.2)
  | _, _, .iface t v v' h, hp => .iface t _ v' (VR.ren hρ h hp)
  | _, _, .agg x x' h, hp => .agg _ x' (VRs.rens hρ h hp)
  | _, _, .tuple x x' h, hp => .tuple _ x' (VRs.rens hρ h hp)
  | _, _, .imm l n k v' h, _ => (VR.imm l n k v' h).cl_im hρ.im rfl
  | _, _, .immp l v' h, _ => (VR.immp l v' h).cl_im hρ.im rfl
  | _, _, .any v', _ => .any v'
theorem VRs.rens {ρ : Nat → Nat} {p : Nat → Bool} {μ0 μ : Mu} (hρ : Ren ρ p μ0 μ) : ∀ {l l' : List Value}, VRs μ0 l l' → vqs p l = true → VRs μ (rens ρ l) l'
  | _, _, .nil, _ => .nil
  | _, _, .cons v v' l l' h hl, hp => by
    simp only [vqs, Bool.and_eq_true] at hp
    exact .cons _ _ _ _ (VR.ren hρ h hp.1) (VRs.rens hρ hl hp.2)
end

/-- and back -/
structure Unren (ρ : Nat → Nat) (n : Nat) (μ0 μ : Mu) : Prop where
  im : ∀ r i v, μ.f.im r i v → μ0.f.im r i v
  has : ∀ b, b < n → μ.has (ρ b) → μ0.has b
  at_ : ∀ b r ro sz, b < n → μ0 b = .at_ r ro sz → μ (ρ b) = .at_ r ro sz

mutual
theorem VR.unren {ρ : Nat → Nat} {n : Nat} {μ0 μ : Mu} (hρ : Unren ρ n μ0 μ) : ∀ {v v' : Value}, vb n v = true → VR μ (Ev.ren ρ v) v' → VR μ0 v v'
  | .pointer none, v', _, h => by
    simp only [Ev.ren] at h
    cases h with
    | lit _ h => exact .lit _ h
  | .pointer (some a), v', hb, h => by
    simp only [vb] at hb
    have hlt := blt_lt hb
    simp only [Ev.ren] at h
    cases h with
    | lit _ h => simp [litV] at h
    | ptr _ a' h => exact .ptr a a' ⟨h.1, hρ.has _ hlt h.2.1, fun r ro sz e => h.2.2 r ro sz (hρ.at_ _ _ _ _ hlt e)⟩
  | .slice none l k, v', _, h => by
    simp only [Ev.ren] at h
    cases h with
    | lit _ h => exact .lit _ h
  | .slice (some a) l k, v', hb, h => by
    simp only [vb] at hb
    have hlt := blt_lt hb
    simp only [Ev.ren] at h
    cases h with
    | lit _ h => simp [litV] at h
    | slice _ a' _ _ c h => exact .slice a a' l k c ⟨h.1, hρ.has _ hlt h.2.1, h.2.2.1, fun r ro sz e => h.2.2.2 r ro sz (hρ.at_ _ _ _ _ hlt e)⟩
  | .map none, v', _, h => by
    simp only [Ev.ren] at h
    cases h with
    | lit _ h => exact .lit _ h
  | .map (some b), v', hb, h => by
    simp only [vb] at hb
    have hlt := blt_lt hb
    simp only [Ev.ren] at h
    cases h with
    | lit _ h => simp [litV] at h
    | map _ r h => exact .map b r ⟨hρ.has _ hlt h.1, fun r' ro' sz' e => h.2 r' ro' sz' (hρ.at_ _ _ _ _ hlt e)⟩
  | .func (.yield m) x y, v', hb, h => by
    simp only [Ev.ren] at h
    cases h with
    | lit _ h => simp [litV] at h
    | imm l n k _ h => exact (VR.imm l n k v' h).cl_im hρ.im rfl
    | immp l _ h => exact (VR.immp l v' h).cl_im hρ.im rfl
    | any _ => exact .any v'
  | .func (.func f) ⟨x⟩ ⟨y⟩, v', hb, h => by
    simp only [vb, Bool.and_eq_true] at hb
    simp only [Ev.ren] at h
    cases h with
    | lit _ h => simp [litV] at h
    | func f _ _ x' y' hx hy => exact .func f x y x' y' (VRs.unrens hρ hb.1 hx) (VRs.unrens hρ hb.2 hy)
  | .func (.method f) ⟨x⟩ ⟨y⟩, v', hb, h => by
    simp only [Ev.ren] at h
    cases h with
    | lit _ h => simp [litV] at h
  | .func (.methodOf t f) ⟨x⟩ ⟨y⟩, v', hb, h => by
    simp only [Ev.ren] at h
    cases h with
    | lit _ h => simp [litV] at h
  | .func (.via t p f q) ⟨x⟩ ⟨y⟩, v', hb, h => by
    simp only [Ev.ren] at h
    cases h with
    | lit _ h => simp [litV] at h
  | .iface t v, v', hb, h => by
    simp only [vb] at hb
    simp only [Ev.ren] at h
    cases h with
    | lit _ h => simp [litV] at h
    | iface _ _ u h => exact .iface t v u (VR.unren hρ hb h)
  | .agg ⟨x⟩, v', hb, h => by
    simp only [vb] at hb
    simp only [Ev.ren] at h
    cases h with
    | lit _ h => simp [litV] at h
    | agg _ x' h => exact .agg x x' (VRs.unrens hρ hb h)
  | .tuple ⟨x⟩, v', hb, h => by
    simp only [vb] at hb
    simp only [Ev.ren] at h
    cases h with
    | lit _ h => simp [litV] at h
    | tuple _ x' h => exact .tuple x x' (VRs.unrens hρ hb h)
  | .bool _, v', _, h => by cases h with | lit _ h => exact .lit _ h
  | .int _ _, v', _, h => by cases h with | lit _ h => exact .lit _ h
  | .float _ _, v', _, h => by cases h with | lit _ h => exact .lit _ h
  | .complex _ _ _, v', _, h => by cases h with | lit _ h => exact .lit _ h
  | .string _, v', _, h => by cases h with | lit _ h => exact .lit _ h
  | .chan _, v', _, h => by cases h with | lit _ h => exact .lit _ h
  | .nilFunc, v', _, h => by cases h with | lit _ h => exact .lit _ h
  | .nilIface, v', _, h => by cases h with | lit _ h => exact .lit _ h
theorem VRs.unrens {ρ : Nat → Nat} {n : Nat} {μ0 μ : Mu} (hρ : Unren ρ n μ0 μ) : ∀ {l l' : List Value}, vbs n l = true → VRs μ (Ev.rens ρ l) l' → VRs μ0 l l'
  | [], _, _, h => by simp only [Ev.rens] at h; cases h; exact .nil
  | a :: l, _, hb, h => by
    simp only [vbs, Bool.and_eq_true] at hb
    simp only [Ev.rens] at h
    cases h with
    | cons _ v' _ l' h hl => exact .cons a v' l l' (VR.unren hρ hb.1 h) (VRs.unrens hρ hb.2 hl)
end

theorem ObjR.ren {ρ : Nat → Nat} {p : Nat → Bool} {μ0 μ : Mu} (hρ : Ren ρ p μ0 μ) {ro sz : Nat} {o : AObj} {o' : Obj} (hp : oq p o = true) (h : ObjR μ0 ro sz o o') : ObjR μ ro sz (renO ρ o) o' := by
  cases h with
  | cells c e fz s c' lo hi hsz hlen hc hf =>
    refine .cells _ e fz s c' lo hi hsz (by rw [rens_length]; exact hlen) (fun i v hi => ?_) (by rw [rens_length]; exact hf)
    rw [rens_get] at hi
    cases hv : c[i]? with
    | none => rw [hv] at hi; cases hi
    | some u =>
      rw [hv] at hi
      simp at hi
      subst hi
      obtain ⟨v', h1, h2⟩ := hc i u hv
      exact ⟨v', h1, h2.ren hρ (vqs_mem hp u (List.mem_of_getElem? hv))⟩
  | siter s pos h => exact .siter s pos h
  | map es clock es' hro hl he =>
    refine .map _ clock es' hro (by simpa using hl) fun i e hi => ?_
    rw [List.getElem?_map] at hi
    cases hv : es[i]? with
    | none => rw [hv] at hi; cases hi
    | some u =>
      rw [hv] at hi
      simp at hi
      subst hi
      obtain ⟨e', h1, h2, h3, h4, h5⟩ := he i u hv
      exact ⟨e', h1, h2, h3, h4.ren hρ (List.all_eq_true.1 hp u (List.mem_of_getElem? hv)), h5⟩
  | miterNil a b c h => exact .miterNil a b c h
  | miter b r since seen st hro h => exact .miter (ρ b) r since seen st hro ⟨hρ.has _ hp h.1, fun r' ro' sz' e => h.2 r' ro' sz' (hρ.at_ _ _ _ _ hp h.1 e)⟩

/-- an object's names are elder than n -/
def ob (n : Nat) : AObj → Bool
  | .cells c _ _ _ => vbs n c
  | .siter _ _ => true
  | .map es _ => es.all fun e => vb n e.val
  | .miter (some b) _ _ _ => Nat.blt b n
  | .miter none _ _ _ => true

theorem vbs_mem {n : Nat} : ∀ {l : List Value}, vbs n l = true → ∀ v ∈ l, vb n v = true
  | [], _, v, hv => by cases hv
  | a :: l, h, v, hv => by
    simp only [vbs, Bool.and_eq_true] at h
    rcases List.mem_cons.1 hv with rfl | hv
    · exact h.1
    · exact vbs_mem h.2 v hv

theorem ObjR.unren {ρ : Nat → Nat} {n : Nat} {μ0 μ : Mu} (hρ : Unren ρ n μ0 μ) {ro sz : Nat} {o : AObj} {o' : Obj} (hb : ob n o = true) (h : ObjR μ ro sz (renO ρ o) o') : ObjR μ0 ro sz o o' := by
  cases o with
  | cells c e fz s =>
    cases h with
    | cells _ _ _ _ c' lo hi hsz hlen hc hf =>
      refine .cells c e fz s c' lo hi hsz (by rw [rens_length] at hlen; exact hlen) (fun i v hi => ?_) (by rw [rens_length] at hf; exact hf)
      obtain ⟨v', h1, h2⟩ := hc i (Ev.ren ρ v) (by rw [rens_get, hi]; rfl)
      exact ⟨v', h1, h2.unren hρ (vbs_mem hb v (List.mem_of_getElem? hi))⟩
  | siter s p => cases h with | siter _ _ h => exact .siter s p h
  | map es cl =>
    cases h with
    | map _ _ es' hro hl he =>
      refine .map es cl es' hro (by simpa using hl) fun i e hi => ?_
      obtain ⟨e', h1, h2, h3, h4, h5⟩ := he i (renE ρ e) (by rw [List.getElem?_map, hi]; rfl)
      exact ⟨e', h1, h2, h3, h4.unren hρ (List.all_eq_true.1 hb e (List.mem_of_getElem? hi)), h5⟩
  | miter m since seen st =>
    cases m with
    | none => cases h with | miterNil _ _ _ h => exact .miterNil _ _ _ h
    | some b =>
      have hlt := blt_lt hb
      cases h with
      | miter _ r _ _ _ hro h => exact .miter b r since seen st hro ⟨hρ.has _ hlt h.1, fun r' ro' sz' e => h.2 r' ro' sz' (hρ.at_ _ _ _ _ hlt e)⟩

/-- cells of which some are known -/
def opqP (ρ : Nat → Nat) (n : Nat) : List Value → List Value → Prop
  | [], _ => True
  | _ :: _, [] => False
  | v :: l, u :: m => (v = UNK ∨ (u = ren ρ v ∧ vb n v = true)) ∧ opqP ρ n l m
theorem opqP_get {ρ : Nat → Nat} {n : Nat} : ∀ {l m : List Value}, opqP ρ n l m → ∀ {i : Nat} {v : Value}, l[i]? = some v → ∃ u, m[i]? = some u ∧ (v = UNK ∨ (u = ren ρ v ∧ vb n v = true))
  | [], _, _, i, v, h => by simp at h
  | _ :: _, [], h, _, _, _ => h.elim
  | v :: l, u :: m, h, 0, w, e => by simp at e; subst e; exact ⟨u, rfl, h.1⟩
  | v :: l, u :: m, h, i + 1, w, e => by simpa using opqP_get h.2 (by simpa using e)
theorem opqP_len {ρ : Nat → Nat} {n : Nat} : ∀ {l m : List Value}, opqP ρ n l m → l.length ≤ m.length
  | [], _, _ => by simp
  | _ :: _, [], h => h.elim
  | v :: l, u :: m, h => by have := opqP_len h.2; simp; omega
/-- a block that is read alone, and of which less is known -/
def Opq (ρ : Nat → Nat) (n : Nat) (o : AObj) (o2 : Option AObj) : Prop := ∃ e C0 f C fz s, o = .cells C0 e f false ∧ C0.length < f ∧ o2 = some (.cells C e fz s) ∧ opqP ρ n C0 C
/-- the small memory lies in the great one -/
structure Emb (G : Nat → Bool) (ρ : Nat → Nat) (σ : Nat → Option Nat) (h0 h : AH) : Prop where
  lt : ∀ b, b < h0.next → ρ b < h.next ∧ σ (ρ b) = some b
  inv : ∀ c b, σ c = some b → b < h0.next ∧ ρ b = c
  get : ∀ b o, b < h0.next → h0.get b = some o → (h.get (ρ b) = some (renO ρ o) ∧ ob h0.next o = true) ∨ Opq ρ h0.next o (h.get (ρ b))
  top : ∀ b, h0.next ≤ b → h0.get b = none
  glob : ∀ g, G g = true → g < h0.next ∧ ρ g = g
  new : ∀ b, h0.next ≤ b → ρ b = h.next + (b - h0.next)

/-- blocks that may be named behind: known ones, and new ones -/
noncomputable def may (h0 : AH) (b : Nat) : Bool := Nat.ble h0.next b || (h0.get b).isSome

structure Framed (ρ : Nat → Nat) (σ : Nat → Option Nat) (h0 h h0' h' : AH) : Prop where
  next : h'.next = h.next + (h0'.next - h0.next)
  known : ∀ b, b < h0.next → (h0.get b).isSome = true → (h.get (ρ b) = (h0.get b).map (renO ρ) ∧ h'.get (ρ b) = (h0'.get b).map (renO ρ)) ∨ (∃ o, h0.get b = some o ∧ Opq ρ h0.next o (h.get (ρ b)) ∧ h'.get (ρ b) = h.get (ρ b))
  rest : ∀ c, c < h.next → (∀ b, σ c = some b → h0.get b = none) → h'.get c = h.get c
  fresh : ∀ c, h.next ≤ c → h'.get c = (h0'.get (h0.next + (c - h.next))).map (renO ρ)
  names : ∀ b o, h0'.get b = some o → oq (may h0) o = true

theorem CallsOk.frame {P : Program} {G : Nat → Bool} {f : FuncId} {args : List Value} {h0 h0' h h' : AH} {v : Value} {ρ : Nat → Nat} {σ : Nat → Option Nat} (hc : CallsOk P G f args h0 v h0')
    (he : Emb G ρ σ h0 h) (hf : Framed ρ σ h0 h h0' h') (ha : vbs h0.next args = true) (hv : vq (may h0) v = true) : CallsOk P G f (rens ρ args) h (ren ρ v) h' := by
  intro μ w args' hr hg hargs
  classical
  let μ0 : Mu := ⟨h0.next, ⟨fun b => if b < h0.next then (if (h0.get b).isSome then μ (ρ b) else if μ (ρ b) = .no then .no else .dead) else .no, μ.f.im⟩⟩
  have k0 : ∀ b, b < h0.next → (h0.get b).isSome = true → μ0 b = μ (ρ b) := fun b h1 h2 => by show (if b < h0.next then _ else _) = _; rw [if_pos h1, if_pos h2]
  have u0 : ∀ b, b < h0.next → (h0.get b).isSome = false → μ0 b = if μ (ρ b) = .no then .no else .dead := fun b h1 h2 => by show (if b < h0.next then _ else _) = _; rw [if_pos h1, if_neg (by simp [h2])]
  have n0 : ∀ b, h0.next ≤ b → μ0 b = .no := fun b h1 => by show (if b < h0.next then _ else _) = _; rw [if_neg (by omega)]
  have at0 : ∀ b r ro sz, μ0 b = .at_ r ro sz → b < h0.next ∧ (h0.get b).isSome = true ∧ μ (ρ b) = .at_ r ro sz := by
    intro b r ro sz e
    rcases Nat.lt_or_ge b h0.next with h1 | h1
    · cases h2 : (h0.get b).isSome with
      | true => exact ⟨h1, rfl, by rw [← k0 b h1 h2]; exact e⟩
      | false => rw [u0 b h1 h2] at e; split at e <;> cases e
    · rw [n0 b h1] at e; cases e
  have hun : Unren ρ h0.next μ0 μ := by
    refine ⟨fun _ _ _ h => h, fun b hb hh => ⟨hb, ?_⟩, fun b r ro sz hb e => (at0 b r ro sz e).2.2⟩
    show μ0 b ≠ .no
    cases h2 : (h0.get b).isSome with
    | true => rw [k0 b hb h2]; exact hh.2
    | false => rw [u0 b hb h2, if_neg hh.2]; intro h; cases h
  have hrel0 : Rel μ0 h0 w := by
    refine ⟨rfl, fun b c r ro sz ro' sz' e e' => ?_, fun b hb => ?_, fun b hb => ?_, fun b r ro sz e => ?_, he.top, fun r i v hv => ?_⟩
    rotate_right
    · obtain ⟨h1, h2, c', e, z, v', h3, h4, h5⟩ := hr.imm r i v hv
      exact ⟨fun b ro sz hb => h1 _ _ _ (at0 b _ _ _ hb).2.2, h2, c', e, z, v', h3, h4, VR.cl_im (μ := μ) (ν := μ0) (fun _ _ _ h => h) h5 h2⟩
    · obtain ⟨h1, _, h2⟩ := at0 b _ _ _ e
      obtain ⟨h3, _, h4⟩ := at0 c _ _ _ e'
      have := hr.inj _ _ _ _ _ _ _ h2 h4
      have e1 := (he.lt b h1).2
      have e2 := (he.lt c h3).2
      rw [this, e2] at e1; cases e1; rfl
    · rcases Nat.lt_or_ge b h0.next with h1 | h1
      · exact h1
      · exact absurd (n0 b h1) hb
    · rcases Nat.lt_or_ge b h0.next with h1 | h1
      · cases h2 : (h0.get b).isSome with
        | true =>
          rw [k0 b h1 h2] at hb
          obtain ⟨o, ho⟩ := Option.isSome_iff_exists.1 h2
          rcases he.get b o h1 ho with ⟨this, _⟩ | ⟨e, _, _, C, fz, s, _, _, this, _⟩
          · rw [hr.dead _ hb] at this; cases this
          · rw [hr.dead _ hb] at this; cases this
        | false => simpa using h2
      · exact he.top b h1
    · obtain ⟨h1, h2, h3⟩ := at0 b _ _ _ e
      obtain ⟨o, ho⟩ := Option.isSome_iff_exists.1 h2
      obtain ⟨q, o', g1, g2, g3⟩ := hr.dom _ _ _ _ h3
      rcases he.get b o h1 ho with ⟨h4, h5⟩ | ⟨e0, C0, f0, C, fz, s, h4, hlt0, h5, hop⟩
      · rw [h4] at g1; cases g1
        exact ⟨o, o', ho, g2, g3.unren hun h5⟩
      · rw [h5] at g1; cases g1
        refine ⟨o, o', ho, g2, ?_⟩
        subst h4
        cases g3 with
        | cells _ _ _ _ c' lo hi hsz hlen hcc hf =>
          have hl := opqP_len hop
          refine .cells C0 e0 f0 false c' lo hi hsz (by omega) (fun i v hi => ?_) (.inl hlt0)
          obtain ⟨u, hu, hv⟩ := opqP_get hop hi
          obtain ⟨v', q1, q2⟩ := hcc i u hu
          rcases hv with rfl | ⟨rfl, hvb⟩
          · exact ⟨v', q1, .any _⟩
          · exact ⟨v', q1, q2.unren hun hvb⟩
  have hg0 : GR G μ0 := fun g hgg => by
    obtain ⟨h1, h2⟩ := he.glob g hgg
    obtain ⟨h3, h4⟩ := hg g hgg
    refine ⟨hun.has g h1 (by rw [h2]; exact h3), fun r ro sz e => h4 r ro sz ?_⟩
    have := (at0 g _ _ _ e).2.2
    rw [h2] at this; exact this
  refine (hc μ0 w args' hrel0 hg0 (hargs.unrens hun ha)).mono fun e w' hres => ?_
  cases e with
  | panicked _ => exact hres
  | outgrown => exact hres
  | returned v' =>
    obtain ⟨μ1, p, hvr⟩ := hres
    let μ' : Mu := ⟨h'.next, ⟨fun c => if c < h.next then (match σ c with | some b => if (h0.get b).isSome then μ1 b else μ c | none => μ c) else if c < h'.next then μ1 (h0.next + (c - h.next)) else .no, μ1.f.im⟩⟩
    have hnx : h.next ≤ h'.next := by rw [hf.next]; omega
    have hp0 := p.next
    have k1 : ∀ b, b < h0.next → (h0.get b).isSome = true → μ' (ρ b) = μ1 b := fun b h1 h2 => by
      obtain ⟨h3, h4⟩ := he.lt b h1
      show (if ρ b < h.next then _ else _) = _
      rw [if_pos h3, h4]
      simp only
      rw [if_pos h2]
    have r1 : ∀ c, c < h.next → (∀ b, σ c = some b → h0.get b = none) → μ' c = μ c := fun c h1 h2 => by
      show (if c < h.next then _ else _) = _
      rw [if_pos h1]
      cases hs : σ c with
      | none => rfl
      | some b => simp only; rw [if_neg (by simp [h2 b hs])]
    have f1 : ∀ b, h0.next ≤ b → b < h0'.next → μ' (ρ b) = μ1 b := fun b h1 h2 => by
      have h3 := he.new b h1
      show (if ρ b < h.next then _ else _) = _
      rw [if_neg (by omega), if_pos (by rw [hf.next]; omega)]
      congr 1; omega
    -- what a block of the great memory is
    have cl : ∀ c, c < h.next → (∃ b, b < h0.next ∧ (h0.get b).isSome = true ∧ ρ b = c) ∨ (∀ b, σ c = some b → h0.get b = none) := by
      intro c hcl
      cases hs : σ c with
      | none => right; intro b hb; cases hb
      | some b =>
        obtain ⟨h1, h2⟩ := he.inv c b hs
        cases h3 : (h0.get b).isSome with
        | true => left; exact ⟨b, h1, h3, h2⟩
        | false => right; intro b' hb'; cases hb'; simpa using h3
    have nf : ∀ c, h'.next ≤ c → μ' c = .no := fun c h1 => by
      show (if c < h.next then _ else _) = _
      rw [if_neg (by omega), if_neg (by omega)]
    have hren : Ren ρ (may h0) μ1 μ' := by
      constructor
      · exact fun _ _ _ h => h
      · intro b hp hh
        have hb1 : b < h0'.next := by have := hh.1; rw [p.rel.nx] at this; exact this
        rcases Nat.lt_or_ge b h0.next with h1 | h1
        · have h2 : (h0.get b).isSome = true := by
            simp only [may, Bool.or_eq_true] at hp
            rcases hp with hp | hp
            · have := Nat.le_of_ble_eq_true hp; omega
            · exact hp
          refine ⟨by show ρ b < h'.next; have := (he.lt b h1).1; omega, ?_⟩
          show μ' (ρ b) ≠ .no
          rw [k1 b h1 h2]; exact hh.2
        · refine ⟨by show ρ b < h'.next; rw [he.new b h1, hf.next]; omega, ?_⟩
          show μ' (ρ b) ≠ .no
          rw [f1 b h1 hb1]; exact hh.2
      · intro b r ro sz hp hh e
        have hb1 : b < h0'.next := by have := hh.1; rw [p.rel.nx] at this; exact this
        rcases Nat.lt_or_ge b h0.next with h1 | h1
        · have h2 : (h0.get b).isSome = true := by
            simp only [may, Bool.or_eq_true] at hp
            rcases hp with hp | hp
            · have := Nat.le_of_ble_eq_true hp; omega
            · exact hp
          rw [k1 b h1 h2] at e; exact e
        · rw [f1 b h1 hb1] at e; exact e
    have hlater : Later μ μ' := by
      refine ⟨⟨by rw [hr.nx]; exact hnx, p.later.1.2⟩, fun c hcc => ?_⟩
      have hcl : c < h.next := by have := hcc.1; rw [hr.nx] at this; exact this
      rcases cl c hcl with ⟨b, h1, h2, rfl⟩ | h1
      · rw [k1 b h1 h2]
        have h3 := p.later.2 b ⟨h1, by rw [show μ0.f b = μ0 b from rfl, k0 b h1 h2]; exact hcc.2⟩
        rw [k0 b h1 h2] at h3; exact h3
      · left; exact r1 c hcl h1
    have hframe : ∀ c r ro sz, c < h.next → (∀ b, σ c = some b → h0.get b = none) → μ c = .at_ r ro sz → w'.heap[r]? = w.heap[r]? := by
      intro c r ro sz hcl h1 e
      refine p.frame r (hr.lt e).2 fun b ro' sz' e' => ?_
      obtain ⟨h2, h3, h4⟩ := at0 b _ _ _ e'
      have := hr.inj _ _ _ _ _ _ _ h4 e
      obtain ⟨o, ho⟩ := Option.isSome_iff_exists.1 h3
      have h5 := h1 b (by rw [← this]; exact (he.lt b h2).2)
      rw [ho] at h5; cases h5
    have opq : ∀ {b o}, b < h0.next → h0.get b = some o → Opq ρ h0.next o (h.get (ρ b)) → Stone h0 b ∧ ∃ r ro sz, μ (ρ b) = .at_ r ro sz ∨ μ (ρ b) = .no := by
      intro b o h1 ho ⟨e0, C0, f0, C, fz, s, e1, hlt0, e2, _⟩
      refine ⟨⟨C0, e0, f0, false, by rw [ho, e1], hlt0⟩, ?_⟩
      cases hm : μ (ρ b) with
      | no => exact ⟨0, 0, 0, .inr rfl⟩
      | dead => rw [hr.dead _ hm] at e2; cases e2
      | at_ r ro sz => exact ⟨r, ro, sz, .inl rfl⟩
    have src : ∀ c r ro sz, μ' c = .at_ r ro sz → (c < h.next ∧ (∀ b, σ c = some b → h0.get b = none) ∧ μ c = .at_ r ro sz) ∨ (∃ b, ρ b = c ∧ may h0 b = true ∧ b < h0'.next ∧ μ1 b = .at_ r ro sz ∧ (h'.get c = (h0'.get b).map (renO ρ) ∨ (b < h0.next ∧ Stone h0 b ∧ h'.get c = h.get c))) := by
      intro c r ro sz e
      rcases Nat.lt_or_ge c h.next with hcl | hcl
      · rcases cl c hcl with ⟨b, h1, h2, rfl⟩ | h1
        · right
          rw [k1 b h1 h2] at e
          refine ⟨b, rfl, by simp [may, h2], by omega, e, ?_⟩
          rcases hf.known b h1 h2 with ⟨_, hk⟩ | ⟨o, ho, hq, hk⟩
          · exact .inl hk
          · exact .inr ⟨h1, (opq h1 ho hq).1, hk⟩
        · left; rw [r1 c hcl h1] at e; exact ⟨hcl, h1, e⟩
      · rcases Nat.lt_or_ge c h'.next with h1 | h1
        · right
          have hb : h0.next ≤ h0.next + (c - h.next) := by omega
          have hc' : ρ (h0.next + (c - h.next)) = c := by rw [he.new _ hb]; omega
          have hb1 : h0.next + (c - h.next) < h0'.next := by rw [hf.next] at h1; omega
          refine ⟨_, hc', by simp [may], hb1, ?_, .inl (hf.fresh c hcl)⟩
          rw [← f1 _ hb hb1, hc']; exact e
        · rw [nf c h1] at e; cases e
    have hrel' : Rel μ' h' w' := by
      refine ⟨rfl, fun c d r ro sz ro' sz' e e' => ?_, fun c hcn => ?_, fun c hcd => ?_, fun c r ro sz e => ?_, fun c hcn => ?_, ?_⟩
      rotate_right
      · intro r i v hv
        obtain ⟨h1, h2, c', e, z, v', h3, h4, h5⟩ := p.rel.imm r i v hv
        refine ⟨fun c ro sz hc0 => ?_, h2, c', e, z, v', h3, h4, VR.cl_im (μ := μ1) (ν := μ') (fun _ _ _ h => h) h5 h2⟩
        rcases src c _ _ _ hc0 with ⟨g1, g2, g3⟩ | ⟨b, _, _, _, g4, _⟩
        · rcases p.imr _ _ _ hv with g5 | g5 | ⟨b, ro2, sz2, g5⟩
          · exact (hr.imm _ _ _ g5).1 _ _ _ g3
          · have := (hr.lt g3).2; omega
          · obtain ⟨g6, g7, g8⟩ := at0 b _ _ _ g5
            have := hr.inj _ _ _ _ _ _ _ g8 g3
            obtain ⟨o, ho⟩ := Option.isSome_iff_exists.1 g7
            have g9 := g2 b (by rw [← this]; exact (he.lt b g6).2)
            rw [ho] at g9; cases g9
        · exact h1 _ _ _ g4
      · have cross : ∀ c d ro sz ro' sz', c < h.next → (∀ b, σ c = some b → h0.get b = none) → μ c = .at_ r ro sz → (∃ b, ρ b = d ∧ may h0 b = true ∧ b < h0'.next ∧ μ1 b = .at_ r ro' sz' ∧ (h'.get d = (h0'.get b).map (renO ρ) ∨ (b < h0.next ∧ Stone h0 b ∧ h'.get d = h.get d))) → False := by
          intro c d ro sz ro' sz' h1 h2 h3 ⟨b, _, _, _, h4, _⟩
          rcases p.range _ _ _ _ h4 with h5 | ⟨b', ro2, sz2, h5⟩
          · have := (hr.lt h3).2; omega
          · obtain ⟨h6, h7, h8⟩ := at0 b' _ _ _ h5
            have := hr.inj _ _ _ _ _ _ _ h8 h3
            obtain ⟨o, ho⟩ := Option.isSome_iff_exists.1 h7
            have h9 := h2 b' (by rw [← this]; exact (he.lt b' h6).2)
            rw [ho] at h9; cases h9
        rcases src c _ _ _ e with ⟨h1, h2, h3⟩ | hx
        · rcases src d _ _ _ e' with ⟨h4, h5, h6⟩ | hy
          · exact hr.inj _ _ _ _ _ _ _ h3 h6
          · exact (cross c d _ _ _ _ h1 h2 h3 hy).elim
        · rcases src d _ _ _ e' with ⟨h4, h5, h6⟩ | hy
          · exact (cross d c _ _ _ _ h4 h5 h6 hx).elim
          · obtain ⟨b, rfl, _, _, h1, _⟩ := hx
            obtain ⟨b2, rfl, _, _, h2, _⟩ := hy
            rw [p.rel.inj _ _ _ _ _ _ _ h1 h2]
      · rcases Nat.lt_or_ge c h'.next with h1 | h1
        · exact h1
        · exact absurd (nf c h1) hcn
      · rcases Nat.lt_or_ge c h.next with hcl | hcl
        · rcases cl c hcl with ⟨b, h1, h2, rfl⟩ | h1
          · rw [k1 b h1 h2] at hcd
            rcases hf.known b h1 h2 with ⟨_, hk⟩ | ⟨o, ho, hq, hk⟩
            · rw [hk, p.rel.dead b hcd]; rfl
            · exfalso
              obtain ⟨hst, r, ro, sz, hm | hm⟩ := opq h1 ho hq
              · have := ((p.stone b hst).2 r ro sz (by rw [k0 b h1 h2]; exact hm)).1
                rw [hcd, k0 b h1 h2, hm] at this; cases this
              · have := p.low b h1 (by rw [k0 b h1 h2]; exact hm)
                rw [this] at hcd; cases hcd
          · rw [r1 c hcl h1] at hcd
            rw [hf.rest c hcl h1]; exact hr.dead c hcd
        · rcases Nat.lt_or_ge c h'.next with h1 | h1
          · have hb : h0.next ≤ h0.next + (c - h.next) := by omega
            have hc' : ρ (h0.next + (c - h.next)) = c := by rw [he.new _ hb]; omega
            have hb1 : h0.next + (c - h.next) < h0'.next := by rw [hf.next] at h1; omega
            rw [← hc', f1 _ hb hb1] at hcd
            rw [hf.fresh c hcl, p.rel.dead _ hcd]; rfl
          · rw [nf c h1] at hcd; cases hcd
      · rcases src c _ _ _ e with ⟨h1, h2, h3⟩ | ⟨b, hbc, h1, h2, h3, h4⟩
        · obtain ⟨o, o', g1, g2, g3⟩ := hr.dom _ _ _ _ h3
          exact ⟨o, o', by rw [hf.rest c h1 h2]; exact g1, by rw [hframe c r ro sz h1 h2 h3]; exact g2, g3.later hlater⟩
        · rcases h4 with h4 | ⟨hb0, hst, h4⟩
          · obtain ⟨o, o', g1, g2, g3⟩ := p.rel.dom _ _ _ _ h3
            exact ⟨renO ρ o, o', by rw [h4, g1]; rfl, g2, g3.ren hren (hf.names b o g1)⟩
          · obtain ⟨cc, ee, ff, ss, hst1, hst2⟩ := hst
            have hst : Stone h0 b := ⟨cc, ee, ff, ss, hst1, hst2⟩
            have hb2 : (h0.get b).isSome = true := by rw [hst1]; rfl
            have hnb : μ0 b ≠ .no := fun hno => by have := p.low b hb0 hno; rw [this] at h3; cases h3
            have hat : μ0 b = .at_ r ro sz := p.later.at_ ⟨hb0, hnb⟩ h3
            have hheap := ((p.stone b hst).2 r ro sz hat).2
            rw [k0 b hb0 hb2] at hat
            obtain ⟨o, o', g1, g2, g3⟩ := hr.dom _ _ _ _ hat
            subst hbc
            exact ⟨o, o', by rw [h4]; exact g1, by rw [hheap]; exact g2, g3.later hlater⟩
      · rw [hf.fresh c (by omega)]
        rw [p.rel.top _ (by rw [hf.next] at hcn; omega)]; rfl
    refine ⟨μ', ⟨hlater, hnx, fun c hcl e => ?_, p.size, fun c r ro sz e => ?_, fun r hrl hn => ?_, fun c hs => ?_, hrel', fun r i v hv => ?_, p.still⟩, hvr.ren hren hv⟩
    rotate_right
    · rcases p.imr _ _ _ hv with g5 | g5 | ⟨b, ro2, sz2, g5⟩
      · exact .inl g5
      · exact .inr (.inl g5)
      · exact .inr (.inr ⟨_, _, _, (at0 b _ _ _ g5).2.2⟩)
    · rcases cl c hcl with ⟨b, h1, h2, rfl⟩ | h1
      · rw [k1 b h1 h2]
        exact p.low b h1 (by rw [k0 b h1 h2]; exact e)
      · rw [r1 c hcl h1]; exact e
    · rcases src c _ _ _ e with ⟨h1, h2, h3⟩ | ⟨b, hbc, h1, h2, h3, h4⟩
      · exact .inr ⟨c, ro, sz, h3⟩
      · rcases p.range _ _ _ _ h3 with h5 | ⟨b', ro2, sz2, h5⟩
        · exact .inl h5
        · exact .inr ⟨_, _, _, (at0 b' _ _ _ h5).2.2⟩
    · exact p.frame r hrl fun b ro sz e => hn _ _ _ (at0 b _ _ _ e).2.2
    · have hcl : c < h.next := hs.lt hr
      rcases cl c hcl with ⟨b, h1, h2, rfl⟩ | h1
      · obtain ⟨o, ho⟩ := Option.isSome_iff_exists.1 h2
        rcases hf.known b h1 h2 with ⟨hgo, hkn⟩ | ⟨o2, ho2, hq, hkn⟩
        rotate_left
        · obtain ⟨hst, _⟩ := opq h1 ho2 hq
          refine ⟨hkn, fun r ro sz e => ?_⟩
          obtain ⟨h3, h4⟩ := (p.stone b hst).2 r ro sz (by rw [k0 b h1 h2]; exact e)
          exact ⟨by rw [k1 b h1 h2, h3, k0 b h1 h2], h4⟩
        rw [ho] at hgo
        have hgo : h.get (ρ b) = some (renO ρ o) := hgo
        have hs0 : Stone h0 b := by
          obtain ⟨cc, ee, fz, ss, hc1, hc2⟩ := hs
          rw [hgo] at hc1
          cases o with
          | cells c2 e2 fz2 s2 =>
            simp only [renO, Option.some.injEq, AObj.cells.injEq] at hc1
            obtain ⟨rfl, rfl, rfl, rfl⟩ := hc1
            rw [rens_length] at hc2
            exact ⟨c2, _, _, _, ho, hc2⟩
          | _ => simp [renO] at hc1
        obtain ⟨e1, hst⟩ := p.stone b hs0
        refine ⟨by rw [hkn, e1, ho, hgo]; rfl, fun r ro sz e => ?_⟩
        obtain ⟨h3, h4⟩ := hst r ro sz (by rw [k0 b h1 h2]; exact e)
        exact ⟨by rw [k1 b h1 h2, h3, k0 b h1 h2], h4⟩
      · exact ⟨hf.rest c hcl h1, fun r ro sz e => ⟨r1 c hcl h1, hframe c r ro sz hcl h1 e⟩⟩
end Go.Ev
end
section
namespace Go.Ev
/-! the evaluator's tables, out of a program -/

def undD (l : List TypeInfo) (d : TypeDesc) : TypeDesc :=
  match d with
  | .named _ u => match l[u]? with
    | some i => i.desc
    | none => .invalid
  | d => d
def tiOf (P : Program) (l : List TypeInfo) (t : TypeId) (i : TypeInfo) : TI :=
  { desc := undD l i.desc, size := i.size, bytes := i.bytes, zero := i.zero, agg := isAggD (undD l i.desc), eqOk := !P.stoodInHeld t && !P.eqGuardType P.depth t }
def isTuple (i : TypeInfo) : Bool :=
  match i.desc with
  | .tuple _ => true
  | _ => false
def tiOpt (P : Program) (l : List TypeInfo) (t : TypeId) (i : TypeInfo) : Option TI :=
  match isTuple i with
  | true => none
  | false => some (tiOf P l t i)
def tisFrom (P : Program) (l : List TypeInfo) : List TypeInfo → TypeId → List (Option TI)
  | [], _ => []
  | i :: r, t => tiOpt P l t i :: tisFrom P l r (t + 1)

noncomputable def envOf (tis : Tr (Option TI)) (fns : Tr Func) (intr : FuncId → Option (List Value → AH → Option (Value × AH))) : Env :=
  { ti := fun t => match tis.get t with | some (some i) => some i | _ => none, fn := fun f => fns.get f, intr := intr }

/-- what is to be looked at in the table of types -/
def undOk (l : List TypeInfo) (d : TypeDesc) : Bool :=
  match d with
  | .named _ u => match l[u]? with
    | some _ => true
    | none => false
  | _ => true
def zOk (i : TypeInfo) : Bool :=
  match i.zero with
  | some z => (cellsOf z).all (fun v => litV v && leaf v) && Nat.beq (cellsOf z).length i.size
  | none => true
def fieldsOk (l : List TypeInfo) (i : TypeInfo) : Bool :=
  match undD l i.desc with
  | .struct fs => fs.toList.all fun f => Nat.blt f.type l.length
  | _ => true
def typesOk (l : List TypeInfo) : Bool := l.all fun i => isTuple i || (undOk l i.desc && zOk i && fieldsOk l i)
def funcOk (G : Nat → Bool) (fn : Func) : Bool :=
  !(fn.name == "runtime.NumGoroutine") && (match fn.body with | some c => codeOk G fn.ntmps c | none => true)
def funcsOk (G : Nat → Bool) (l : List Func) : Bool := l.all (funcOk G)

theorem tisFrom_get (P : Program) (l : List TypeInfo) : ∀ (r : List TypeInfo) (t k : Nat), (tisFrom P l r t)[k]? = (r[k]?).map (tiOpt P l (t + k))
  | [], t, k => by simp [tisFrom]
  | i :: r, t, 0 => by simp [tisFrom]
  | i :: r, t, k + 1 => by
    simp only [tisFrom, List.getElem?_cons_succ]
    rw [tisFrom_get P l r (t + 1) k, show t + 1 + k = t + (k + 1) by omega]

theorem tisFrom_length (P : Program) (l : List TypeInfo) : ∀ (r : List TypeInfo) (t : Nat), (tisFrom P l r t).length = r.length
  | [], t => rfl
  | i :: r, t => by simp [tisFrom, tisFrom_length P l r (t + 1)]

theorem fill_get {α : Type} (l : List α) (k : Nat) : (Tr.fill l 0 .leaf).get k = l[k]? := by
  rw [Tr.get_fill]
  by_cases h : k < l.length
  · simp [h]
  · rw [if_neg (by omega), List.getElem?_eq_none (by omega)]; rfl

section
variable {P : Program}
theorem info_of {t : Nat} {i : TypeInfo} (h : P.types.toList[t]? = some i) : P.info? t = some i := by
  have : P.types[t]? = some i := by simpa using h
  have hlt := (Array.getElem?_eq_some_iff.1 this).1
  unfold Tables.info?
  rw [if_pos hlt, this]

theorem underlying_eq {t : Nat} {inf : TypeInfo} (hin : P.info? t = some inf) : P.underlying t = match inf.desc with | .named _ u => (P.info? u).map (·.desc) | d => some d := by
  unfold Program.underlying
  rw [hin]
  obtain ⟨d, _⟩ := inf
  cases d <;> rfl

theorem tis_ok (hT : typesOk P.types.toList = true) {fns : Tr Func} {intr} : TIs P (envOf (Tr.fill (tisFrom P P.types.toList P.types.toList 0) 0 .leaf) fns intr) ∧ PlacesOk P (envOf (Tr.fill (tisFrom P P.types.toList P.types.toList 0) 0 .leaf) fns intr) := by
  unfold typesOk at hT
  rw [List.all_eq_true] at hT
  have key : ∀ t i, (envOf (Tr.fill (tisFrom P P.types.toList P.types.toList 0) 0 .leaf) fns intr).ti t = some i → ∃ inf, P.types.toList[t]? = some inf ∧ i = tiOf P P.types.toList t inf ∧ (undOk P.types.toList inf.desc = true ∧ zOk inf = true) ∧ fieldsOk P.types.toList inf = true := by
    intro t i h
    simp only [envOf] at h
    rw [fill_get, tisFrom_get] at h
    cases hi : P.types.toList[t]? with
    | none => rw [hi] at h; cases h
    | some inf =>
      rw [hi] at h
      simp only [Option.map_some, Nat.zero_add] at h
      have := hT inf (List.mem_of_getElem? hi)
      unfold tiOpt at h
      cases ht : isTuple inf with
      | true => rw [ht] at h; simp at h
      | false =>
        rw [ht] at h this
        simp only [Option.some.injEq] at h
        exact ⟨inf, rfl, h.symm, by simpa using this⟩
  constructor
  · constructor
    intro t i h
    obtain ⟨inf, h1, rfl, ⟨h2, h3⟩, _⟩ := key t i h
    have hin := info_of h1
    refine ⟨?_, ⟨inf, hin, rfl, rfl, rfl⟩, rfl, ?_, ?_⟩
    · rw [underlying_eq hin]
      cases hd : inf.desc with
      | named n u =>
        simp only [tiOf, undD, hd]
        rw [hd] at h2
        simp only [undOk] at h2
        split at h2 <;> try (cases h2; done)
        rename_i iu hiu
        rw [info_of hiu]
        rfl
      | _ => simp only [tiOf, undD, hd]
    · intro he
      simp only [tiOf, Bool.and_eq_true, Bool.not_eq_true'] at he
      exact he
    · intro z hz
      have hz' : inf.zero = some z := hz
      unfold zOk at h3
      rw [hz'] at h3
      simp only [Bool.and_eq_true] at h3
      exact ⟨h3.1, Nat.eq_of_beq_eq_true h3.2⟩
  · constructor
    intro t i fs h hd f hf
    obtain ⟨inf, h1, rfl, _, h4⟩ := key t i h
    unfold fieldsOk at h4
    have hd' : undD P.types.toList inf.desc = .struct fs := hd
    rw [hd'] at h4
    simp only [List.all_eq_true] at h4
    have := h4 f hf
    rw [Nat.blt_eq] at this
    exact ⟨_, info_of (List.getElem?_eq_getElem this)⟩

theorem fns_ok {G : Nat → Bool} (hF : funcsOk G P.funcs.toList = true) {f : FuncId} {fn : Func} (h : (Tr.fill P.funcs.toList 0 .leaf).get f = some fn) :
    P.funcs[f]? = some fn ∧ (fn.name == "runtime.NumGoroutine") = false ∧ ∀ c, fn.body = some c → codeOk G fn.ntmps c = true := by
  rw [fill_get] at h
  refine ⟨by simpa using h, ?_⟩
  have := List.all_eq_true.1 hF fn (List.mem_of_getElem? h)
  unfold funcOk at this
  simp only [Bool.and_eq_true, Bool.not_eq_true'] at this
  refine ⟨this.1, fun c hc => ?_⟩
  have h2 := this.2
  rw [hc] at h2
  exact h2

/-- a function of the library that has no text -/
theorem extern_ok {G : Nat → Bool} {f : FuncId} {fn : Func} {e : Array Value → Sem Value} (hf : P.funcs[f]? = some fn) (hn : (fn.name == "runtime.NumGoroutine") = false) (hb : fn.body = none)
    (h1 : Extern.findNext fn = none) (h2 : Extern.find fn = some e) {args : List Value} {h h' : AH} {v : Value}
    (he : ∀ (μ : Mu) (w : World) (args' : List Value), Rel μ h w → VRs μ args args' → ∃ v' w' μ', (e ⟨args'⟩).run P w = .ok v' w' ∧ Post μ h w μ' h' w' ∧ VR μ' v v') : CallOk P G f args h v h' := by
  intro μ w args' hr hg ha o a next Q hq
  obtain ⟨v', w', μ', g1, g2, g3⟩ := he μ w args' hr ha
  have hn' : fn.name ≠ "runtime.NumGoroutine" := by simpa using hn
  have : (callFunc f ⟨args'⟩).run P w = .ok (.value v') w' := by
    simp [callFunc, hf, hn', hb, h1, h2, g1]
  rw [this]
  exact hq v' w' μ' g2 g3
end
end Go.Ev
end
section
namespace Go.Ev
/-! functions of the library that have no text -/

def findIdx (c : UInt8) : List UInt8 → Nat → Int
  | [], _ => -1
  | x :: l, n => match decide (x = c) with
    | true => n
    | false => findIdx c l (n + 1)
def countOf (c : UInt8) : List UInt8 → Int → Int
  | [], n => n
  | x :: l, n => match decide (x = c) with
    | true => countOf c l (n + 1)
    | false => countOf c l n

def idxI (args : List Value) (h : AH) : Option (Value × AH) :=
  match args with
  | [.string s, .int .u8 c] => some (.int .i64 (findIdx c.toNat.toUInt8 s.data.toList 0), h)
  | _ => none
def cntI (args : List Value) (h : AH) : Option (Value × AH) :=
  match args with
  | [.string s, .int .u8 c] => some (.int .i64 (countOf c.toNat.toUInt8 s.data.toList 0), h)
  | _ => none
def sameI (args : List Value) (h : AH) : Option (Value × AH) :=
  match args with
  | [x] => some (x, h)
  | _ => none

theorem findIdx_eq (c : UInt8) : ∀ (l : List UInt8) (n : Nat), (match (List.range' n l.length).find? (fun i => (l[i - n]?).getD 0 == c) with | some i => Value.int .i64 i | none => Value.int .i64 (-1)) = Value.int .i64 (findIdx c l n)
  | [], n => rfl
  | x :: l, n => by
    have ih := findIdx_eq c l (n + 1)
    rw [List.length_cons, List.range'_succ, List.find?_cons]
    simp only [Nat.sub_self, List.getElem?_cons_zero, Option.getD_some]
    unfold findIdx
    by_cases h : x = c
    · simp [h]
    · have h' : (x == c) = false := by simpa using h
      rw [h']
      simp only [h, decide_false]
      rw [← ih]
      have : ∀ (m : Nat) (k : Nat), n + 1 ≤ k → (List.range' k m).find? (fun i => ((x :: l)[i - n]?).getD 0 == c) = (List.range' k m).find? (fun i => (l[i - (n + 1)]?).getD 0 == c) := by
        intro m
        induction m with
        | zero => intro k _; rfl
        | succ m ih2 =>
          intro k hk
          rw [List.range'_succ, List.find?_cons, List.find?_cons, ih2 (k + 1) (by omega)]
          have : k - n = (k - (n + 1)) + 1 := by omega
          rw [this, List.getElem?_cons_succ]
      rw [this l.length (n + 1) (Nat.le_refl _)]

theorem idx_ok {P : Program} {μ : Mu} {h : AH} {w : World} {args args' : List Value} {v : Value} {h' : AH} (hc : idxI args h = some (v, h')) (hr : Rel μ h w) (ha : VRs μ args args') :
    ∃ v' w' μ', (Extern.BytealgIndexByte.indexByte ⟨args'⟩).run P w = .ok v' w' ∧ Post μ h w μ' h' w' ∧ VR μ' v v' := by
  unfold idxI at hc
  split at hc <;> cases hc
  rename_i s c
  cases ha with
  | cons _ x' _ l' h1 h2 =>
    cases h2 with
    | cons _ y' _ m' h3 h4 =>
      cases h4
      rw [h1.string, h3.int]
      refine ⟨_, w, μ, ?_, Post.refl hr, .lit _ rfl⟩
      have key : (match (List.range s.size).find? fun i => s[i]! == c.toNat.toUInt8 with | some i => goInt i | none => goInt (-1)) = Value.int .i64 (findIdx c.toNat.toUInt8 s.data.toList 0) := by
        rw [← findIdx_eq]
        have e1 : s.size = s.data.toList.length := rfl
        rw [e1, List.range_eq_range']
        have e2 : (fun (i : Nat) => s[i]! == c.toNat.toUInt8) = (fun (i : Nat) => ((s.data.toList)[i - 0]?).getD 0 == c.toNat.toUInt8) := by
          funext i
          congr 1
          by_cases hi : i < s.size
          · have hi' : i < s.data.toList.length := hi
            rw [getElem!_pos s i hi, Nat.sub_zero, List.getElem?_eq_getElem hi']
            rfl
          · have hi' : ¬ i < s.data.toList.length := hi
            rw [getElem!_neg s i hi, Nat.sub_zero, List.getElem?_eq_none (by omega)]
            rfl
        rw [e2]
        split <;> rfl
      have : (Extern.BytealgIndexByte.indexByte ⟨[.string s, .int .u8 c]⟩ : Sem Value) = (match (List.range s.size).find? fun i => s[i]! == c.toNat.toUInt8 with | some i => pure (goInt i) | none => pure (goInt (-1))) := rfl
      rw [this, ← key]
      split <;> rfl

theorem count_eq (c : UInt8) : ∀ (l : List UInt8) (n : Int), l.foldl (fun n x => if x == c then n + 1 else n) n = countOf c l n
  | [], n => rfl
  | x :: l, n => by
    simp only [List.foldl_cons]
    unfold countOf
    by_cases h : x = c
    · have h' : (x == c) = true := by simpa using h
      rw [h', if_pos rfl, count_eq c l]
      simp [h]
    · have h' : (x == c) = false := by simpa using h
      rw [h', if_neg (by simp), count_eq c l]
      simp [h]

theorem foldl_loop {β : Type} (f : β → UInt8 → β) (s : ByteArray) : ∀ (i j : Nat) (b : β), j + i = s.size → ByteArray.foldlM.loop (m := _root_.Id) (fun b x => pure (f b x)) s s.size (Nat.le_refl _) i j b = (s.data.toList.drop j).foldl f b
  | 0, j, b, h => by
    unfold ByteArray.foldlM.loop
    rw [dif_neg (by omega), List.drop_eq_nil_of_le (by have : s.data.toList.length = s.size := rfl; omega)]
    rfl
  | i + 1, j, b, h => by
    have hj : j < s.size := by omega
    unfold ByteArray.foldlM.loop
    rw [dif_pos hj]
    have hj' : j < s.data.toList.length := hj
    rw [List.drop_eq_getElem_cons hj', List.foldl_cons]
    exact foldl_loop f s i (j + 1) (f b s[j]) (by omega)
theorem foldl_data {β : Type} (f : β → UInt8 → β) (b : β) (s : ByteArray) : s.foldl f b = s.data.toList.foldl f b := by
  have := foldl_loop f s s.size 0 b (by omega)
  rw [List.drop_zero] at this
  rw [← this]
  unfold ByteArray.foldl ByteArray.foldlM
  rw [dif_pos (Nat.le_refl _)]
  rfl

theorem cnt_ok {P : Program} {μ : Mu} {h : AH} {w : World} {args args' : List Value} {v : Value} {h' : AH} (hc : cntI args h = some (v, h')) (hr : Rel μ h w) (ha : VRs μ args args') :
    ∃ v' w' μ', (Extern.BytealgCount.count ⟨args'⟩).run P w = .ok v' w' ∧ Post μ h w μ' h' w' ∧ VR μ' v v' := by
  unfold cntI at hc
  split at hc <;> cases hc
  rename_i s c
  cases ha with
  | cons _ x' _ l' h1 h2 =>
    cases h2 with
    | cons _ y' _ m' h3 h4 =>
      cases h4
      rw [h1.string, h3.int]
      refine ⟨_, w, μ, ?_, Post.refl hr, .lit _ rfl⟩
      have : (Extern.BytealgCount.count ⟨[.string s, .int .u8 c]⟩ : Sem Value) = pure (goInt (s.foldl (fun n x => if x == c.toNat.toUInt8 then n + 1 else n) (0 : Int))) := rfl
      rw [this, ← count_eq]
      have e2 : s.foldl (fun n x => if x == c.toNat.toUInt8 then n + 1 else n) (0 : Int) = s.data.toList.foldl (fun n x => if x == c.toNat.toUInt8 then n + 1 else n) 0 := by
        exact foldl_data _ _ _
      rw [e2]
      rfl

theorem same_ok {P : Program} {μ : Mu} {h : AH} {w : World} {args args' : List Value} {v : Value} {h' : AH} (hc : sameI args h = some (v, h')) (hr : Rel μ h w) (ha : VRs μ args args') :
    ∃ v' w' μ', (Extern.AbiNoEscape.same ⟨args'⟩).run P w = .ok v' w' ∧ Post μ h w μ' h' w' ∧ VR μ' v v' := by
  unfold sameI at hc
  split at hc <;> cases hc
  cases ha with
  | cons _ x' _ l' h1 h2 =>
    cases h2
    exact ⟨x', w, μ, rfl, Post.refl hr, h1⟩
end Go.Ev
end
section
namespace Go.Ev
/-! promises relative to the names below a bound -/

structure PostB (B : Nat) (μ : Mu) (h : AH) (w : World) (μ' : Mu) (h' : AH) (w' : World) : Prop where
  later : ∀ b, b < B → μ.has b → μ' b = μ b ∨ μ' b = .dead
  ims : ∀ r i v, μ.f.im r i v → μ'.f.im r i v
  next : B ≤ h'.next
  nx : B ≤ μ'.n
  low : ∀ b, b < B → μ b = .no → μ' b = .no
  size : w.heap.size ≤ w'.heap.size
  range : ∀ b r ro sz, μ' b = .at_ r ro sz → w.heap.size ≤ r ∨ ∃ c ro' sz', μ c = .at_ r ro' sz'
  frame : ∀ r, r < w.heap.size → (∀ b ro sz, μ b ≠ .at_ r ro sz) → w'.heap[r]? = w.heap[r]?
  stone : ∀ b, b < B → Stone h b → h'.get b = h.get b ∧ ∀ r ro sz, μ b = .at_ r ro sz → μ' b = μ b ∧ w'.heap[r]? = w.heap[r]?
  imr : ∀ r i v, μ'.f.im r i v → μ.f.im r i v ∨ w.heap.size ≤ r ∨ ∃ c ro sz, μ c = .at_ r ro sz
  still : w'.os = w.os ∧ w'.output = w.output

theorem Post.toB {B : Nat} {μ μ' : Mu} {h h' : AH} {w w' : World} (hB : B ≤ h.next) (p : Post μ h w μ' h' w') : PostB B μ h w μ' h' w' where
  later := fun b _ hb => p.later.2 b hb
  ims := p.later.1.2
  next := Nat.le_trans hB p.next
  nx := by rw [p.rel.nx]; exact Nat.le_trans hB p.next
  low := fun b hb e => p.low b (Nat.lt_of_lt_of_le hb hB) e
  size := p.size
  range := p.range
  frame := p.frame
  stone := fun b _ hs => p.stone b hs
  imr := p.imr
  still := p.still

theorem PostB.trans {B : Nat} {μ μ₁ μ₂ : Mu} {h h₁ h₂ : AH} {w w₁ w₂ : World} (p : PostB B μ h w μ₁ h₁ w₁) (q : PostB B μ₁ h₁ w₁ μ₂ h₂ w₂) : PostB B μ h w μ₂ h₂ w₂ where
  later := fun b hb hh => by
    rcases p.later b hb hh with e | e
    · rcases q.later b hb ⟨Nat.lt_of_lt_of_le hb p.nx, by show μ₁ b ≠ .no; rw [e]; exact hh.2⟩ with e' | e'
      · exact .inl (e'.trans e)
      · exact .inr e'
    · rcases q.later b hb ⟨Nat.lt_of_lt_of_le hb p.nx, by show μ₁ b ≠ .no; rw [e]; intro h; cases h⟩ with e' | e'
      · exact .inr (e'.trans e)
      · exact .inr e'
  ims := fun r i v h => q.ims r i v (p.ims r i v h)
  next := q.next
  nx := q.nx
  low := fun b hb e => q.low b hb (p.low b hb e)
  size := Nat.le_trans p.size q.size
  range := fun b r ro sz e => by
    rcases q.range b r ro sz e with h1 | ⟨c, ro', sz', h1⟩
    · exact .inl (Nat.le_trans p.size h1)
    · exact p.range _ _ _ _ h1
  frame := fun r hr hn => by
    rw [q.frame r (Nat.lt_of_lt_of_le hr p.size), p.frame r hr hn]
    intro b ro sz e
    rcases p.range _ _ _ _ e with h1 | ⟨c, ro', sz', h1⟩
    · omega
    · exact hn _ _ _ h1
  stone := fun b hb hs => by
    obtain ⟨e1, h1⟩ := p.stone b hb hs
    obtain ⟨e2, h2⟩ := q.stone b hb (hs.of_eq e1)
    refine ⟨e2.trans e1, fun r ro sz e => ?_⟩
    obtain ⟨e3, h3⟩ := h1 r ro sz e
    obtain ⟨e4, h4⟩ := h2 r ro sz (e3.trans e)
    exact ⟨e4.trans e3, h4.trans h3⟩
  still := ⟨q.still.1.trans p.still.1, q.still.2.trans p.still.2⟩
  imr := fun r i v h => by
    rcases q.imr r i v h with h1 | h1 | ⟨c, ro, sz, h1⟩
    · exact p.imr r i v h1
    · exact .inr (.inl (Nat.le_trans p.size h1))
    · exact .inr (p.range _ _ _ _ h1)

theorem PostB.refl {B : Nat} {μ : Mu} {h : AH} {w : World} (hr : Rel μ h w) (hB : B ≤ h.next) : PostB B μ h w μ h w := (Post.refl hr).toB hB

theorem PostB.post {μ μ' : Mu} {h h' : AH} {w w' : World} (hr : Rel μ h w) (hr' : Rel μ' h' w') (p : PostB h.next μ h w μ' h' w') : Post μ h w μ' h' w' where
  later := ⟨⟨by rw [hr.nx]; exact p.nx, p.ims⟩, fun b hb => p.later b (by have := hb.1; rw [hr.nx] at this; exact this) hb⟩
  next := p.next
  low := p.low
  size := p.size
  range := p.range
  frame := p.frame
  stone := fun b hs => p.stone b (hs.lt hr) hs
  rel := hr'
  imr := p.imr
  still := p.still

theorem PostB.glob {B : Nat} {G : Nat → Bool} {μ μ' : Mu} {h h' : AH} {w w' : World} (hG : ∀ g, G g = true → g < B) (p : PostB B μ h w μ' h' w') (hg : GR G μ) : GR G μ' := fun g hgg => by
  obtain ⟨h1, h2⟩ := hg g hgg
  have hb := hG g hgg
  rcases p.later g hb h1 with e | e
  · exact ⟨⟨Nat.lt_of_lt_of_le hb p.nx, by show μ' g ≠ .no; rw [e]; exact h1.2⟩, fun r ro sz e' => h2 r ro sz (by rw [← e]; exact e')⟩
  · exact ⟨⟨Nat.lt_of_lt_of_le hb p.nx, by show μ' g ≠ .no; rw [e]; intro h; cases h⟩, fun r ro sz e' => by rw [e] at e'; cases e'⟩

/-- what a call promises, whatever its answer -/
def CallQ (P : Program) (G : Nat → Bool) (f : FuncId) (args : List Value) (h : AH) (K : Value → AH → Prop) : Prop :=
  ∀ (μ : Mu) (w : World) (args' : List Value), Rel μ h w → GR G μ → VRs μ args args' →
    ∀ (o : Oper) (a : Act) (next : Act → World → Prop) (Q : Exit → Act → World → Prop), (∀ v h' v' w' μ', K v h' → Post μ h w μ' h' w' → VR μ' v v' → next (a.put o.dst v') w') →
      o.upon P a next Q ((callFunc f ⟨args'⟩).run P w)
def CallsQ (P : Program) (G : Nat → Bool) (f : FuncId) (args : List Value) (h : AH) (K : Value → AH → Prop) : Prop :=
  ∀ (μ : Mu) (w : World) (args' : List Value), Rel μ h w → GR G μ → VRs μ args args' →
    Calls P f ⟨args'⟩ w fun | .returned v', w' => ∃ v h' μ', K v h' ∧ Post μ h w μ' h' w' ∧ VR μ' v v' | _, _ => False

section
variable {P : Program} {G : Nat → Bool}
theorem CallsQ.call {f : FuncId} {fn : Func} {c : Code} (hf : P.funcs[f]? = some fn) (hn : (fn.name == "runtime.NumGoroutine") = false) (hb : fn.body = some c) {args : List Value} {h : AH} {K : Value → AH → Prop}
    (hc : CallsQ P G f args h K) : CallQ P G f args h K := by
  intro μ w args' hr hg ha o a next Q hq
  rw [run_callFunc hf hn hb]
  refine (hc μ w args' hr hg ha).mono fun e w' he => ?_
  cases e with
  | returned v' => obtain ⟨v, h', μ', hk, p, hv⟩ := he; exact hq v h' v' w' μ' hk p hv
  | panicked _ => exact he.elim
  | outgrown => exact he.elim
end

/-- what is known in the one state is known in the other -/
def Weak (G : Nat → Bool) (B N : Nat) (s s2 : ES) : Prop :=
  ∀ μ a w, B ≤ s.h.next → SR' G N μ s a w → ∃ μ2, PostB B μ s.h w μ2 s2.h w ∧ SR' G N μ2 s2 a w

def Tri (P : Program) (G : Nat → Bool) (B N : Nat) (c : Code) (s : ES) (Q : Ex → ES → Prop) : Prop :=
  ∀ μ a w (R : Exit → Act → World → Prop), B ≤ s.h.next → SR' G N μ s a w →
    (∀ ex s' a' w' μ', Q ex s' → PostB B μ s.h w μ' s'.h w' → SR' G N μ' s' a' w' → R ex.exit' a' w') → c.wp P R a w

section
variable {P : Program} {G : Nat → Bool} {B N : Nat}
theorem Tri.mono {c : Code} {s : ES} {Q Q' : Ex → ES → Prop} (h : Tri P G B N c s Q) (hq : ∀ ex s', Q ex s' → Q' ex s') : Tri P G B N c s Q' :=
  fun μ a w R hB hs hR => h μ a w R hB hs fun ex s' a' w' μ' h1 h2 h3 => hR ex s' a' w' μ' (hq _ _ h1) h2 h3
theorem Tri.pre {c : Code} {s s2 : ES} {Q : Ex → ES → Prop} (hw : Weak G B N s s2) (h : Tri P G B N c s2 Q) : Tri P G B N c s Q := fun μ a w R hB hs hR => by
  obtain ⟨μ2, p, hs2⟩ := hw μ a w hB hs
  exact h μ2 a w R p.next hs2 fun ex s' a' w' μ' h1 h2 h3 => hR ex s' a' w' μ' h1 (p.trans h2) h3
theorem Tri.post {c : Code} {s : ES} {Q : Ex → ES → Prop} (h : Tri P G B N c s fun ex s' => ∃ s2, Weak G B N s' s2 ∧ Q ex s2) : Tri P G B N c s Q := fun μ a w R hB hs hR =>
  h μ a w R hB hs fun ex s' a' w' μ' ⟨s2, hw, hq⟩ h2 h3 => by
    obtain ⟨μ2, p, hs2⟩ := hw μ' a' w' h2.next h3
    exact hR ex s2 a' w' μ2 hq (h2.trans p) hs2
theorem Weak.refl (s : ES) : Weak G B N s s := fun μ _a _w hB hs => ⟨μ, .refl hs.rel hB, hs⟩
theorem Weak.trans {s s1 s2 : ES} (h : Weak G B N s s1) (h' : Weak G B N s1 s2) : Weak G B N s s2 := fun μ a w hB hs => by
  obtain ⟨μ1, p1, hs1⟩ := h μ a w hB hs
  obtain ⟨μ2, p2, hs2⟩ := h' μ1 a w p1.next hs1
  exact ⟨μ2, p1.trans p2, hs2⟩
/-- fewer temporaries -/
theorem Weak.temps {tm tm2 : Tr Value} {h : AH} (ht : ∀ t v, tm2.get t = some v → v = UNK ∨ tm.get t = some v) : Weak G B N ⟨tm, h⟩ ⟨tm2, h⟩ := fun μ a w hB hs => by
  refine ⟨μ, .refl hs.rel hB, ⟨hs.rel, hs.glob, fun t => ?_, hs.size, hs.defers⟩⟩
  have := hs.tmps t
  simp only [ev] at this ⊢
  cases h2 : tm2.get t with
  | none => exact .any _
  | some v =>
    rcases ht t v h2 with rfl | h1
    · exact .any _
    · rw [h1] at this; exact this

theorem Tri.seq {a b : Code} {s : ES} {Q : Ex → ES → Prop} (h : Tri P G B N a s fun ex s' => (ex = .normal ∧ Tri P G B N b s' Q) ∨ (ex ≠ .normal ∧ Q ex s')) : Tri P G B N (.seq a b) s Q := fun μ x w R hB hs hR => by
  refine wp_seq (h μ x w _ hB hs fun ex s' a' w' μ' h1 h2 h3 => ?_)
  rcases h1 with ⟨rfl, h1⟩ | ⟨hne, h1⟩
  · exact h1 μ' a' w' R h2.next h3 fun ex s'' a'' w'' μ'' g1 g2 g3 => hR ex s'' a'' w'' μ'' g1 (h2.trans g2) g3
  · have := hR ex s' a' w' μ' h1 h2 h3
    cases ex with
    | normal => exact absurd rfl hne
    | exit i => exact this
    | ret => exact this

theorem Tri.block {id : Nat} {b : Code} {s : ES} {Q : Ex → ES → Prop} (h : Tri P G B N b s fun ex s' => match ex with | .exit i => (match Nat.beq i id with | true => Q .normal s' | false => Q (.exit i) s') | ex => Q ex s') : Tri P G B N (.block id b) s Q := fun μ x w R hB hs hR => by
  refine wp_block (h μ x w _ hB hs fun ex s' a' w' μ' h1 h2 h3 => ?_)
  cases ex with
  | normal => exact hR .normal s' a' w' μ' h1 h2 h3
  | ret => exact hR .ret s' a' w' μ' h1 h2 h3
  | exit i =>
    simp only at h1
    cases hi : Nat.beq i id with
    | true =>
      rw [hi] at h1
      obtain rfl := Nat.eq_of_beq_eq_true hi
      have := hR .normal s' a' w' μ' h1 h2 h3
      simpa [Ex.exit', Exit.inBlock] using this
    | false =>
      rw [hi] at h1
      have hne : i ≠ id := by rintro rfl; simp at hi
      have := hR (.exit i) s' a' w' μ' h1 h2 h3
      simpa [Ex.exit', Exit.inBlock, hne] using this

theorem Tri.scope {b : Code} {s : ES} {Q : Ex → ES → Prop} (h : Tri P G B N b s Q) : Tri P G B N (.scope b) s Q := fun μ x w R hB hs hR =>
  wp_scope_straight (h μ x w _ hB hs fun ex s' a' w' μ' h1 h2 h3 => by
    have := hR ex s' a' w' μ' h1 h2 h3
    cases ex <;> exact this)

end

/-- a loop comes to an end -/
def LoopOk (P : Program) (c : Code) (Q : Exit → Act → World → Prop) (a : Act) (w : World) : Prop :=
  ∀ X : Act → World → Prop, (∀ a w, c.wp P (Exit.then X Q) a w → X a w) → X a w
theorem LoopOk.go {P : Program} {c : Code} {Q : Exit → Act → World → Prop} {a : Act} {w : World} (h : c.wp P (Exit.then (LoopOk P c Q) Q) a w) : LoopOk P c Q a w := fun X hX =>
  hX a w (wp_mono h fun e a w hq => by
    cases e with
    | normal => exact hq X hX
    | _ => exact hq)
theorem LoopOk.wp {P : Program} {c : Code} {Q : Exit → Act → World → Prop} {a : Act} {w : World} (h : LoopOk P c Q a w) : (Code.loop c).wp P Q a w := by
  intro b k cs
  have key := h (fun a w => ∃ e a' w', Q e a' w' ∧ Arrives P (lone (b.at a (.code c :: .inLoop c :: k)) cs w) b k cs e a' w') (by
    intro a w h
    obtain ⟨e, a₁, w₁, hq, harr⟩ := h b (.inLoop c :: k) cs
    cases e with
    | normal =>
      obtain ⟨e₂, a₂, w₂, hq₂, harr₂⟩ := hq
      exact ⟨e₂, a₂, w₂, hq₂, .of_steps (Steps.trans harr (.one step_inLoop)) harr₂⟩
    | exit id => exact ⟨_, a₁, w₁, hq, .pass (x := .inLoop c) rfl (fun _ _ => .inl (by simp)) harr⟩
    | goto l => exact ⟨_, a₁, w₁, hq, .pass (x := .inLoop c) rfl (fun _ _ => .inl (by simp)) harr⟩
    | ret => exact ⟨_, a₁, w₁, hq, .pass (x := .inLoop c) rfl (fun _ _ => .inl (by simp)) harr⟩
    | panic ch => exact ⟨_, a₁, w₁, hq, .pass (x := .inLoop c) rfl (fun _ _ => .inl (by simp)) harr⟩
    | outgrown => exact ⟨_, a₁, w₁, hq, .pass (x := .inLoop c) rfl (fun _ _ => .inl (by simp)) harr⟩)
  obtain ⟨e, a', w', hq, harr⟩ := key
  exact ⟨e, a', w', hq, .of_steps (.one step_loop) harr⟩

/-- a loop's body, from its head on -/
def TriL (P : Program) (G : Nat → Bool) (B N : Nat) (b : Code) (s : ES) (Q : Ex → ES → Prop) : Prop :=
  ∀ μ a w (R : Exit → Act → World → Prop), B ≤ s.h.next → SR' G N μ s a w →
    (∀ ex s' a' w' μ', Q ex s' → PostB B μ s.h w μ' s'.h w' → SR' G N μ' s' a' w' → R ex.exit' a' w') → LoopOk P b R a w

section
variable {P : Program} {G : Nat → Bool} {B N : Nat}
theorem TriL.tri {b : Code} {s : ES} {Q : Ex → ES → Prop} (h : TriL P G B N b s Q) : Tri P G B N (.loop b) s Q := fun μ a w R hB hs hR => (h μ a w R hB hs hR).wp
theorem TriL.mono {c : Code} {s : ES} {Q Q' : Ex → ES → Prop} (h : TriL P G B N c s Q) (hq : ∀ ex s', Q ex s' → Q' ex s') : TriL P G B N c s Q' :=
  fun μ a w R hB hs hR => h μ a w R hB hs fun ex s' a' w' μ' h1 h2 h3 => hR ex s' a' w' μ' (hq _ _ h1) h2 h3
theorem TriL.pre {c : Code} {s s2 : ES} {Q : Ex → ES → Prop} (hw : Weak G B N s s2) (h : TriL P G B N c s2 Q) : TriL P G B N c s Q := fun μ a w R hB hs hR => by
  obtain ⟨μ2, p, hs2⟩ := hw μ a w hB hs
  exact h μ2 a w R p.next hs2 fun ex s' a' w' μ' h1 h2 h3 => hR ex s' a' w' μ' h1 (p.trans h2) h3
theorem TriL.post {c : Code} {s : ES} {Q : Ex → ES → Prop} (h : TriL P G B N c s fun ex s' => ∃ s2, Weak G B N s' s2 ∧ Q ex s2) : TriL P G B N c s Q := fun μ a w R hB hs hR =>
  h μ a w R hB hs fun ex s' a' w' μ' ⟨s2, hw, hq⟩ h2 h3 => by
    obtain ⟨μ2, p, hs2⟩ := hw μ' a' w' h2.next h3
    exact hR ex s2 a' w' μ2 hq (h2.trans p) hs2
theorem TriL.go {b : Code} {s : ES} {Q : Ex → ES → Prop} (h : Tri P G B N b s fun ex s' => (ex = .normal ∧ TriL P G B N b s' Q) ∨ (ex ≠ .normal ∧ Q ex s')) : TriL P G B N b s Q := fun μ a w R hB hs hR =>
  .go (h μ a w _ hB hs fun ex s' a' w' μ' h1 h2 h3 => by
    rcases h1 with ⟨rfl, h1⟩ | ⟨hne, h1⟩
    · exact h1 μ' a' w' R h2.next h3 fun ex s'' a'' w'' μ'' g1 g2 g3 => hR ex s'' a'' w'' μ'' g1 (h2.trans g2) g3
    · have := hR ex s' a' w' μ' h1 h2 h3
      cases ex with
      | normal => exact absurd rfl hne
      | exit i => exact this
      | ret => exact this)
end
end Go.Ev
end
section
namespace Go.Ev
/-! operations whose tests are told, not reckoned -/
noncomputable section
def allP : List Prop → Prop
  | [] => True
  | p :: l => p ∧ allP l
theorem allP_mem : ∀ {l : List Prop}, allP l → ∀ p ∈ l, p
  | [], _, _, h => by cases h
  | q :: l, h, p, hp => by
    rcases List.mem_cons.1 hp with rfl | hp
    · exact h.1
    · exact allP_mem h.2 p hp
theorem allP_left : ∀ {l m : List Prop}, allP (l ++ m) → allP l
  | [], _, _ => trivial
  | _ :: _, _, h => ⟨h.1, allP_left h.2⟩
theorem allP_right : ∀ {l m : List Prop}, allP (l ++ m) → allP m
  | [], _, h => h
  | _ :: l, _, h => allP_right (l := l) h.2
theorem ble_t {a b : Nat} (h : a ≤ b) : Nat.ble a b = true := Nat.ble_eq_true_of_le h

section
variable (E : Env)
def indexAddrC (t : TypeId) (x ix : Value) : Option (List Prop × Value) :=
  match E.ti t, x, ix with
  | some i, .func (.yield 1) ⟨l⟩ _, .int _ n => match i.desc with
    | .array len e => match E.ti e with
      | some ei => some ([0 ≤ n, n < (len : Int)], immP (l.drop (n.toNat * ei.size)))
      | none => none
    | _ => none
  | some i, .func (.yield 0) ⟨l⟩ ⟨[.slice none len k]⟩, .int _ n => match i.desc with
    | .slice e => match E.ti e with
      | some ei => match Nat.beq k ei.size with
        | true => some ([0 ≤ n, n < (len : Int)], immP (l.drop (n.toNat * ei.size)))
        | false => none
      | none => none
    | _ => none
  | some i, .pointer (some a), .int _ n => match i.desc with
    | .array len e => match E.ti e with
      | some ei => some ([0 ≤ n, n < (len : Int)], .pointer (some (off a (n.toNat * ei.size))))
      | none => none
    | _ => none
  | some i, .slice (some a) len _, .int _ n => match i.desc with
    | .slice e => match E.ti e with
      | some ei => some ([0 ≤ n, n < (len : Int)], .pointer (some (off a (n.toNat * ei.size))))
      | none => none
    | _ => none
  | _, _, _ => none
def indexC (t : TypeId) (x ix : Value) : Option (List Prop × Value) :=
  match E.ti t, x, ix with
  | some i, .string s, .int _ n => match i.desc with
    | .string => some ([0 ≤ n, n.toNat < s.data.toList.length], .int .u8 (s.data.toList.getD n.toNat 0).toNat)
    | _ => none
  | _, _, _ => none
def storeC (t : TypeId) (a v : Value) (h : AH) : Option (List Prop × AR) :=
  match a with
  | .pointer (some p) => match E.ti t with
    | some i => match kn v && Nat.beq (cellsOf v).length i.size with
      | true => match h.get p.block with
        | some (.cells c e fz s) => some ([p.off + (cellsOf v).length ≤ c.length, fz ≤ p.off, (cellsOf v).all leaf = true], .eff undef (h.put p.block (some (.cells (setAt c p.off (cellsOf v)) e fz s))))
        | _ => none
      | false => none
    | none => none
  | _ => none
def boundC (x : Option Value) (y usual : Nat) : Option (List Prop × Nat) :=
  match x with
  | none => some ([], usual)
  | some (.int _ i) => some ([0 ≤ i, i ≤ (y : Int)], i.toNat)
  | some _ => none
def sliceC (t : TypeId) (x : Value) (lo hi mx : Option Value) : Option (List Prop × AR) :=
  match mx with
  | some _ => none
  | none => match x with
    | .func (.yield 0) ⟨l⟩ ⟨[.slice none len k]⟩ => match E.ti t with
      | some i => match i.desc with
        | .slice e => match E.ti e, boundC hi len len with
          | some ei, some (ps, h) => match boundC lo h 0, Nat.beq k ei.size with
            | some (qs, lo) , true => some (ps ++ qs, .pur (immV (l.drop (lo * ei.size)) (h - lo) k))
            | _, _ => none
          | _, _ => none
        | _ => none
      | none => none
    | .slice (some a) len k => match E.ti t with
      | some i => match i.desc with
        | .slice e => match E.ti e, boundC hi len len with
          | some ei, some (ps, h) => match boundC lo h 0, Nat.beq k ei.size with
            | some (qs, lo) , true => some (ps ++ qs, .pur (.slice (some (off a (lo * ei.size))) (h - lo) k))
            | _, _ => none
          | _, _ => none
        | _ => none
      | none => none
    | .string s => match E.ti t with
      | some i => match i.desc with
        | .string => match boundC hi s.size s.size with
          | some (ps, h) => match boundC lo h 0 with
            | some (qs, lo) => some (ps ++ qs, .pur (.string (s.extract lo h)))
            | none => none
          | none => none
        | _ => none
      | none => none
    | _ => none
def makeSliceC (t : TypeId) (len cap : Value) (next : Nat) : Option (List Prop × AR) :=
  match E.ti t, len, cap with
  | some i, .int _ l, .int _ c => match i.desc with
    | .slice e => match E.ti e with
      | some ei => match ei.zero, Nat.ble 1 ei.size with
        | some z, true => some ([0 ≤ l, l ≤ c, c ≤ 9223372036854775807, ei.bytes * c ≤ 281474976710656], .new (.slice (some ⟨next, 0, none⟩) l.toNat ei.size) (.cells (zeros z l.toNat) e 0 false))
        | _, _ => none
      | none => none
    | _ => none
  | _, _, _ => none
/-- the cells of a source -/
def firstC (h : AH) (size n : Nat) : Value → Option (List Prop × List Value)
  | .func (.yield 0) ⟨l⟩ ⟨[.slice none len k]⟩ => match Nat.beq k size with
    | true => some ([n ≤ len, n * size ≤ l.length], l.take (n * size))
    | false => none
  | .slice (some a) _ _ => match h.get a.block with
    | some (.cells c _ _ _) => some ([a.off + n * size ≤ c.length], (c.drop a.off).take (n * size))
    | _ => none
  | .slice none _ _ => some ([], [])
  | .string s => some ([], (ofBytes s).take n)
  | _ => none
def appendC (ts : List TypeId) (args : List Value) (h : AH) : Option (List Prop × AR) :=
  match ts, args with
  | [st, xt], [.slice base len k, x] => match E.ti st, E.ti xt with
    | some si, some xi => match si.desc, xi.desc with
      | _, .int _ => none
      | .slice e, _ => match E.ti e, lenOfA x with
        | some ei, some n => match ei.zero, Nat.ble 1 ei.size && Nat.ble 1 ei.bytes, firstC h ei.size n x with
          | some _, true, some (ps, new) => match base with
            | none => match Nat.beq len 0 with
              | true => some ([1 ≤ n, (len + n) * ei.bytes ≤ 140737488355328, new.length = n * ei.size] ++ ps, .eff (.slice (some ⟨h.next, 0, none⟩) n ei.size) (h.alloc (.cells new e 0 false)))
              | false => none
            | some a => match h.get a.block with
              | some (.cells c e' fz s) => match decide (e = e') && Nat.beq k ei.size with
                | true => some ([1 ≤ n, (len + n) * ei.bytes ≤ 140737488355328, new.length = n * ei.size, a.off + len * ei.size ≤ c.length, fz ≤ a.off + len * ei.size, new.all leaf = true] ++ ps,
                    .eff (.slice (some ⟨h.next, 0, none⟩) (len + n) ei.size) ((h.put a.block none).alloc (.cells ((c.drop a.off).take (len * ei.size) ++ new) e (fzOf fz a.off) s)))
                | false => none
              | _ => none
          | _, _, _ => none
        | _, _ => none
      | _, _ => none
    | _, _ => none
  | _, _ => none
def copyC (ts : List TypeId) (args : List Value) (h : AH) : Option (List Prop × AR) :=
  match ts, args with
  | dt :: _, [.slice (some a) len _, x] => match E.ti dt, lenOfA x with
    | some di, some n => match di.desc with
      | .slice e => match E.ti e with
        | some ei => match firstC h ei.size (Nat.min n len) x with
          | some (ps, cs) => match h.get a.block with
            | some (.cells c e' fz s) => some (ps ++ [a.off + cs.length ≤ c.length, fz ≤ a.off, cs.all leaf = true], .eff (.int .i64 (Nat.min n len : Nat)) (h.put a.block (some (.cells (setAt c a.off cs) e' fz s))))
            | _ => none
          | none => none
        | none => none
      | _ => none
    | _, _ => none
  | _, _ => none
def binC (op : BinOp) (x y : Value) : Option (List Prop × Value) :=
  match x, y with
  | .int k a, .int yk b => match op with
    | .shl => some ([0 ≤ b], .int k (k.wrap (a * 2 ^ (min b.toNat k.bits))))
    | .shr => some ([0 ≤ b], .int k (a.fdiv (2 ^ (min b.toNat k.bits))))
    | .quo => match decide (k = yk) with
      | true => some ([b ≠ 0], .int k (k.wrap (a.tdiv b)))
      | false => none
    | .rem => match decide (k = yk) with
      | true => some ([b ≠ 0], .int k (a.tmod b))
      | false => none
    | _ => none
  | .string a, .string b => match op with
    | .add => some ([a.size + b.size ≤ 9223372036854775807], .string (a ++ b))
    | _ => none
  | _, _ => none

def pairP {α : Type} (f : Value → α) (x : Option (List Prop × Value)) : Option (List Prop × α) :=
  match x with
  | some (ps, v) => some (ps, f v)
  | none => none
def aopC (op : Op) (tm : Tr Value) (h : AH) : Option (List Prop × AR) :=
  match op with
  | .indexAddr t x i => pairP .pur (indexAddrC E t (ev tm x) (ev tm i))
  | .index t x i => pairP .pur (indexC E t (ev tm x) (ev tm i))
  | .store t a x => storeC E t (ev tm a) (ev tm x) h
  | .slice t x lo hi mx => sliceC E t (ev tm x) (evOpt tm lo) (evOpt tm hi) (evOpt tm mx)
  | .makeSlice t l c => makeSliceC E t (ev tm l) (ev tm c) h.next
  | .binOp op _ x y _ => pairP .pur (binC op (ev tm x) (ev tm y))
  | .call c => match c.callee with
    | .builtin .append => appendC E c.argTypes.toList (evs tm c.args.toList) h
    | .builtin .copy => copyC E c.argTypes.toList (evs tm c.args.toList) h
    | _ => none
  | _ => none
end
end

section
variable {E : Env}
theorem boundC_ok {x : Option Value} {y u n : Nat} {ps : List Prop} (h : boundC x y u = some (ps, n)) (hp : allP ps) : bound x y u = some n := by
  unfold boundC at h
  unfold bound
  split at h
  · cases h; rfl
  · cases h
    obtain ⟨h1, h2, _⟩ := hp
    simp [h1, h2]
  · cases h
theorem indexAddrC_ok {t : TypeId} {x ix v : Value} {ps : List Prop} (h : indexAddrC E t x ix = some (ps, v)) (hp : allP ps) : indexAddrA E t x ix = some v := by
  unfold indexAddrC at h
  unfold indexAddrA
  split at h
  · split at h <;> try (cases h; done)
    split at h <;> cases h
    obtain ⟨h1, h2, _⟩ := hp
    simp [*]
  · split at h <;> try (cases h; done)
    split at h <;> try (cases h; done)
    split at h <;> cases h
    obtain ⟨h1, h2, _⟩ := hp
    simp only [*, decide_true, Bool.and_self]
  · split at h <;> try (cases h; done)
    split at h <;> cases h
    obtain ⟨h1, h2, _⟩ := hp
    simp [*]
  · split at h <;> try (cases h; done)
    split at h <;> cases h
    obtain ⟨h1, h2, _⟩ := hp
    simp [*]
  · cases h
theorem indexC_ok {t : TypeId} {x ix v : Value} {ps : List Prop} (h : indexC E t x ix = some (ps, v)) (hp : allP ps) : indexA E t x ix = some v := by
  unfold indexC at h
  unfold indexA
  split at h <;> try (cases h; done)
  split at h <;> cases h
  obtain ⟨h1, h2, _⟩ := hp
  simp only [*, decide_true]
  rw [List.getElem?_eq_getElem h2]
  have h2' := h2
  simp at h2'
  simp [List.getD_eq_getElem?_getD, h2']
theorem storeC_ok {t : TypeId} {a v : Value} {h : AH} {r : AR} {ps : List Prop} (hs : storeC E t a v h = some (ps, r)) (hp : allP ps) : storeA E t a v h = some r := by
  unfold storeC at hs
  unfold storeA
  split at hs <;> try (cases hs; done)
  split at hs <;> try (cases hs; done)
  split at hs <;> try (cases hs; done)
  split at hs <;> cases hs
  obtain ⟨h1, h2, h3, _⟩ := hp
  have g1 := ble_t h1
  have g2 := ble_t h2
  simp only [astore, AH.store, *, Bool.and_self]
theorem sliceC_ok {t : TypeId} {x : Value} {lo hi mx : Option Value} {h : AH} {r : AR} {ps : List Prop} (hs : sliceC E t x lo hi mx = some (ps, r)) (hp : allP ps) : sliceA E t x lo hi mx h = some r := by
  unfold sliceC at hs
  unfold sliceA
  split at hs <;> try (cases hs; done)
  split at hs <;> try (cases hs; done)
  · split at hs <;> try (cases hs; done)
    split at hs <;> try (cases hs; done)
    split at hs <;> try (cases hs; done)
    rename_i hb1
    split at hs <;> cases hs
    rename_i hb2 hk
    have g1 := boundC_ok hb1 (allP_left hp)
    have g2 := boundC_ok hb2 (allP_right hp)
    simp only [sliceImA, *]
  · split at hs <;> try (cases hs; done)
    split at hs <;> try (cases hs; done)
    split at hs <;> try (cases hs; done)
    rename_i hb1
    split at hs <;> cases hs
    rename_i hb2 hk
    have g1 := boundC_ok hb1 (allP_left hp)
    have g2 := boundC_ok hb2 (allP_right hp)
    simp only [sliceSlA, *]
  · split at hs <;> try (cases hs; done)
    split at hs <;> try (cases hs; done)
    split at hs <;> try (cases hs; done)
    rename_i hb1
    split at hs <;> cases hs
    rename_i hb2
    have g1 := boundC_ok hb1 (allP_left hp)
    have g2 := boundC_ok hb2 (allP_right hp)
    simp only [sliceStrA, *]
theorem makeSliceC_ok {t : TypeId} {l c : Value} {n : Nat} {r : AR} {ps : List Prop} (hs : makeSliceC E t l c n = some (ps, r)) (hp : allP ps) : makeSliceA E t l c n = some r := by
  unfold makeSliceC at hs
  unfold makeSliceA
  split at hs <;> try (cases hs; done)
  split at hs <;> try (cases hs; done)
  split at hs <;> try (cases hs; done)
  split at hs <;> cases hs
  obtain ⟨h1, h2, h3, h4, _⟩ := hp
  simp only [*, decide_true, Bool.and_self]
theorem firstC_ok {h : AH} {size n : Nat} {x : Value} {cs : List Value} {ps : List Prop} (hs : firstC h size n x = some (ps, cs)) (hp : allP ps) : firstA h size n x = some cs := by
  unfold firstC at hs
  unfold firstA
  split at hs
  · split at hs <;> cases hs
    obtain ⟨h1, h2, _⟩ := hp
    have g1 := ble_t h1
    have g2 := ble_t h2
    simp only [*, Bool.and_self]
  · split at hs <;> cases hs
    obtain ⟨h1, _⟩ := hp
    have g1 := ble_t h1
    simp only [AH.cellsAt, *]
  · cases hs; rfl
  · cases hs; rfl
  · cases hs
theorem appendC_ok {ts : List TypeId} {args : List Value} {h : AH} {r : AR} {ps : List Prop} (hs : appendC E ts args h = some (ps, r)) (hp : allP ps) : appendA E ts args h = some r := by
  unfold appendC at hs
  unfold appendA
  split at hs <;> try (cases hs; done)
  split at hs <;> try (cases hs; done)
  rename_i st xt base len k x _ _ si xi hst hxt
  split at hs <;> try (cases hs; done)
  rename_i _ _ e hd hne
  split at hs <;> try (cases hs; done)
  rename_i ei n hei hln
  split at hs <;> try (cases hs; done)
  rename_i z ps1 new hz hb hf
  simp only [Bool.and_eq_true] at hb
  have goal1 : ∀ r, appendSl E e base len k x h = some r → (match si.desc, xi.desc with
      | _, .int _ => none
      | .slice e, _ => appendSl E e base len k x h
      | _, _ => none) = some r := by
    intro r hr
    rw [hd]
    split
    · rename_i q; exact (hne _ q).elim
    · rename_i q _; cases q; exact hr
    · rename_i q1 q2; first | exact (q1 _ rfl).elim | exact (q2 _ rfl).elim
  simp only [hst, hxt]
  apply goal1
  split at hs
  · split at hs <;> cases hs
    rename_i hl0
    have hp1 := allP_left hp
    have hp2 := allP_right hp
    obtain ⟨h1, h2, h3, _⟩ := hp1
    have hf' := firstC_ok hf hp2
    have hbb : (Nat.ble 1 ei.size && Nat.ble 1 ei.bytes && Nat.ble ((len + n) * ei.bytes) 140737488355328) = true := by
      rw [hb.1, hb.2, ble_t h2]; rfl
    simp only [appendSl, hei, hln, hz, hbb]
    cases n with
    | zero => omega
    | succ n =>
      simp only [hf']
      have : Nat.beq new.length ((n + 1) * ei.size) = true := Nat.beq_eq.mpr h3
      simp only [this, appendTo, hl0]
  · split at hs <;> try (cases hs; done)
    rename_i hg
    split at hs <;> cases hs
    rename_i hk
    have hp1 := allP_left hp
    have hp2 := allP_right hp
    obtain ⟨h1, h2, h3, h4, h5, h6, _⟩ := hp1
    have hf' := firstC_ok hf hp2
    have hbb : (Nat.ble 1 ei.size && Nat.ble 1 ei.bytes && Nat.ble ((len + n) * ei.bytes) 140737488355328) = true := by
      rw [hb.1, hb.2, ble_t h2]; rfl
    simp only [appendSl, hei, hln, hz, hbb]
    cases n with
    | zero => omega
    | succ n =>
      simp only [hf']
      have : Nat.beq new.length ((n + 1) * ei.size) = true := Nat.beq_eq.mpr h3
      simp only [this, appendTo, growA, hg]
      simp only [Bool.and_eq_true] at hk
      simp only [hk.1, hk.2, ble_t h4, ble_t h5, h6, Bool.and_self]
theorem copyC_ok {ts : List TypeId} {args : List Value} {h : AH} {r : AR} {ps : List Prop} (hs : copyC E ts args h = some (ps, r)) (hp : allP ps) : copyA E ts args h = some r := by
  unfold copyC at hs
  unfold copyA
  split at hs <;> try (cases hs; done)
  split at hs <;> try (cases hs; done)
  split at hs <;> try (cases hs; done)
  split at hs <;> try (cases hs; done)
  split at hs <;> try (cases hs; done)
  rename_i hf
  split at hs <;> cases hs
  obtain ⟨h1, h2, h3, _⟩ := allP_right hp
  have g0 := firstC_ok hf (allP_left hp)
  have g1 := ble_t h1
  have g2 := ble_t h2
  simp only [AH.store, *, Bool.and_self]
theorem binC_ok {op : BinOp} {t : TypeId} {x y v : Value} {ps : List Prop} (hs : binC op x y = some (ps, v)) (hp : allP ps) : binA E op t x y = some v := by
  unfold binC at hs
  unfold binA
  split at hs
  · rename_i k a yk b
    split at hs
    · cases hs; obtain ⟨h1, _⟩ := hp
      have : decide (b < 0) = false := by simpa using h1
      simp only [shiftA, this]
    · cases hs; obtain ⟨h1, _⟩ := hp
      have : decide (b < 0) = false := by simpa using h1
      simp only [shiftA, this]
    · split at hs <;> cases hs
      rename_i hk
      obtain ⟨h1, _⟩ := hp
      simp only [hk, intA]
      simp [h1]
    · split at hs <;> cases hs
      rename_i hk
      obtain ⟨h1, _⟩ := hp
      simp only [hk, intA]
      simp [h1]
    · cases hs
  · split at hs <;> cases hs
    obtain ⟨h1, _⟩ := hp
    simp only [strA, ble_t h1]
  · cases hs
theorem aopC_ok {op : Op} {tm : Tr Value} {h : AH} {r : AR} {ps : List Prop} (hs : aopC E op tm h = some (ps, r)) (hp : allP ps) : aop E op tm h = some r := by
  have key : ∀ {x : Option (List Prop × Value)} {y : Option Value}, pairP AR.pur x = some (ps, r) → (∀ v, x = some (ps, v) → y = some v) → pureA y = some r := by
    intro x y h1 h2
    unfold pairP at h1
    split at h1 <;> cases h1
    rw [h2 _ rfl]; rfl
  unfold aopC at hs
  unfold aop
  split at hs
  · exact key hs fun v e => indexAddrC_ok e hp
  · exact key hs fun v e => indexC_ok e hp
  · exact storeC_ok hs hp
  · exact sliceC_ok hs hp
  · exact makeSliceC_ok hs hp
  · rename_i op t x y c
    unfold binOpA
    unfold pairP at hs
    split at hs <;> cases hs
    rename_i ps' v e
    have : nilsA E op t x y (ev tm x) (ev tm y) = none := by
      unfold nilsA
      unfold binC at e
      split at e
      · rename_i h1 h2; rw [h1]
      · rename_i h1 h2; rw [h1]
      · cases e
    simp only [this]
    rw [binC_ok e hp]; rfl
  · rename_i c
    simp only [callOpA]
    split at hs
    · rename_i hc; rw [hc]; simp only [builtinA]; exact appendC_ok hs hp
    · rename_i hc; rw [hc]; simp only [builtinA]; exact copyC_ok hs hp
    · cases hs
  · cases hs
end
end Go.Ev
end
section
namespace Go.Ev
/-! what is to be shown of a run -/
noncomputable section

/-- frames by their temporaries -/
def frL : List (Nat × Value) → Tr Value
  | [] => .leaf
  | (t, v) :: l => (frL l).put t (some v)
def getT (tm : Tr Value) (t : Nat) : Value :=
  match tm.get t with
  | some v => v
  | none => UNK
def sel (tm : Tr Value) : List Nat → List (Nat × Value)
  | [] => []
  | t :: l => (t, getT tm t) :: sel tm l

/-- the bodies of a code's loops, outer ones first -/
def loopsOf : Code → List Code
  | .seq a b => loopsOf a ++ loopsOf b
  | .cond _ a b => loopsOf a ++ loopsOf b
  | .block _ b => loopsOf b
  | .loop b => b :: loopsOf b
  | .scope b => loopsOf b
  | _ => []
def loopB (fn : Func) (k : Nat) : Code :=
  match fn.body with
  | some c => match (loopsOf c)[k]? with
    | some b => b
    | none => .skip
  | none => .skip

/-- decisions on the way -/
inductive Dec : Type 1 where
  | run (k : Nat)
  | cond
  | bool (l r : List Dec)
  | ask (α : Type) (e : α → AH → AR)
  | askb (l r : List Dec)
  | call (α : Type) (e : α → AH → Value × AH)
  | inl
  | code (α : Type) (live : List Nat) (e : α → AH → Ex × List (Nat × Value) × AH)

def noCall : Caller := fun _ _ _ => none

section
variable (P : Program) (G : Nat → Bool) (E : Env) (call : Caller)

/-- a loop as a whole (its body is told) -/
def LoopT (B N : Nat) (b : Code) (fr : List (Nat × Value)) (h : AH) (r : Ex × List (Nat × Value) × AH) : Prop :=
  TriL P G B N b ⟨frL fr, h⟩ fun ex s' => ex = r.1 ∧ s' = ⟨frL r.2.1, r.2.2⟩

abbrev KR := AR → Value → AH → List Dec → Prop
abbrev KV := Value → AH → List Dec → Prop
abbrev Inl := FuncId → List Value → AH → List Dec → KV → Prop

/-- an operation that is reckoned -/
def vcEval (op : Op) (s : ES) (d : List Dec) (K : KR) : Prop :=
  match aop E op s.tm s.h with
  | some ar => match does call s.h ar with
    | some (v, h') => K ar v h' d
    | none => False
  | none => False

def vcStep (inl : Option Inl) (op : Op) (s : ES) (d : List Dec) (K : KR) : Prop :=
  match d with
  | [] => vcEval E call op s [] K
  | .run 0 :: d' => vcEval E call op s d' K
  | .run (k + 1) :: d' => vcEval E call op s (.run k :: d') K
  | .cond :: d' => match aopC E op s.tm s.h with
    | some (ps, ar) => match does noCall s.h ar with
      | some (v, h') => allP ps ∧ K ar v h' d'
      | none => False
    | none => False
  | .bool l r :: _ => match aop E op s.tm s.h with
    | some ar => match does call s.h ar with
      | some (.bool b, h') => (b = true → K ar (.bool true) h' l) ∧ (b = false → K ar (.bool false) h' r)
      | _ => False
    | none => False
  | .askb l r :: _ => ∃ b, aop E op s.tm s.h = some (.pur (.bool b)) ∧ (b = true → K (.pur (.bool true)) (.bool true) s.h l) ∧ (b = false → K (.pur (.bool false)) (.bool false) s.h r)
  | .ask α e :: d' => ∃ x : α, aop E op s.tm s.h = some (e x s.h) ∧ (match does noCall s.h (e x s.h) with
    | some (v, h') => K (e x s.h) v h' d'
    | none => False)
  | .call α e :: d' => match aop E op s.tm s.h with
    | some (.call f args) => ∃ x : α, CallOk P G f args s.h (e x s.h).1 (e x s.h).2 ∧ K (.call f args) (e x s.h).1 (e x s.h).2 d'
    | _ => False
  | .inl :: d' => match inl with
    | some g => match aop E op s.tm s.h with
      | some (.call f args) => g f args s.h d' fun v h' d'' => K (.call f args) v h' d''
      | _ => False
    | none => False
  | .code _ _ _ :: _ => False

/-- operations one by one -/
def vcOps (inl : Inl) (ops : List Oper) : List Oper → ES → List Dec → (ES → List Dec → Prop) → Prop
  | [], s, d, K => K s d
  | o :: l, s, d, K => match guardKn ops s.tm o with
    | false => False
    | true => match wantedA ops s.tm o with
      | false => vcOps inl ops l ⟨putT s.tm o.dst undef, s.h⟩ d K
      | true => vcStep P G E call (some inl) o.op s d fun _ v h' d' => vcOps inl ops l ⟨putT s.tm o.dst v, h'⟩ d' K

/-- what is owed of a window -/
def winO (r : TRow) (e : Nat) (h : AH) : List Prop :=
  match r.ar with
  | .read v => [aop E r.o.op r.tm h = some (.read v), vb r.h.next v = true, (evs r.tm r.o.op.operands.toList).all (vb h.next) = true]
  | .new _ o => match Nat.ble e r.i with
    | true => []
    | false => [h.get r.h.next = some o]
  | _ => []
def winsOf (bef effs : List Nat) (sp : List (Nat × AH)) (r : TRow) : List Prop :=
  match r.run && needs r.ar with
  | false => []
  | true => sp.flatMap fun p => match inWin bef effs r.i p.1 with
    | true => winO E r p.1 p.2
    | false => []
def winsO (bef effs : List Nat) (sp : List (Nat × AH)) (rows : List TRow) : List Prop := rows.flatMap (winsOf E bef effs sp)
def nextsO : List TRow → Nat → List Prop
  | [], _ => []
  | [r], n => [r.h.next ≤ n]
  | r :: q :: l, n => (r.h.next ≤ q.h.next) :: nextsO (q :: l) n

/-- a drawn region's operations -/
def vcTr (ops : List Oper) : List Oper → Nat → ES → List Dec → (ES → List TRow → List Dec → Prop) → Prop
  | [], _, s, d, K => K s [] d
  | o :: l, i, s, d, K => match guardKn ops s.tm o with
    | false => False
    | true => match wantedA ops s.tm o with
      | false => vcTr ops l (i + 1) ⟨putT s.tm o.dst undef, s.h⟩ d fun s' rows d' => K s' (⟨i, o, false, .pur undef, undef, s.tm, s.h⟩ :: rows) d'
      | true => vcStep P G E call none o.op s d fun ar v h' d' => vcTr ops l (i + 1) ⟨putT s.tm o.dst v, h'⟩ d' fun s' rows d'' => K s' (⟨i, o, true, ar, v, s.tm, s.h⟩ :: rows) d''

def vcDraw (ops : List Oper) (s : ES) (d : List Dec) (K : ES → List Dec → Prop) : Prop :=
  vcTr P G E call ops ops 0 s d fun s' rows d' =>
    match staticOk ops (befOf ops) && effsOk (befOf ops) ((spine rows).map (·.1)) with
    | false => False
    | true => match nextsOk rows s'.h.next && traceOk E (befOf ops) ((spine rows).map (·.1)) (spine rows ++ [(ops.length, s'.h)]) rows with
      | true => K s' d'
      | false => allP (nextsO rows s'.h.next ++ winsO E (befOf ops) ((spine rows).map (·.1)) (spine rows ++ [(ops.length, s'.h)]) rows) ∧ K s' d'

/-- the same where the tests themselves cannot be reckoned -/
def vcDrawP (ops : List Oper) (s : ES) (d : List Dec) (K : ES → List Dec → Prop) : Prop :=
  vcTr P G E call ops ops 0 s d fun s' rows d' =>
    match staticOk ops (befOf ops) && effsOk (befOf ops) ((spine rows).map (·.1)) with
    | false => False
    | true => allP (nextsO rows s'.h.next ++ winsO E (befOf ops) ((spine rows).map (·.1)) (spine rows ++ [(ops.length, s'.h)]) rows) ∧ K s' d'

abbrev KC := Ex → ES → List Dec → Prop

def vcCode (inl : Inl) (B N : Nat) : Nat → Code → ES → List Dec → KC → Prop
  | 0, _, _, _, _ => False
  | n + 1, c, s, d, K => match c with
    | .skip => K .normal s d
    | .label _ => K .normal s d
    | .region _ ops false => vcOps P G E call inl ops.toList ops.toList s d (K .normal)
    | .region _ ops true => vcDrawP P G E call ops.toList s d (K .normal)
    | .seq a b => vcCode inl B N n a s d fun ex s' d' => match ex with
      | .normal => vcCode inl B N n b s' d' K
      | ex => K ex s' d'
    | .cond c a b => match ev s.tm c with
      | .bool true => vcCode inl B N n a s d K
      | .bool false => vcCode inl B N n b s d K
      | _ => False
    | .block id b => vcCode inl B N n b s d fun ex s' d' => match ex with
      | .exit i => match Nat.beq i id with
        | true => K .normal s' d'
        | false => K (.exit i) s' d'
      | ex => K ex s' d'
    | .loop b => match d with
      | .code α live e :: d' => ∃ x : α, LoopT P G B N b (sel s.tm live) s.h (e x s.h) ∧ K (e x s.h).1 ⟨frL (e x s.h).2.1, (e x s.h).2.2⟩ d'
      | d => vcCode inl B N n b s d fun ex s' d' => match ex with
        | .normal => vcCode inl B N n (.loop b) s' d' K
        | ex => K ex s' d'
    | .exit id => K (.exit id) s d
    | .scope b => vcCode inl B N n b s d K
    | .ret => K .ret s d
    | _ => False

def oneOf : List Value → Value
  | [v] => v
  | vs => .tuple ⟨vs⟩

def vcRes (fn : Func) (K : KV) : KC := fun ex s d =>
  match ex with
  | .exit _ => False
  | _ => match resultsA E s.tm s.h fn.results.toList with
    | some vs => K (oneOf vs) s.h d
    | none => False

def vcBody (inl : Inl) (n : Nat) (fn : Func) (args : List Value) (h : AH) (d : List Dec) (K : KV) : Prop :=
  match fn.body, Nat.ble args.length fn.ntmps with
  | some c, true => vcCode P G E call inl h.next fn.ntmps n c ⟨Tr.fill (pad args fn.ntmps) 0 .leaf, h⟩ d (vcRes E fn K)
  | _, _ => False

/-- calls that are entered -/
def vcInl : Nat → Inl
  | 0 => fun _ _ _ _ _ => False
  | n + 1 => fun f args h d K => match E.intr f, E.fn f with
    | none, some fn => vcBody P G E call (vcInl n) 1000 fn args h d K
    | _, _ => False

def vcFn (n : Nat) (fn : Func) (args : List Value) (h : AH) (d : List Dec) (K : Value → AH → Prop) : Prop :=
  vcBody P G E call (vcInl P G E call n) 1000 fn args h d fun v h' _ => K v h'
end
end

section
variable {P : Program} {G : Nat → Bool} {E : Env} {call : Caller}
theorem nextsO_P : ∀ {rows : List TRow} {n : Nat}, (∀ p ∈ nextsO rows n, p) → NextsP rows n
  | [], _, _ => trivial
  | [_r], _, h => h _ (List.mem_cons_self ..)
  | _r :: _q :: _l, _, h => ⟨h _ (List.mem_cons_self ..), nextsO_P fun p hp => h p (List.mem_cons_of_mem _ hp)⟩
theorem winO_P {r : TRow} {e : Nat} {h : AH} (ho : ∀ p ∈ winO E r e h, p) : HoldsP E r e h := by
  unfold winO at ho
  unfold HoldsP
  cases har : r.ar with
  | read v =>
    rw [har] at ho
    simp only at ho ⊢
    exact ⟨ho _ (by simp), ho _ (by simp), ho _ (by simp)⟩
  | new v o =>
    rw [har] at ho
    simp only at ho ⊢
    split at ho
    · rename_i hb; exact .inl (Nat.le_of_ble_eq_true hb)
    · exact .inr (ho _ (by simp))
  | _ => trivial
theorem owed_draw {ops : List Oper} {bef : List Nat} {rows : List TRow} {h : AH} (hs : (staticOk ops bef && effsOk bef ((spine rows).map (·.1))) = true)
    (ho : ∀ p ∈ nextsO rows h.next ++ winsO E bef ((spine rows).map (·.1)) (spine rows ++ [(ops.length, h)]) rows, p) : DrawP E ops bef rows h := by
  simp only [Bool.and_eq_true] at hs
  refine ⟨hs.1, nextsO_P fun p hp => ho p (List.mem_append_left _ hp), hs.2, fun r hr hrun hn p hpm hw => winO_P fun q hq => ho q (List.mem_append_right _ ?_)⟩
  unfold winsO
  rw [List.mem_flatMap]
  refine ⟨r, hr, ?_⟩
  unfold winsOf
  rw [hrun, hn]
  simp only [Bool.and_self]
  rw [List.mem_flatMap]
  exact ⟨p, hpm, by rw [hw]; exact hq⟩

/-- entering calls is sound -/
def InlOk (P : Program) (G : Nat → Bool) (inl : Inl) : Prop := ∀ f args h d (K : KV), inl f args h d K → CallQ P G f args h fun v h' => ∃ d', K v h' d'

theorem vcEval_step {op : Op} {s : ES} {d : List Dec} {K : KR} (h : vcEval E call op s d K) : ∃ ar v h', aop E op s.tm s.h = some ar ∧ does call s.h ar = some (v, h') ∧ K ar v h' d := by
  unfold vcEval at h
  split at h <;> try (exact h.elim)
  rename_i ar ha
  split at h <;> try (exact h.elim)
  rename_i v h' hd
  exact ⟨ar, v, h', ha, hd, h⟩

theorem noCall_D {h h' : AH} {ar : AR} {v : Value} (hd : does noCall h ar = some (v, h')) : Does P G h ar v h' := by
  cases ar with
  | call f args => cases hd
  | _ => exact hd
/-- a step, in a trace -/
theorem vcStep_D (hc : CallerOk P G call) {op : Op} {s : ES} {d : List Dec} {K : KR} (h : vcStep P G E call none op s d K) : ∃ ar v h' d', aop E op s.tm s.h = some ar ∧ Does P G s.h ar v h' ∧ K ar v h' d' := by
  unfold vcStep at h
  split at h
  · obtain ⟨ar, v, h', h1, h2, h3⟩ := vcEval_step h; exact ⟨ar, v, h', _, h1, does_Does hc h2, h3⟩
  · obtain ⟨ar, v, h', h1, h2, h3⟩ := vcEval_step h; exact ⟨ar, v, h', _, h1, does_Does hc h2, h3⟩
  · obtain ⟨ar, v, h', h1, h2, h3⟩ := vcEval_step h; exact ⟨ar, v, h', _, h1, does_Does hc h2, h3⟩
  · split at h <;> try (exact h.elim)
    rename_i ps ar ha
    split at h <;> try (exact h.elim)
    rename_i v h' hd
    exact ⟨ar, v, h', _, aopC_ok ha h.1, noCall_D hd, h.2⟩
  · split at h <;> try (exact h.elim)
    rename_i ar ha
    split at h <;> try (exact h.elim)
    rename_i b h' hd
    cases b with
    | true => exact ⟨ar, _, h', _, ha, does_Does hc hd, h.1 rfl⟩
    | false => exact ⟨ar, _, h', _, ha, does_Does hc hd, h.2 rfl⟩
  · obtain ⟨b, ha, h1, h2⟩ := h
    cases b with
    | true => exact ⟨_, _, _, _, ha, rfl, h1 rfl⟩
    | false => exact ⟨_, _, _, _, ha, rfl, h2 rfl⟩
  · rename_i α e d'
    obtain ⟨x, ha, h1⟩ := h
    split at h1 <;> try (exact h1.elim)
    rename_i v h' hd
    refine ⟨_, v, h', _, ha, ?_, h1⟩
    cases har : e x s.h with
    | call f args => rw [har] at hd; cases hd
    | _ => rw [har] at hd; exact hd
  · split at h <;> try (exact h.elim)
    rename_i f args ha
    obtain ⟨x, h1, h2⟩ := h
    exact ⟨_, _, _, _, ha, h1, h2⟩
  · exact h.elim
  · exact h.elim

/-- a step by itself: a call may have more answers than one -/
theorem vcStep_W (hE : EnvOk P G E) (hc : CallerOk P G call) {inl : Inl} (hi : InlOk P G inl) {o : Oper} {s : ES} {d : List Dec} {K : KR} (h : vcStep P G E call (some inl) o.op s d K) {μ : Mu} {w : World} {a : Act}
    (hr : Rel μ s.h w) (hg : GR G μ) (ho : OpsR μ s.tm a.eval o.op.operands.toList)
    {next : Act → World → Prop} {Q : Exit → Act → World → Prop} (hn : ∀ ar v h' d' v' w' μ', K ar v h' d' → Post μ s.h w μ' h' w' → VR μ' v v' → next (a.put o.dst v') w') : o.wp P a w next Q := by
  have det : ∀ {ar v h' d'}, aop E o.op s.tm s.h = some ar → Does P G s.h ar v h' → K ar v h' d' → o.wp P a w next Q := fun h1 h2 h3 =>
    step_soundD hE h1 h2 hr hg ho fun v' w' μ' p hv => hn _ _ _ _ v' w' μ' h3 p hv
  unfold vcStep at h
  split at h
  · obtain ⟨ar, v, h', h1, h2, h3⟩ := vcEval_step h; exact det h1 (does_Does hc h2) h3
  · obtain ⟨ar, v, h', h1, h2, h3⟩ := vcEval_step h; exact det h1 (does_Does hc h2) h3
  · obtain ⟨ar, v, h', h1, h2, h3⟩ := vcEval_step h; exact det h1 (does_Does hc h2) h3
  · split at h <;> try (exact h.elim)
    rename_i ps ar ha
    split at h <;> try (exact h.elim)
    rename_i v h' hd
    exact det (aopC_ok ha h.1) (noCall_D hd) h.2
  · split at h <;> try (exact h.elim)
    rename_i ar ha
    split at h <;> try (exact h.elim)
    rename_i b h' hd
    cases b with
    | true => exact det ha (does_Does hc hd) (h.1 rfl)
    | false => exact det ha (does_Does hc hd) (h.2 rfl)
  · obtain ⟨b, ha, h1, h2⟩ := h
    cases b with
    | true => exact det ha rfl (h1 rfl)
    | false => exact det ha rfl (h2 rfl)
  · rename_i α e d'
    obtain ⟨x, ha, h1⟩ := h
    split at h1 <;> try (exact h1.elim)
    rename_i v h' hd
    refine det ha ?_ h1
    cases har : e x s.h with
    | call f args => rw [har] at hd; cases hd
    | _ => rw [har] at hd; exact hd
  · split at h <;> try (exact h.elim)
    rename_i f args ha
    obtain ⟨x, h1, h2⟩ := h
    exact det ha h1 h2
  · simp only at h
    split at h <;> try (exact h.elim)
    rename_i f args ha
    have hs := aop_sound (P := P) (μ := μ) (h := s.h) (w := w) hE.ti hE.places ha ho
    unfold Oper.wp
    obtain ⟨args', h1, h2⟩ := hs
    have := h1 w
    simp only at this; rw [this]
    exact hi _ _ _ _ _ h μ w args' hr hg h2 o a next Q fun v h' v' w' μ' ⟨d', hk⟩ p hv => hn _ _ _ _ v' w' μ' hk p hv
  · exact h.elim

theorem vcOps_sound (hE : EnvOk P G E) (hc : CallerOk P G call) {inl : Inl} (hi : InlOk P G inl) {B N : Nat} {ops : Array Oper} {R : Exit → Act → World → Prop} : ∀ (l : List Oper) (k : Nat), ops.toList.drop k = l → l.all (operOk G N) = true →
    ∀ {s : ES} {d : List Dec} {K : ES → List Dec → Prop} {μ : Mu} {a : Act} {w : World}, vcOps P G E call inl ops.toList l s d K → B ≤ s.h.next → SR' G N μ s a w →
    (∀ s' d' a' w' μ', K s' d' → PostB B μ s.h w μ' s'.h w' → SR' G N μ' s' a' w' → R .normal a' w') → wpOps P ops R (List.range' k l.length) a w
  | [], k, _, _, s, d, K, μ, a, w, h, hB, hs, hq => hq s d a w μ h (.refl hs.rel hB) hs
  | o :: l, k, hl, hall, s, d, K, μ, a, w, h, hB, hs, hq => by
    have hk : ops[k]? = some o := by
      have : (ops.toList.drop k)[0]? = some o := by rw [hl]; rfl
      simpa using this
    have hl' : ops.toList.drop (k + 1) = l := by
      have : (ops.toList.drop k).drop 1 = l := by rw [hl]; rfl
      simpa using this
    simp only [List.all_cons, Bool.and_eq_true] at hall
    have hd := dst_lt hall.1
    rw [List.length_cons, List.range'_succ, wpOps_cons]
    unfold vcOps at h
    unfold wpOp
    rw [hk]
    simp only
    cases hgk : guardKn ops.toList s.tm o with
    | false => rw [hgk] at h; exact h.elim
    | true =>
    rw [hgk] at h
    simp only at h
    rw [wanted_eq hs.tmps ops o hgk] at h
    cases hw : Region.wanted o (yielded ops a.tmps) with
    | false =>
      rw [hw] at h
      simp only at h
      simp only [Bool.false_eq_true, if_false]
      have hs1 := hs.put (Post.refl hs.rel) hd (VR.undef)
      exact vcOps_sound hE hc hi l (k + 1) hl' hall.2 h hB hs1 (fun s' d' a' w' μ' hk p h2 => hq s' d' a' w' μ' hk p h2)
    | true =>
      rw [hw] at h
      simp only at h
      simp only [if_true]
      have hop : OpsR μ s.tm a.eval o.op.operands.toList := by
        have := hall.1
        simp only [operOk, Bool.and_eq_true] at this
        exact hs.tmps.opds hs.glob this.1
      refine .inl (vcStep_W hE hc hi h hs.rel hs.glob hop fun ar v h' d' v' w' μ' hk p hv => ?_)
      exact vcOps_sound hE hc hi l (k + 1) hl' hall.2 hk (Nat.le_trans hB p.next) (hs.put p hd hv) fun s' d'' a' w'' μ'' hk p' h2 => hq s' d'' a' w'' μ'' hk ((p.toB hB).trans p') h2

theorem vcTr_R (hc : CallerOk P G call) {ops : List Oper} : ∀ (l : List Oper) (i : Nat) {s : ES} {d : List Dec} {K : ES → List TRow → List Dec → Prop}, vcTr P G E call ops l i s d K → ∃ s' rows d', TraceR P G E ops l i s s' rows ∧ K s' rows d'
  | [], i, s, d, K, h => ⟨s, [], d, ⟨rfl, rfl⟩, h⟩
  | o :: l, i, s, d, K, h => by
    unfold vcTr at h
    split at h
    · exact h.elim
    rename_i hgk
    split at h
    · rename_i hw
      obtain ⟨s', rows, d', ht, hk⟩ := vcTr_R hc l (i + 1) h
      exact ⟨s', _, d', ⟨_, rows, _, rfl, rfl, rfl, rfl, rfl, ⟨hgk, hw.symm, rfl, fun h => (by cases h), fun _ => ⟨rfl, rfl⟩⟩, ht⟩, hk⟩
    · rename_i hw
      obtain ⟨ar, v, h', d1, ha, hd, h2⟩ := vcStep_D hc h
      obtain ⟨s', rows, d', ht, hk⟩ := vcTr_R hc l (i + 1) h2
      exact ⟨s', _, d', ⟨_, rows, _, rfl, rfl, rfl, rfl, rfl, ⟨hgk, hw.symm, rfl, fun _ => ⟨ha, hd⟩, fun h => by cases h⟩, ht⟩, hk⟩

theorem vcDrawP_sound (hE : EnvOk P G E) (hc : CallerOk P G call) {B N id : Nat} {ops : Array Oper} (hall : ops.toList.all (operOk G N) = true) {s : ES} {d : List Dec} {K : ES → List Dec → Prop} {R : Exit → Act → World → Prop} {μ : Mu} {a : Act} {w : World}
    (h : vcDrawP P G E call ops.toList s d K) (hB : B ≤ s.h.next) (hs : SR' G N μ s a w)
    (hq : ∀ s' d' a' w' μ', K s' d' → PostB B μ s.h w μ' s'.h w' → SR' G N μ' s' a' w' → R .normal a' w') : (Code.region id ops true).wp P R a w := by
  obtain ⟨s', rows, d', ht, hk⟩ := vcTr_R hc _ _ h
  split at hk
  · exact hk.elim
  rename_i hst
  exact traceR_sound hE hall ht (owed_draw hst (allP_mem hk.1)) hs fun a' w' μ' p hs' => hq s' d' a' w' μ' hk.2 (p.toB hB) hs'

theorem sel_get {tm : Tr Value} : ∀ {l : List Nat} {t : Nat} {v : Value}, (frL (sel tm l)).get t = some v → v = UNK ∨ tm.get t = some v
  | [], t, v, h => by simp [sel, frL] at h
  | u :: l, t, v, h => by
    simp only [sel, frL] at h
    rw [Tr.get_put] at h
    split at h
    · rename_i e
      subst e
      simp only [Option.some.injEq] at h
      unfold getT at h
      cases hg : tm.get t with
      | none => rw [hg] at h; exact .inl h.symm
      | some v' => rw [hg] at h; subst h; exact .inr rfl
    · exact sel_get h

theorem vcCode_sound (hE : EnvOk P G E) (hc : CallerOk P G call) {inl : Inl} (hi : InlOk P G inl) {B N : Nat} : ∀ (n : Nat) {c : Code} {s : ES} {d : List Dec} {K : KC}, vcCode P G E call inl B N n c s d K → codeOk G N c = true →
    Tri P G B N c s (fun ex s' => ∃ d', K ex s' d') ∧ (∀ b, c = .loop b → TriL P G B N b s fun ex s' => ∃ d', K ex s' d')
  | 0, _, _, _, _, h, _ => h.elim
  | n + 1, c, s, d, K, h, hok => by
    have ih : ∀ {c : Code} {s : ES} {d : List Dec} {K : KC}, vcCode P G E call inl B N n c s d K → codeOk G N c = true → Tri P G B N c s (fun ex s' => ∃ d', K ex s' d') := fun h hok => (vcCode_sound hE hc hi n h hok).1
    cases c with
    | skip => exact ⟨fun μ a w R hB hs hR => wp_skip (hR .normal s a w μ ⟨d, h⟩ (.refl hs.rel hB) hs), fun b h => by cases h⟩
    | label l => exact ⟨fun μ a w R hB hs hR => wp_label (hR .normal s a w μ ⟨d, h⟩ (.refl hs.rel hB) hs), fun b h => by cases h⟩
    | exit i => exact ⟨fun μ a w R hB hs hR => wp_exit (hR (.exit i) s a w μ ⟨d, h⟩ (.refl hs.rel hB) hs), fun b h => by cases h⟩
    | ret => exact ⟨fun μ a w R hB hs hR => wp_ret (hR .ret s a w μ ⟨d, h⟩ (.refl hs.rel hB) hs), fun b h => by cases h⟩
    | region id ops draw =>
      refine ⟨?_, fun b h => by cases h⟩
      cases draw with
      | false =>
        intro μ a w R hB hs hR
        refine wp_region ?_
        have := vcOps_sound hE hc hi (R := R) ops.toList 0 (by simp) (by simpa [codeOk] using hok) h hB hs fun s' d' a' w' μ' hk p h2 => hR .normal s' a' w' μ' ⟨d', hk⟩ p h2
        rw [List.range_eq_range']
        simpa using this
      | true =>
        intro μ a w R hB hs hR
        exact vcDrawP_sound hE hc (by simpa [codeOk] using hok) h hB hs fun s' d' a' w' μ' hk p h2 => hR .normal s' a' w' μ' ⟨d', hk⟩ p h2
    | seq a b =>
      refine ⟨?_, fun b h => by cases h⟩
      simp only [codeOk, Bool.and_eq_true] at hok
      refine .seq ((ih h hok.1).mono fun ex s' ⟨d', hk⟩ => ?_)
      cases ex with
      | normal => exact .inl ⟨rfl, ih hk hok.2⟩
      | exit i => exact .inr ⟨(fun h => by cases h), d', hk⟩
      | ret => exact .inr ⟨(fun h => by cases h), d', hk⟩
    | cond c a b =>
      refine ⟨?_, fun b h => by cases h⟩
      simp only [codeOk, Bool.and_eq_true] at hok
      unfold vcCode at h
      intro μ x w R hB hs hR
      have hv := hs.tmps.opd hs.glob hok.1.1
      simp only at h
      split at h
      · rename_i e; rw [e] at hv; exact wp_cond_true hv.bool (ih h hok.1.2 μ x w R hB hs hR)
      · rename_i e; rw [e] at hv; exact wp_cond_false hv.bool (ih h hok.2 μ x w R hB hs hR)
      · exact h.elim
    | block id b =>
      refine ⟨?_, fun b h => by cases h⟩
      refine .block ((ih h (by simpa [codeOk] using hok)).mono fun ex s' ⟨d', hk⟩ => ?_)
      cases ex with
      | normal => exact ⟨d', hk⟩
      | ret => exact ⟨d', hk⟩
      | exit i =>
        simp only at hk ⊢
        split
        · rename_i e; rw [e] at hk; exact ⟨d', hk⟩
        · rename_i e; rw [e] at hk; exact ⟨d', hk⟩
    | loop b =>
      have hok' : codeOk G N b = true := by simpa [codeOk] using hok
      have key : TriL P G B N b s fun ex s' => ∃ d', K ex s' d' := by
        unfold vcCode at h
        simp only at h
        split at h
        · obtain ⟨x, h1, h2⟩ := h
          refine (TriL.pre (.temps fun t v hv => sel_get hv) h1).mono fun ex s' ⟨e1, e2⟩ => ?_
          subst e1; subst e2; exact ⟨_, h2⟩
        · refine .go ((ih h hok').mono fun ex s' ⟨d', hk⟩ => ?_)
          cases ex with
          | normal => exact .inl ⟨rfl, (vcCode_sound hE hc hi n hk hok).2 b rfl⟩
          | exit i => exact .inr ⟨(fun h => by cases h), d', hk⟩
          | ret => exact .inr ⟨(fun h => by cases h), d', hk⟩
      exact ⟨key.tri, fun b' e => by cases e; exact key⟩
    | scope b => exact ⟨.scope (ih h (by simpa [codeOk] using hok)), fun b h => by cases h⟩
    | _ => exact h.elim

theorem vcBody_sound (hE : EnvFull P G E) (hc : CallerOk P G call) {inl : Inl} (hi : InlOk P G inl) {n : Nat} {f : FuncId} {fn : Func} (hf : E.fn f = some fn) {args : List Value} {h : AH} {d : List Dec} {K : KV}
    (hb : vcBody P G E call inl n fn args h d K) : ∃ c, fn.body = some c ∧ CallsQ P G f args h fun v h' => ∃ d', K v h' d' := by
  obtain ⟨hf1, hf2, hf3⟩ := hE.fns f fn hf
  unfold vcBody at hb
  split at hb <;> try (exact hb.elim)
  rename_i c hbody hle
  refine ⟨c, hbody, fun μ w args' hr hg ha => ?_⟩
  have hlen := ha.length
  have hle' := Nat.le_of_ble_eq_true hle
  refine calls_of_wp hf1 hbody ?_
  have hs : SR' G fn.ntmps μ ⟨Tr.fill (pad args fn.ntmps) 0 .leaf, h⟩ { tmps := (⟨args'⟩ : Array Value) ++ Array.replicate (fn.ntmps - (⟨args'⟩ : Array Value).size) undef, defers := [] } w :=
    ⟨hr, hg, TR.fill ha _ _, by simp; omega, rfl⟩
  refine (vcCode_sound hE.toEnvOk hc hi n hb (hf3 c hbody)).1 μ _ w _ (Nat.le_refl _) hs fun ex s' a' w' μ' ⟨d', hk⟩ p hs' => ?_
  have hout : ∃ vs, ex ≠ .exit 0 ∧ resultsA E s'.tm s'.h fn.results.toList = some vs ∧ K (oneOf vs) s'.h d' ∧ (ex = .normal ∨ ex = .ret) := by
    unfold vcRes at hk
    cases ex with
    | exit i => exact hk.elim
    | normal =>
      simp only at hk
      split at hk <;> try (exact hk.elim)
      rename_i vs hv
      exact ⟨vs, (fun h => by cases h), hv, hk, .inl rfl⟩
    | ret =>
      simp only at hk
      split at hk <;> try (exact hk.elim)
      rename_i vs hv
      exact ⟨vs, (fun h => by cases h), hv, hk, .inr rfl⟩
  obtain ⟨vs, _, hv, hk2, hex⟩ := hout
  have ho : outA E fn (some (ex, s')) = some (oneOf vs, s'.h) := by
    unfold outA oneOf
    rcases hex with rfl | rfl <;> simp only [hv] <;> split <;> simp_all
  obtain ⟨_, _, v', g1, g2⟩ := outA_sound hE.ti hs' ho
  have hp := p.post hr hs'.rel
  rcases hex with rfl | rfl
  · exact ⟨hs'.defers, v', g1, _, _, μ', ⟨d', hk2⟩, hp, g2⟩
  · exact ⟨hs'.defers, v', g1, _, _, μ', ⟨d', hk2⟩, hp, g2⟩

theorem vcInl_ok (hE : EnvFull P G E) (hc : CallerOk P G call) : ∀ n, InlOk P G (vcInl P G E call n)
  | 0 => fun f args h d K hk => hk.elim
  | n + 1 => fun f args h d K hk => by
    unfold vcInl at hk
    split at hk <;> try (exact hk.elim)
    rename_i fn hi hf
    obtain ⟨c, hb, hq⟩ := vcBody_sound hE hc (vcInl_ok hE hc n) hf hk
    obtain ⟨hf1, hf2, _⟩ := hE.fns f fn hf
    exact CallsQ.call hf1 hf2 hb hq

/-- **what is to be shown of a function shows its promise** -/
theorem vcFn_sound (hE : EnvFull P G E) (hc : CallerOk P G call) {n : Nat} {f : FuncId} {fn : Func} (hf : E.fn f = some fn) {args : List Value} {h : AH} {d : List Dec} {K : Value → AH → Prop}
    (hb : vcFn P G E call n fn args h d K) : CallsQ P G f args h K := by
  obtain ⟨c, _, hq⟩ := vcBody_sound hE hc (vcInl_ok hE hc n) hf hb
  intro μ w args' hr hg ha
  refine (hq μ w args' hr hg ha).mono fun e w' he => ?_
  cases e with
  | returned v' => obtain ⟨v, h', μ', ⟨_, hk⟩, p, hv⟩ := he; exact ⟨v, h', μ', hk, p, hv⟩
  | panicked _ => exact he
  | outgrown => exact he
end
end Go.Ev
end
section
namespace Go.Ev
/-! results: renamed, dropped, no longer written; promises over small memories -/

def below (K : Nat) (g : Nat) : Bool := Nat.blt g K
theorem below_iff {K : Nat} (g : Nat) : below K g = true ↔ g < K := by simp [below, Nat.blt_eq]

noncomputable def mkT : List (Nat × Option AObj) → Tr AObj
  | [] => .leaf
  | (b, o) :: l => (mkT l).put b o
/-- a memory, by its blocks -/
noncomputable def mkH (n : Nat) (l : List (Nat × Option AObj)) : AH := ⟨n, mkT l⟩
noncomputable abbrev bas (K : Nat) : AH := mkH K []

theorem mkT_none {l : List (Nat × Option AObj)} {b : Nat} (h : ∀ p ∈ l, p.1 ≠ b) : (mkT l).get b = none := by
  induction l with
  | nil => rfl
  | cons p l ih =>
    obtain ⟨c, o⟩ := p
    simp only [mkT]
    rw [Tr.get_put, if_neg (fun e => h (c, o) (by simp) e.symm)]
    exact ih fun q hq => h q (by simp [hq])
theorem mkH_top {n : Nat} {l : List (Nat × Option AObj)} (h : l.all (fun p => Nat.blt p.1 n) = true) {b : Nat} (hb : n ≤ b) : (mkH n l).get b = none := by
  refine mkT_none fun p hp e => ?_
  have := List.all_eq_true.1 h p hp
  rw [Nat.blt_eq] at this; omega

/-- what is known of a result is known of another form of it -/
def FinR (B : Nat) (v : Value) (h : AH) (v2 : Value) (h2 : AH) : Prop :=
  ∀ μ w v', B ≤ h.next → Rel μ h w → VR μ v v' → ∃ μ2, PostB B μ h w μ2 h2 w ∧ Rel μ2 h2 w ∧ VR μ2 v2 v'
theorem FinR.refl {B : Nat} {v : Value} {h : AH} : FinR B v h v h := fun μ _w _v' hB hr hv => ⟨μ, .refl hr hB, hr, hv⟩
theorem FinR.trans {B : Nat} {v v1 v2 : Value} {h h1 h2 : AH} (a : FinR B v h v1 h1) (b : FinR B v1 h1 v2 h2) : FinR B v h v2 h2 := fun μ w v' hB hr hv => by
  obtain ⟨μ1, p1, hr1, hv1⟩ := a μ w v' hB hr hv
  obtain ⟨μ2, p2, hr2, hv2⟩ := b μ1 w v' p1.next hr1 hv1
  exact ⟨μ2, p1.trans p2, hr2, hv2⟩
theorem FinR.val {B : Nat} {v v2 : Value} {h : AH} (hv : ∀ μ v', VR μ v v' → VR μ v2 v') : FinR B v h v2 h := fun μ _w v' hB hr h' => ⟨μ, .refl hr hB, hr, hv μ v' h'⟩

section
variable {P : Program} {G : Nat → Bool}
theorem CallsQ.ok {f : FuncId} {args : List Value} {h h2 : AH} {v2 : Value} {Q : Value → AH → Prop} (hc : CallsQ P G f args h Q) (hq : ∀ v h', Q v h' → FinR h.next v h' v2 h2) : CallsOk P G f args h v2 h2 := by
  intro μ w args' hr hg ha
  refine (hc μ w args' hr hg ha).mono fun e w' he => ?_
  cases e with
  | returned v' =>
    obtain ⟨v, h', μ', hk, p, hv⟩ := he
    obtain ⟨μ2, p2, hr2, hv2⟩ := hq v h' hk μ' w' v' p.next p.rel hv
    exact ⟨μ2, ((p.toB (Nat.le_refl _)).trans p2).post hr hr2, hv2⟩
  | panicked _ => exact he
  | outgrown => exact he
theorem CallsOk.q {f : FuncId} {args : List Value} {h h2 : AH} {v2 : Value} (hc : CallsOk P G f args h v2 h2) : CallsQ P G f args h fun v h' => v = v2 ∧ h' = h2 := by
  intro μ w args' hr hg ha
  refine (hc μ w args' hr hg ha).mono fun e w' he => ?_
  cases e with
  | returned v' => obtain ⟨μ', p, hv⟩ := he; exact ⟨_, _, μ', ⟨rfl, rfl⟩, p, hv⟩
  | panicked _ => exact he
  | outgrown => exact he
theorem CallsOk.fin {f : FuncId} {args : List Value} {h h1 h2 : AH} {v1 v2 : Value} (hc : CallsOk P G f args h v1 h1) (hq : FinR h.next v1 h1 v2 h2) : CallsOk P G f args h v2 h2 :=
  hc.q.ok fun v h' e => by obtain ⟨rfl, rfl⟩ := e; exact hq
end

/-! renaming -/
structure RenOk (B : Nat) (ρ : Nat → Nat) (p : Nat → Bool) (σ : Nat → Option Nat) (h h2 : AH) : Prop where
  low : ∀ b, b < B → p b = true ∧ ρ b = b
  fwd : ∀ b, p b = true → b < h.next → ρ b < h2.next ∧ σ (ρ b) = some b
  bwd : ∀ c b, σ c = some b → p b = true ∧ ρ b = c
  get : ∀ c, c < h2.next → h2.get c = match σ c with | some b => (h.get b).map (renO ρ) | none => none
  top : ∀ c, h2.next ≤ c → h2.get c = none
  names : ∀ b o, p b = true → h.get b = some o → oq p o = true
  le : B ≤ h2.next
  stone : ∀ b, b < B → Stone h b → h2.get b = h.get b

theorem RenOk.rel {B : Nat} {ρ : Nat → Nat} {p : Nat → Bool} {σ : Nat → Option Nat} {h h2 : AH} (hk : RenOk B ρ p σ h h2) {μ : Mu} {w : World} (hB : B ≤ h.next) (hr : Rel μ h w) :
    ∃ μ2, PostB B μ h w μ2 h2 w ∧ Rel μ2 h2 w ∧ Ren ρ p μ μ2 ∧ (∀ b, b < B → μ2 b = μ b) := by
  let μ2 : Mu := ⟨h2.next, ⟨fun c => match σ c with | some b => μ b | none => .no, μ.f.im⟩⟩
  have e2 : ∀ {c b}, σ c = some b → μ2 c = μ b := fun {c b} e => by show (match σ c with | some b => μ b | none => Pl.no) = _; rw [e]
  have n2 : ∀ {c}, σ c = none → μ2 c = .no := fun {c} e => by show (match σ c with | some b => μ b | none => Pl.no) = _; rw [e]
  have src : ∀ c, μ2 c ≠ .no → ∃ b, σ c = some b ∧ μ2 c = μ b ∧ b < h.next ∧ p b = true ∧ ρ b = c ∧ c < h2.next := by
    intro c hc
    cases e : σ c with
    | none => exact absurd (n2 e) hc
    | some b =>
      have h1 := e2 e
      have h2' := hr.low b (by rw [← h1]; exact hc)
      obtain ⟨h3, h4⟩ := hk.bwd c b e
      refine ⟨b, rfl, h1, h2', h3, h4, ?_⟩
      rw [← h4]; exact (hk.fwd b h3 h2').1
  have hren : Ren ρ p μ μ2 := by
    refine ⟨fun _ _ _ h => h, fun b hp hh => ?_, fun b r ro sz hp hh e => ?_⟩
    · have hb : b < h.next := by have := hh.1; rw [hr.nx] at this; exact this
      obtain ⟨h1, h2'⟩ := hk.fwd b hp hb
      exact ⟨h1, by rw [show μ2.f.pl (ρ b) = μ b from e2 h2']; exact hh.2⟩
    · have hb : b < h.next := by have := hh.1; rw [hr.nx] at this; exact this
      obtain ⟨h1, h2'⟩ := hk.fwd b hp hb
      rw [e2 h2'] at e; exact e
  have low2 : ∀ b, b < B → μ2 b = μ b := fun b hb => by
    obtain ⟨h1, h2'⟩ := hk.low b hb
    have := (hk.fwd b h1 (by omega)).2
    rw [h2'] at this
    exact e2 this
  have hrel : Rel μ2 h2 w := by
    refine ⟨rfl, fun c d r ro sz ro' sz' e e' => ?_, fun c hc => ?_, fun c hc => ?_, fun c r ro sz e => ?_, hk.top, fun r i v hv => ?_⟩
    · obtain ⟨b, _, h1, _, _, h2', _⟩ := src c (by rw [e]; intro h; cases h)
      obtain ⟨b', _, h3, _, _, h4, _⟩ := src d (by rw [e']; intro h; cases h)
      rw [h1] at e; rw [h3] at e'
      have := hr.inj _ _ _ _ _ _ _ e e'
      rw [← h2', ← h4, this]
    · obtain ⟨_, _, _, _, _, _, h⟩ := src c hc; exact h
    · obtain ⟨b, h0, h1, _, _, _, h5⟩ := src c (by rw [hc]; intro h; cases h)
      rw [h1] at hc
      rw [hk.get c h5, h0]
      simp only
      rw [hr.dead b hc]; rfl
    · obtain ⟨b, h0, h1, _, h3, _, h5⟩ := src c (by rw [e]; intro h; cases h)
      rw [h1] at e
      obtain ⟨o, o', g1, g2, g3⟩ := hr.dom b r ro sz e
      refine ⟨renO ρ o, o', ?_, g2, g3.ren hren (hk.names b o h3 g1)⟩
      rw [hk.get c h5, h0]
      simp only
      rw [g1]; rfl
    · obtain ⟨h1, h2', c', e, z, v', h3, h4, h5⟩ := hr.imm r i v hv
      refine ⟨fun c ro sz hc => ?_, h2', c', e, z, v', h3, h4, VR.cl_im (μ := μ) (ν := μ2) (fun _ _ _ h => h) h5 h2'⟩
      obtain ⟨b, _, g1, _⟩ := src c (by rw [hc]; intro h; cases h)
      rw [g1] at hc; exact h1 _ _ _ hc
  refine ⟨μ2, ⟨fun b hb _ => .inl (low2 b hb), fun _ _ _ h => h, hk.le, hk.le, fun b hb e => by rw [low2 b hb]; exact e, Nat.le_refl _, fun c r ro sz e => ?_, fun _ _ _ => rfl, fun b hb hs => ⟨hk.stone b hb hs, fun r ro sz e => ⟨low2 b hb, rfl⟩⟩, fun _ _ _ h => .inl h, rfl, rfl⟩, hrel, hren, low2⟩
  obtain ⟨b, _, h1, _⟩ := src c (by rw [e]; intro h; cases h)
  rw [h1] at e
  exact .inr ⟨_, _, _, e⟩

theorem FinR.ren {B : Nat} {ρ : Nat → Nat} {p : Nat → Bool} {σ : Nat → Option Nat} {h h2 : AH} (hk : RenOk B ρ p σ h h2) {v : Value} (hv : vq p v = true) : FinR B v h (ren ρ v) h2 := fun μ w v' hB hr hvr => by
  obtain ⟨μ2, p1, hr2, hren, _⟩ := hk.rel hB hr
  exact ⟨μ2, p1, hr2, hvr.ren hren hv⟩

/-- kept names, in a row -/
def kRho (B : Nat) (keep : List Nat) (b : Nat) : Nat := match Nat.blt b B with | true => b | false => B + keep.idxOf b
def kP (B : Nat) (keep : List Nat) (b : Nat) : Bool := Nat.blt b B || keep.contains b
def kSig (B : Nat) (keep : List Nat) (c : Nat) : Option Nat := match Nat.blt c B with | true => some c | false => keep[c - B]?

def keepOk (B n : Nat) (keep : List Nat) : Bool := keep.all (fun b => Nat.ble B b && Nat.blt b n) && keep.eraseDups.length == keep.length && keep.zipIdx.all fun p => keep.idxOf p.1 == p.2

/-- what is to be looked at, block by block -/
def keepP (B : Nat) (keep : List Nat) (h h2 : AH) : List Prop :=
  (List.range (B + keep.length)).map fun c => h2.get c = match kSig B keep c with | some b => (h.get b).map (renO (kRho B keep)) | none => none
def keepN (B : Nat) (keep : List Nat) (h : AH) : List Prop :=
  (List.range (B + keep.length)).map fun c => match kSig B keep c with
    | some b => match h.get b with
      | some o => oq (kP B keep) o = true
      | none => True
    | none => True
def stoneB (o : Option AObj) : Bool :=
  match o with
  | some (.cells c _ fz _) => match fz with
    | 0 => false
    | fz + 1 => Nat.ble c.length fz
  | _ => false
mutual
theorem ren_below {ρ : Nat → Nat} {B : Nat} (h : ∀ b, b < B → ρ b = b) : ∀ {v : Value}, vb B v = true → ren ρ v = v
  | .pointer (some a), hv => by simp only [vb, Nat.blt_eq] at hv; simp only [ren, h _ hv]
  | .slice (some a) _ _, hv => by simp only [vb, Nat.blt_eq] at hv; simp only [ren, h _ hv]
  | .map (some r), hv => by simp only [vb, Nat.blt_eq] at hv; simp only [ren, h _ hv]
  | .func f ⟨a⟩ ⟨b⟩, hv => by
    cases f with
    | yield m => rfl
    | _ => simp only [vb, Bool.and_eq_true] at hv; simp only [ren, rens_below h hv.1, rens_below h hv.2]
  | .iface _ v, hv => by simp only [vb] at hv; simp only [ren, ren_below h hv]
  | .agg ⟨a⟩, hv => by simp only [vb] at hv; simp only [ren, rens_below h hv]
  | .tuple ⟨a⟩, hv => by simp only [vb] at hv; simp only [ren, rens_below h hv]
  | .pointer none, _ => rfl
  | .slice none _ _, _ => rfl
  | .map none, _ => rfl
  | .bool _, _ => rfl
  | .int _ _, _ => rfl
  | .string _, _ => rfl
  | .float _ _, _ => rfl
  | .complex _ _ _, _ => rfl
  | .chan _, _ => rfl
  | .nilFunc, _ => rfl
  | .nilIface, _ => rfl
theorem rens_below {ρ : Nat → Nat} {B : Nat} (h : ∀ b, b < B → ρ b = b) : ∀ {l : List Value}, vbs B l = true → rens ρ l = l
  | [], _ => rfl
  | v :: l, hv => by
    simp only [vbs, Bool.and_eq_true] at hv
    simp only [rens, ren_below h hv.1, rens_below h hv.2]
end
/-- a stone whose known cells name elder blocks alone -/
def stoneN (B : Nat) (o : Option AObj) : Bool := match o with | some (.cells c _ _ _) => vbs B c | _ => true
noncomputable def keepS (B : Nat) (h : AH) : Bool := (List.range B).all fun b => !stoneB (h.get b) || stoneN B (h.get b)

theorem keep_ok {B : Nat} {keep : List Nat} {h h2 : AH} (h1 : keepOk B h.next keep = true) (hn : h2.next = B + keep.length) (hp : allP (keepP B keep h h2)) (hq : allP (keepN B keep h)) (ht : ∀ c, h2.next ≤ c → h2.get c = none) (hs : keepS B h = true) :
    RenOk B (kRho B keep) (kP B keep) (kSig B keep) h h2 := by
  unfold keepOk at h1
  simp only [Bool.and_eq_true, List.all_eq_true, Nat.ble_eq, Nat.blt_eq, beq_iff_eq] at h1
  obtain ⟨⟨k1, _⟩, k3⟩ := h1
  have lowB : ∀ {b}, b < B → Nat.blt b B = true := fun h => by rw [Nat.blt_eq]; exact h
  have highB : ∀ {b}, ¬ b < B → Nat.blt b B = false := fun {b} h => by cases e : Nat.blt b B with | false => rfl | true => rw [Nat.blt_eq] at e; exact absurd e h
  have idx : ∀ {b}, b ∈ keep → keep.idxOf b < keep.length ∧ keep[keep.idxOf b]? = some b := fun {b} hb => by
    have h2 := List.idxOf_lt_length_of_mem hb
    exact ⟨h2, by rw [List.getElem?_eq_getElem h2, List.getElem_idxOf h2]⟩
  have fwd : ∀ b, kP B keep b = true → b < h.next → kRho B keep b < h2.next ∧ kSig B keep (kRho B keep b) = some b := by
    intro b hb hlt
    unfold kP at hb
    by_cases hB : b < B
    · have e : kRho B keep b = b := by unfold kRho; rw [lowB hB]
      rw [e]
      exact ⟨by omega, by unfold kSig; rw [lowB hB]⟩
    · rw [highB hB] at hb
      simp only [Bool.false_or, List.contains_iff_mem] at hb
      obtain ⟨g1, g2⟩ := idx hb
      have e : kRho B keep b = B + keep.idxOf b := by unfold kRho; rw [highB hB]
      rw [e]
      refine ⟨by omega, ?_⟩
      unfold kSig
      rw [highB (by omega), show B + keep.idxOf b - B = keep.idxOf b by omega]
      exact g2
  have bwd : ∀ c b, kSig B keep c = some b → kP B keep b = true ∧ kRho B keep b = c ∧ c < B + keep.length := by
    intro c b e
    unfold kSig at e
    by_cases hB : c < B
    · rw [lowB hB] at e
      simp only [Option.some.injEq] at e
      subst e
      exact ⟨by unfold kP; rw [lowB hB]; rfl, by unfold kRho; rw [lowB hB], by omega⟩
    · rw [highB hB] at e
      simp only at e
      have hmem := List.mem_of_getElem? e
      have hlt := (List.getElem?_eq_some_iff.1 e).1
      have hb := (k1 b hmem).1
      have hi : keep.idxOf b = c - B := by
        have := k3 (b, c - B) (by rw [List.mk_mem_zipIdx_iff_getElem?]; exact e)
        exact this
      refine ⟨by unfold kP; simp [hmem], ?_, by omega⟩
      unfold kRho
      rw [highB (by omega)]
      simp only [hi]; omega
  refine ⟨fun b hb => ⟨by unfold kP; rw [lowB hb]; rfl, by unfold kRho; rw [lowB hb]⟩, fwd, fun c b e => ⟨(bwd c b e).1, (bwd c b e).2.1⟩, fun c hc => ?_, ht, fun b o hb ho => ?_, by omega, fun b hb ⟨c, e, fz, s, g1, g2⟩ => ?_⟩
  · exact allP_mem hp _ (List.mem_map.2 ⟨c, by rw [List.mem_range]; omega, rfl⟩)
  · by_cases hlt : b < h.next
    · obtain ⟨g1, g2⟩ := fwd b hb hlt
      have := allP_mem hq _ (List.mem_map.2 ⟨kRho B keep b, by rw [List.mem_range]; omega, rfl⟩)
      rw [g2] at this
      simp only [ho] at this
      exact this
    · unfold kP at hb
      by_cases hB : b < B
      · have := allP_mem hq _ (List.mem_map.2 ⟨b, by rw [List.mem_range]; omega, rfl⟩)
        rw [show kSig B keep b = some b by unfold kSig; rw [lowB hB]] at this
        simp only [ho] at this
        exact this
      · rw [highB hB] at hb
        simp only [Bool.false_or, List.contains_iff_mem] at hb
        exact absurd (k1 b hb).2 hlt
  · have := List.all_eq_true.1 hs b (by rw [List.mem_range]; exact hb)
    have h0 : stoneB (h.get b) = true := by
      rw [g1]
      cases fz with
      | zero => omega
      | succ fz => show Nat.ble c.length fz = true; rw [Nat.ble_eq]; omega
    rw [h0, g1] at this
    simp only [Bool.not_true, Bool.false_or, stoneN] at this
    have h3 := allP_mem hp _ (List.mem_map.2 ⟨b, by rw [List.mem_range]; omega, rfl⟩)
    rw [show kSig B keep b = some b by unfold kSig; rw [lowB hb]] at h3
    simp only [g1] at h3
    rw [h3, g1]
    simp only [Option.map_some, renO]
    rw [rens_below (fun b hb => by unfold kRho; rw [lowB hb]) this]

/-! cells that nobody writes any more -/
def fzv (b : Nat) (c : List Value) : Value → Value
  | .pointer (some a) => match Nat.beq a.block b with
    | true => immP (c.drop a.off)
    | false => .pointer (some a)
  | .slice (some a) n k => match Nat.beq a.block b with
    | true => match Nat.ble (n * k) (c.drop a.off).length with
      | true => immV (c.drop a.off) n k
      | false => UNK
    | false => .slice (some a) n k
  | .map (some r) => match Nat.beq r b with
    | true => UNK
    | false => .map (some r)
  | .agg ⟨a⟩ => .agg ⟨fzvs b c a⟩
  | .tuple ⟨a⟩ => .tuple ⟨fzvs b c a⟩
  | .func (.yield m) x y => .func (.yield m) x y
  | .func _ _ _ => UNK
  | .iface _ _ => UNK
  | v => v
  where
  fzvs (b : Nat) (c : List Value) : List Value → List Value
  | [] => []
  | v :: l => fzv b c v :: fzvs b c l
def fzO (b : Nat) (c : List Value) : AObj → Option AObj
  | .cells d e fz s => some (.cells (fzv.fzvs b c d) e fz s)
  | .siter s p => some (.siter s p)
  | _ => none

/-- block b is written no more -/
structure FzOk (B b : Nat) (c : List Value) (h h2 : AH) : Prop where
  le : B ≤ b
  get : ∃ e fz s, h.get b = some (.cells c e fz s)
  cl : ∀ v ∈ c, cl v = true
  next : h2.next = h.next
  dead : h2.get b = none
  rest : ∀ x, x ≠ b → match h.get x with | some o => ∃ o2, fzO b c o = some o2 ∧ h2.get x = some o2 | none => h2.get x = none
  stone : ∀ x, x < B → ¬ Stone h x

theorem FzOk.rel {B b : Nat} {c : List Value} {h h2 : AH} (hk : FzOk B b c h h2) {μ : Mu} {w : World} (hB : B ≤ h.next) (hr : Rel μ h w) :
    ∃ μ2, PostB B μ h w μ2 h2 w ∧ Rel μ2 h2 w ∧ (∀ v v', VR μ v v' → VR μ2 (fzv b c v) v') ∧ (∀ x, x < B → μ2 x = μ x) := by
  obtain ⟨e0, fz0, s0, hg⟩ := hk.get
  let μ2 : Mu := ⟨μ.n, ⟨fun x => if x = b then .dead else μ x, fun r i v => μ.f.im r i v ∨ ∃ ro sz, μ b = .at_ r ro sz ∧ ∃ j, i = ro + j ∧ c[j]? = some v⟩⟩
  have eb : μ2 b = .dead := by show (if b = b then _ else _) = _; rw [if_pos rfl]
  have ne : ∀ {x}, x ≠ b → μ2 x = μ x := fun {x} hx => by show (if x = b then _ else _) = _; rw [if_neg hx]
  have im1 : ∀ r i v, μ.f.im r i v → μ2.f.im r i v := fun r i v h => .inl h
  have has2 : ∀ {x}, x ≠ b → μ.has x → μ2.has x := fun {x} hx hh => ⟨hh.1, by show μ2 x ≠ .no; rw [ne hx]; exact hh.2⟩
  have at2 : ∀ {x r ro sz}, μ2 x = .at_ r ro sz → x ≠ b ∧ μ x = .at_ r ro sz := fun {x r ro sz} e => by
    by_cases hx : x = b
    · subst hx; rw [eb] at e; cases e
    · exact ⟨hx, by rw [ne hx] at e; exact e⟩
  have beqT : ∀ {x}, Nat.beq x b = true → x = b := fun h => Nat.eq_of_beq_eq_true h
  have beqF : ∀ {x}, Nat.beq x b = false → x ≠ b := fun {x} h e => by subst e; simp at h
  have lies : μ.has b → ∃ r ro sz, μ b = .at_ r ro sz := fun hh => by obtain ⟨r, ro, sz, _, h1, _⟩ := hr.lies hg hh; exact ⟨r, ro, sz, h1⟩
  have inim : ∀ {r ro sz o}, μ b = .at_ r ro sz → ∀ i u, (c.drop o)[i]? = some u → μ2.f.im r (ro + o + i) u := fun {r ro sz o} hm i u hi => by
    rw [List.getElem?_drop] at hi
    exact .inr ⟨ro, sz, hm, o + i, by omega, hi⟩
  have hsub : ∀ {x}, (∃ a k, x = a ∧ a ≠ b ∧ k = 0) ∨ True := fun {_} => .inr trivial
  have conv : ∀ (v v' : Value), VR μ v v' → VR μ2 (fzv b c v) v' := by
    have key : ∀ (n : Nat), (∀ (v v' : Value), SizeOf.sizeOf v < n → VR μ v v' → VR μ2 (fzv b c v) v') ∧ (∀ (l l' : List Value), SizeOf.sizeOf l < n → VRs μ l l' → VRs μ2 (fzv.fzvs b c l) l') := by
      intro n
      induction n with
      | zero => exact ⟨fun v v' h => by omega, fun l l' h => by omega⟩
      | succ n ih =>
        obtain ⟨ih1, ih2⟩ := ih
        refine ⟨fun v v' hn hv => ?_, fun l l' hn hv => ?_⟩
        · cases hv with
          | lit v h =>
            have : fzv b c v = v := by
              cases v with
              | pointer a => cases a <;> simp [litV] at h <;> simp [fzv]
              | slice a l k => cases a <;> first | (simp [fzv]; done) | (simp [litV] at h)
              | map a => cases a <;> simp [litV] at h <;> simp [fzv]
              | _ => first | (simp [fzv]; done) | (simp [litV] at h)
            rw [this]; exact .lit v h
          | ptr a a' h =>
            unfold fzv
            cases hb : Nat.beq a.block b with
            | true =>
              have hab := beqT hb
              obtain ⟨r, ro, sz, hm⟩ := lies (hab ▸ h.2.1)
              have := h.2.2 r ro sz (by rw [hab]; exact hm)
              subst this
              exact .immp _ _ ⟨r, ro + a.off, rfl, inim hm⟩
            | false =>
              have hab := beqF hb
              exact .ptr a a' ⟨h.1, has2 hab h.2.1, fun r ro sz e => h.2.2 r ro sz (by rw [ne hab] at e; exact e)⟩
          | slice a a' l k cap h =>
            unfold fzv
            cases hb : Nat.beq a.block b with
            | true =>
              have hab := beqT hb
              simp only
              split
              · rename_i hle
                have hle := Nat.le_of_ble_eq_true hle
                obtain ⟨r, ro, sz, hm⟩ := lies (hab ▸ h.2.1)
                refine .imm _ _ _ _ ⟨_, _, rfl, h.2.2.1, ?_⟩
                rcases h.2.2.2 r ro sz (by rw [hab]; exact hm) with ⟨h1, _⟩ | ⟨h1, _⟩
                · exact .inr ⟨r, ro + a.off, by rw [h1], hle, inim hm⟩
                · exact .inl h1
              · exact .any _
            | false =>
              have hab := beqF hb
              exact .slice a a' l k cap ⟨h.1, has2 hab h.2.1, h.2.2.1, fun r ro sz e => h.2.2.2 r ro sz (by rw [ne hab] at e; exact e)⟩
          | map x r h =>
            unfold fzv
            cases hb : Nat.beq x b with
            | true => exact .any _
            | false =>
              have hab := beqF hb
              exact .map x r ⟨has2 hab h.1, fun r' ro' sz' e => h.2 r' ro' sz' (by rw [ne hab] at e; exact e)⟩
          | func f x y x' y' hx hy => simp only [fzv]; exact .any _
          | iface t v v' h => simp only [fzv]; exact .any _
          | agg x x' h => simp only [fzv]; exact .agg _ _ (ih2 x x' (by simp at hn; omega) h)
          | tuple x x' h => simp only [fzv]; exact .tuple _ _ (ih2 x x' (by simp at hn; omega) h)
          | imm l n k v' h => simp only [fzv]; exact (VR.imm l n k v' h).cl_im im1 rfl
          | immp l v' h => simp only [fzv]; exact (VR.immp l v' h).cl_im im1 rfl
          | any v' => simp only [fzv]; exact .any v'
        · cases hv with
          | nil => exact .nil
          | cons v v' l l' h hl =>
            simp only [fzv.fzvs]
            simp at hn
            exact .cons _ _ _ _ (ih1 v v' (by omega) h) (ih2 l l' (by omega) hl)
    exact fun v v' h => (key (SizeOf.sizeOf v + 1)).1 v v' (by omega) h
  have convs : ∀ {i : Nat} {d : List Value}, (fzv.fzvs b c d)[i]? = (d[i]?).map (fzv b c) := by
    intro i d
    induction d generalizing i with
    | nil => simp [fzv.fzvs]
    | cons v d ih => cases i with
      | zero => simp [fzv.fzvs]
      | succ i => simp [fzv.fzvs, ih]
  have lens : ∀ {d : List Value}, (fzv.fzvs b c d).length = d.length := by
    intro d
    induction d with
    | nil => rfl
    | cons v d ih => simp [fzv.fzvs, ih]
  have hrel : Rel μ2 h2 w := by
    refine ⟨by rw [hk.next]; exact hr.nx, fun x y r ro sz ro' sz' e e' => hr.inj _ _ _ _ _ _ _ (at2 e).2 (at2 e').2, fun x hx => ?_, fun x hx => ?_, fun x r ro sz e => ?_, fun x hx => ?_, fun r i v hv => ?_⟩
    · rw [hk.next]
      by_cases hxb : x = b
      · subst hxb; exact hr.top_ne hg
      · rw [ne hxb] at hx; exact hr.low x hx
    · by_cases hxb : x = b
      · subst hxb; exact hk.dead
      · rw [ne hxb] at hx
        have := hk.rest x hxb
        rw [hr.dead x hx] at this; exact this
    · obtain ⟨hxb, e⟩ := at2 e
      obtain ⟨o, o', g1, g2, g3⟩ := hr.dom x r ro sz e
      have := hk.rest x hxb
      rw [g1] at this
      obtain ⟨o2, k1, k2⟩ := this
      refine ⟨o2, o', k2, g2, ?_⟩
      cases g3 with
      | cells d e fz s c' lo hi hsz hlen hcc hf =>
        simp only [fzO, Option.some.injEq] at k1
        subst k1
        refine .cells _ e fz s c' lo hi hsz (by rw [lens]; exact hlen) (fun i v hi => ?_) (by rw [lens]; exact hf)
        rw [convs] at hi
        cases hdi : d[i]? with
        | none => rw [hdi] at hi; cases hi
        | some u =>
          rw [hdi] at hi
          simp at hi
          subst hi
          obtain ⟨v', q1, q2⟩ := hcc i u hdi
          exact ⟨v', q1, conv _ _ q2⟩
      | siter s pos h => simp only [fzO, Option.some.injEq] at k1; subst k1; exact .siter s pos h
      | _ => simp [fzO] at k1
    · rw [hk.next] at hx
      by_cases hxb : x = b
      · subst hxb; exact hk.dead
      · have := hk.rest x hxb
        rw [hr.top x hx] at this; exact this
    · rcases hv with hv | ⟨ro, sz, hm, j, rfl, hj⟩
      · obtain ⟨h1, h2', c', e, z, v', h3, h4, h5⟩ := hr.imm r i v hv
        exact ⟨fun x ro sz hx => h1 _ _ _ (at2 hx).2, h2', c', e, z, v', h3, h4, h5.cl_im (ν := μ2) im1 h2'⟩
      · refine ⟨fun x ro' sz' hx => (at2 hx).1 (hr.inj _ _ _ _ _ _ _ (at2 hx).2 hm), hk.cl v (List.mem_of_getElem? hj), ?_⟩
        obtain ⟨o, o', g1, g2, g3⟩ := hr.dom b r ro sz hm
        rw [hg] at g1; cases g1
        cases g3 with
        | cells _ e fz s c' lo hi hsz hlen hcc hf =>
          obtain ⟨v', q1, q2⟩ := hcc j v hj
          exact ⟨c', _, _, v', g2, q1, q2.cl_im (ν := μ2) im1 (hk.cl v (List.mem_of_getElem? hj))⟩
  have hle := hk.le
  refine ⟨μ2, ⟨fun x hx _ => .inl (ne (by omega)), im1, by rw [hk.next]; exact hB, by show B ≤ μ.n; rw [hr.nx]; exact hB, fun x hx e => by rw [ne (by omega)]; exact e, Nat.le_refl _, fun x r ro sz e => .inr ⟨_, _, _, (at2 e).2⟩, fun _ _ _ => rfl, fun x hx hs => absurd hs (hk.stone x hx), fun r i v hv => ?_, rfl, rfl⟩, hrel, conv, fun x hx => ne (by omega)⟩
  rcases hv with hv | ⟨ro, sz, hm, _⟩
  · exact .inl hv
  · exact .inr (.inr ⟨_, _, _, hm⟩)

theorem FinR.freeze {B b : Nat} {c : List Value} {h h2 : AH} (hk : FzOk B b c h h2) {v : Value} : FinR B v h (fzv b c v) h2 := fun μ w v' hB hr hvr => by
  obtain ⟨μ2, p, hr2, hc, _⟩ := hk.rel hB hr
  exact ⟨μ2, p, hr2, hc v v' hvr⟩
end Go.Ev
end
section
namespace Go.Ev
/-! promises over small memories, used in great ones -/

def clv : Value → Bool
  | .agg ⟨l⟩ => l.all cl
  | .tuple ⟨l⟩ => l.all fun v => match v with | .agg ⟨l⟩ => l.all cl | v => cl v
  | v => cl v

theorem cl_ren {ρ : Nat → Nat} {v : Value} (h : cl v = true) : ren ρ v = v := by
  unfold cl at h
  split at h
  · rfl
  · exact ren_lit h
theorem cl_vq {p : Nat → Bool} {v : Value} (h : cl v = true) : vq p v = true := by
  unfold cl at h
  split at h
  · rfl
  · cases v with
    | pointer a => cases a <;> simp [litV] at h <;> rfl
    | slice a l k => cases a <;> first | rfl | simp [litV] at h
    | map a => cases a <;> simp [litV] at h <;> rfl
    | _ => first | rfl | simp [litV] at h
theorem cls_ren {ρ : Nat → Nat} : ∀ {l : List Value}, l.all cl = true → rens ρ l = l
  | [], _ => rfl
  | v :: l, h => by
    simp only [List.all_cons, Bool.and_eq_true] at h
    simp only [rens, cl_ren h.1, cls_ren h.2]
theorem cls_vq {p : Nat → Bool} : ∀ {l : List Value}, l.all cl = true → vqs p l = true
  | [], _ => rfl
  | v :: l, h => by
    simp only [List.all_cons, Bool.and_eq_true] at h
    simp only [vqs, cl_vq h.1, cls_vq h.2, Bool.and_self]
theorem cla_ren {ρ : Nat → Nat} {v : Value} (h : (match v with | .agg ⟨l⟩ => l.all cl | v => cl v) = true) : ren ρ v = v := by
  split at h
  · simp only [ren, cls_ren h]
  · exact cl_ren h
theorem cla_vq {p : Nat → Bool} {v : Value} (h : (match v with | .agg ⟨l⟩ => l.all cl | v => cl v) = true) : vq p v = true := by
  split at h
  · simp only [vq, cls_vq h]
  · exact cl_vq h
theorem clv_ren {ρ : Nat → Nat} {v : Value} (h : clv v = true) : ren ρ v = v := by
  unfold clv at h
  split at h
  · simp only [ren, cls_ren h]
  · rename_i l
    simp only [ren]
    have : ∀ {l : List Value}, (l.all fun v => match v with | .agg ⟨l⟩ => l.all cl | v => cl v) = true → rens ρ l = l := by
      intro l
      induction l with
      | nil => intro _; rfl
      | cons v l ih =>
        intro h
        simp only [List.all_cons, Bool.and_eq_true] at h
        simp only [rens, cla_ren h.1, ih h.2]
    rw [this h]
  · exact cl_ren h
theorem clv_vq {p : Nat → Bool} {v : Value} (h : clv v = true) : vq p v = true := by
  unfold clv at h
  split at h
  · simp only [vq, cls_vq h]
  · rename_i l
    simp only [vq]
    have : ∀ {l : List Value}, (l.all fun v => match v with | .agg ⟨l⟩ => l.all cl | v => cl v) = true → vqs p l = true := by
      intro l
      induction l with
      | nil => intro _; rfl
      | cons v l ih =>
        intro h
        simp only [List.all_cons, Bool.and_eq_true] at h
        simp only [vqs, cla_vq h.1, ih h.2, Bool.and_self]
    exact this h
  · exact cl_vq h

/-- no block below a bound is there -/
noncomputable def lows (K : Nat) (h : AH) : Bool := (List.range K).all fun b => (h.get b).isNone
theorem lows_spec {K : Nat} {h : AH} (hl : lows K h = true) : ∀ b, b < K → h.get b = none := fun b hb => by
  have := List.all_eq_true.1 hl b (by simpa using hb)
  simpa using this

/-- nothing new is named by a result: all of it is dropped -/
theorem FinR.drop {K : Nat} {v : Value} {h : AH} (hl : lows K h = true) (hv : clv v = true) (_hn : K ≤ h.next) : FinR K v h v (bas K) := by
  have hlow := lows_spec hl
  have hk : RenOk K (kRho K []) (kP K []) (kSig K []) h (bas K) := by
    refine keep_ok (by simp [keepOk]) (by simp [mkH]) ?_ ?_ (fun c hc => rfl) ?_
    · have : ∀ l : List Nat, (∀ c ∈ l, c < K) → allP (l.map fun c => (bas K).get c = match kSig K [] c with | some b => (h.get b).map (renO (kRho K [])) | none => none) := by
        intro l
        induction l with
        | nil => intro _; trivial
        | cons c l ih =>
          intro hl
          refine ⟨?_, ih fun c hc => hl c (by simp [hc])⟩
          have hc := hl c (by simp)
          have : kSig K [] c = some c := by unfold kSig; rw [show Nat.blt c K = true by rw [Nat.blt_eq]; exact hc]
          simp only [this, hlow c hc]; rfl
      exact this _ fun c hc => by simpa using hc
    · have : ∀ l : List Nat, (∀ c ∈ l, c < K) → allP (l.map fun c => match kSig K [] c with
          | some b => match h.get b with
            | some o => oq (kP K []) o = true
            | none => True
          | none => True) := by
        intro l
        induction l with
        | nil => intro _; trivial
        | cons c l ih =>
          intro hl
          refine ⟨?_, ih fun c hc => hl c (by simp [hc])⟩
          have hc := hl c (by simp)
          have : kSig K [] c = some c := by unfold kSig; rw [show Nat.blt c K = true by rw [Nat.blt_eq]; exact hc]
          simp only [this, hlow c hc]
      exact this _ fun c hc => by simpa using hc
    · unfold keepS
      rw [List.all_eq_true]
      intro c hc
      rw [hlow c (by simpa using hc)]; rfl
  have := FinR.ren hk (v := v) (clv_vq hv)
  rw [clv_ren hv] at this; exact this

/-! the frame -/
def rho0 (K n : Nat) (b : Nat) : Nat := if b < K then b else n + (b - K)
def sig0 (K : Nat) (c : Nat) : Option Nat := if c < K then some c else none

theorem get_bas (K b : Nat) : (bas K).get b = none := rfl
theorem emb_bas {K : Nat} {h : AH} (hK : K ≤ h.next) : Emb (below K) (rho0 K h.next) (sig0 K) (bas K) h := by
  refine ⟨fun b hb => ?_, fun c b hs => ?_, fun b o _ ho => (by rw [get_bas] at ho; cases ho), fun b _ => get_bas K b, fun g hg => ?_, fun b hb => ?_⟩
  · have hb' : b < K := hb
    simp only [rho0, sig0, hb', if_true]
    exact ⟨by omega, trivial⟩
  · unfold sig0 at hs
    split at hs <;> cases hs
    rename_i hc
    exact ⟨hc, by simp [rho0, hc]⟩
  · have hg' : g < K := blt_lt hg
    exact ⟨hg', by simp [rho0, hg']⟩
  · have hb' : ¬ b < K := by have : K ≤ b := hb; omega
    simp only [rho0, hb', if_false]
    rfl

section
variable {P : Program} {K : Nat} {f : FuncId} {args : List Value} {v : Value}
theorem low_next {G : Nat → Bool} {μ : Mu} {h : AH} {w : World} (hr : Rel μ h w) (hG : ∀ g, G g = true ↔ g < K) (hg : GR G μ) : K ≤ h.next := by
  rcases Nat.eq_zero_or_pos K with h0 | h0
  · omega
  · have h1 : G (K - 1) = true := (hG _).2 (by omega)
    have := (hg _ h1).1.1
    rw [hr.nx] at this; omega

theorem clvs_ren {ρ : Nat → Nat} : ∀ {l : List Value}, l.all clv = true → rens ρ l = l
  | [], _ => rfl
  | v :: l, h => by
    simp only [List.all_cons, Bool.and_eq_true] at h
    simp only [rens, clv_ren h.1, clvs_ren h.2]
theorem cl_vb' {n : Nat} {v : Value} (h : cl v = true) : vb n v = true := cl_vb h
theorem cls_vb {n : Nat} : ∀ {l : List Value}, l.all cl = true → vbs n l = true
  | [], _ => rfl
  | v :: l, h => by
    simp only [List.all_cons, Bool.and_eq_true] at h
    simp only [vbs, cl_vb h.1, cls_vb h.2, Bool.and_self]
theorem cla_vb {n : Nat} {v : Value} (h : (match v with | .agg ⟨l⟩ => l.all cl | v => cl v) = true) : vb n v = true := by
  split at h
  · simp only [vb, cls_vb h]
  · exact cl_vb h
theorem clv_vb {n : Nat} {v : Value} (h : clv v = true) : vb n v = true := by
  unfold clv at h
  split at h
  · simp only [vb, cls_vb h]
  · rename_i l
    simp only [vb]
    have : ∀ {l : List Value}, (l.all fun v => match v with | .agg ⟨l⟩ => l.all cl | v => cl v) = true → vbs n l = true := by
      intro l
      induction l with
      | nil => intro _; rfl
      | cons v l ih =>
        intro h
        simp only [List.all_cons, Bool.and_eq_true] at h
        simp only [vbs, cla_vb h.1, ih h.2, Bool.and_self]
    exact this h
  · exact cl_vb h
theorem clvs_vb {n : Nat} : ∀ {l : List Value}, l.all clv = true → vbs n l = true
  | [], _ => rfl
  | v :: l, h => by
    simp only [List.all_cons, Bool.and_eq_true] at h
    simp only [vbs, clv_vb h.1, clvs_vb h.2, Bool.and_self]

/-- a promise of a function that keeps nothing, over every memory -/
theorem CallsOk.lift (hc : CallsOk P (below K) f args (bas K) v (bas K)) (ha : args.all clv = true) (hv : clv v = true) (h : AH) : CallsOk P (below K) f args h v h := by
  intro μ w args' hr hg hargs
  have hK := low_next hr below_iff hg
  have hf : Framed (rho0 K h.next) (sig0 K) (bas K) h (bas K) h := ⟨by simp, fun b _ hs => (by rw [get_bas] at hs; cases hs), fun c _ _ => rfl, fun c hcl => (by rw [hr.top c hcl, get_bas]; rfl), fun b o ho => (by rw [get_bas] at ho; cases ho)⟩
  have := hc.frame (emb_bas hK) hf (clvs_vb ha) (clv_vq hv)
  rw [clvs_ren ha, clv_ren hv] at this
  exact this μ w args' hr hg hargs
end

/-- a pure function: its answer for every memory -/
theorem pure_ok {P : Program} {E : Env} {call : Caller} {K : Nat} (hE : EnvFull P (below K) E) (hc : CallerOk P (below K) call) {n : Nat} {f : FuncId} {fn : Func} (hf : E.fn f = some fn) (hb : fn.body.isSome = true) {args : List Value} {d : List Dec} {v2 : Value}
    (h1 : vcFn P (below K) E call n fn args (bas K) d fun v h' => FinR K v h' v2 (bas K)) (ha : args.all clv = true) (hv : clv v2 = true) (h : AH) : CallOk P (below K) f args h v2 h := by
  have := ((vcFn_sound hE hc hf h1).ok fun v h' hq => hq).lift ha hv h
  obtain ⟨hf1, hf2, _⟩ := hE.fns f fn hf
  obtain ⟨c, hcb⟩ := Option.isSome_iff_exists.1 hb
  exact CallsOk.call hf1 hf2 hcb this

/-- the same, of a caller that runs calls by the evaluator -/
theorem evCaller_ok {P : Program} {G : Nat → Bool} {E : Env} (hE : EnvFull P G E) (n : Nat) : CallerOk P G (evCall E n) := evCall_sound hE n
end Go.Ev
end
section
namespace Go.Ev
/-! a promise over a small memory, at a place in a great one -/

def fRho (K : Nat) (em : List Nat) (n : Nat) (b : Nat) : Nat :=
  match Nat.blt b K with
  | true => b
  | false => match em[b - K]? with
    | some c => c
    | none => n + (b - (K + em.length))
def fSig (K : Nat) (em : List Nat) (c : Nat) : Option Nat :=
  match Nat.blt c K with
  | true => some c
  | false => match em.contains c with
    | true => some (K + em.idxOf c)
    | false => none
/-- a block that is read alone: the cells that are known -/
abbrev opq (c : List Value) (e : TypeId) : AObj := .cells c e (c.length + 1) false
def isOpq (o : Option AObj) : Bool :=
  match o with
  | some (.cells c _ fz s) => match fz with
    | 0 => false
    | f + 1 => match s with
      | true => false
      | false => Nat.ble c.length f
  | _ => false
noncomputable def putsF (ρ : Nat → Nat) (h0' : AH) : List (Nat × Nat) → Tr AObj → Tr AObj
  | [], t => t
  | (c, b) :: l, t => (putsF ρ h0' l t).put c ((h0'.get b).map (renO ρ))
/-- the great memory behind: (place, small name), (new place, small name) -/
noncomputable def emK (K : Nat) (em : List Nat) (h0 : AH) : List (Nat × Nat) := (em.zipIdx.filter fun p => !isOpq (h0.get (K + p.2))).map fun p => (p.1, K + p.2)
noncomputable def frH (K : Nat) (em : List Nat) (h h0 h0' : AH) : AH :=
  ⟨h.next + (h0'.next - (K + em.length)),
   putsF (fRho K em h.next) h0' ((List.range (h0'.next - (K + em.length))).map fun j => (h.next + j, K + em.length + j))
    (putsF (fRho K em h.next) h0' (emK K em h0) h.tr)⟩

theorem get_puts {ρ : Nat → Nat} {h0' : AH} : ∀ {l : List (Nat × Nat)} {t : Tr AObj} {c : Nat}, (∀ p ∈ l, p.1 ≠ c) → (putsF ρ h0' l t).get c = t.get c
  | [], _, _, _ => rfl
  | (c', b) :: l, t, c, h => by
    simp only [putsF]
    rw [Tr.get_put, if_neg (fun e => h (c', b) (by simp) e.symm)]
    exact get_puts fun p hp => h p (by simp [hp])
theorem get_puts_mem {ρ : Nat → Nat} {h0' : AH} {c b : Nat} : ∀ {l : List (Nat × Nat)} {t : Tr AObj}, (c, b) ∈ l → (∀ p ∈ l, p.1 = c → p.2 = b) → (putsF ρ h0' l t).get c = (h0'.get b).map (renO ρ)
  | [], _, h, _ => by cases h
  | (c', b') :: l, t, h, hu => by
    simp only [putsF]
    rw [Tr.get_put]
    by_cases e : c = c'
    · rw [if_pos e]
      have := hu (c', b') (by simp) e.symm
      simp only at this
      rw [this]
    · rw [if_neg e]
      refine get_puts_mem ?_ fun p hp => hu p (by simp [hp])
      rcases List.mem_cons.1 h with h | h
      · cases h; exact absurd rfl e
      · exact h

mutual
theorem vq_mono {p q : Nat → Bool} (h : ∀ b, p b = true → q b = true) : ∀ {v : Value}, vq p v = true → vq q v = true
  | .pointer none, _ => rfl
  | .pointer (some a), hv => by simp only [vq] at hv ⊢; exact h _ hv
  | .slice none _ _, _ => rfl
  | .slice (some a) _ _, hv => by simp only [vq] at hv ⊢; exact h _ hv
  | .map none, _ => rfl
  | .map (some r), hv => by simp only [vq] at hv ⊢; exact h _ hv
  | .func (.yield m) a b, _ => rfl
  | .func (.func f) ⟨a⟩ ⟨b⟩, hv => by simp only [vq, Bool.and_eq_true] at hv ⊢; exact ⟨vqs_mono h hv.1, vqs_mono h hv.2⟩
  | .func (.method f) ⟨a⟩ ⟨b⟩, hv => by simp only [vq, Bool.and_eq_true] at hv ⊢; exact ⟨vqs_mono h hv.1, vqs_mono h hv.2⟩
  | .func (.methodOf t f) ⟨a⟩ ⟨b⟩, hv => by simp only [vq, Bool.and_eq_true] at hv ⊢; exact ⟨vqs_mono h hv.1, vqs_mono h hv.2⟩
  | .func (.via t p' f q') ⟨a⟩ ⟨b⟩, hv => by simp only [vq, Bool.and_eq_true] at hv ⊢; exact ⟨vqs_mono h hv.1, vqs_mono h hv.2⟩
  | .iface t v, hv => by simp only [vq] at hv ⊢; exact vq_mono h hv
  | .agg ⟨a⟩, hv => by simp only [vq] at hv ⊢; exact vqs_mono h hv
  | .tuple ⟨a⟩, hv => by simp only [vq] at hv ⊢; exact vqs_mono h hv
  | .bool _, _ => rfl
  | .int _ _, _ => rfl
  | .float _ _, _ => rfl
  | .complex _ _ _, _ => rfl
  | .string _, _ => rfl
  | .chan _, _ => rfl
  | .nilFunc, _ => rfl
  | .nilIface, _ => rfl
theorem vqs_mono {p q : Nat → Bool} (h : ∀ b, p b = true → q b = true) : ∀ {l : List Value}, vqs p l = true → vqs q l = true
  | [], _ => rfl
  | v :: l, hv => by simp only [vqs, Bool.and_eq_true] at hv ⊢; exact ⟨vq_mono h hv.1, vqs_mono h hv.2⟩
end
theorem oq_mono {p q : Nat → Bool} (h : ∀ b, p b = true → q b = true) {o : AObj} (ho : oq p o = true) : oq q o = true := by
  cases o with
  | cells c e fz s => exact vqs_mono h ho
  | siter s p => rfl
  | map es c => simp only [oq, List.all_eq_true] at ho ⊢; exact fun e he => vq_mono h (ho e he)
  | miter m a b c => cases m with
    | none => rfl
    | some x => exact h _ ho

def embOk (K n : Nat) (em : List Nat) : Bool := em.all (fun c => Nat.ble K c && Nat.blt c n) && em.zipIdx.all fun p => em.idxOf p.1 == p.2
/-- the small memory's blocks are those of the great one -/
def embP (K : Nat) (em : List Nat) (h0 h : AH) : List Prop :=
  (em.zipIdx).map fun p => match isOpq (h0.get (K + p.2)) with
    | true => Opq (fRho K em h.next) h0.next ((h0.get (K + p.2)).getD (.siter .empty 0)) (h.get p.1)
    | false => h.get p.1 = (h0.get (K + p.2)).map (renO (fRho K em h.next))
def obB (n : Nat) (o : Option AObj) : Bool := match o with | some o => ob n o | none => true
def oqB (p : Nat → Bool) (o : Option AObj) : Bool := match o with | some o => oq p o | none => true

theorem CallsOk.at_ {P : Program} {K : Nat} {em : List Nat} {f : FuncId} {args : List Value} {v : Value} {h0 h0' h : AH} (hc : CallsOk P (below K) f args h0 v h0')
    (hn : h0.next = K + em.length) (hle : h0.next ≤ h0'.next) (hl : lows K h0 = true) (ht : ∀ b, h0.next ≤ b → h0.get b = none) (he : embOk K h.next em = true) (hp : allP (embP K em h0 h))
    (hob : (List.range em.length).all (fun i => (h0.get (K + i)).isSome && obB h0.next (h0.get (K + i))) = true)
    (hoq : (List.range (h0'.next - K)).all (fun i => oqB (fun b => Nat.ble K b) (h0'.get (K + i))) = true) (hl' : lows K h0' = true) (ht' : ∀ b, h0'.next ≤ b → h0'.get b = none) (hK : K ≤ h.next)
    (ha : vbs h0.next args = true) (hv : vq (fun b => Nat.ble K b) v = true) : CallsOk P (below K) f (rens (fRho K em h.next) args) h (ren (fRho K em h.next) v) (frH K em h h0 h0') := by
  intro μ w args' hr hg hargs
  unfold embOk at he
  simp only [Bool.and_eq_true, List.all_eq_true, Nat.ble_eq, Nat.blt_eq, beq_iff_eq] at he
  obtain ⟨he1, he2⟩ := he
  have lowB : ∀ {b}, b < K → Nat.blt b K = true := fun h => by rw [Nat.blt_eq]; exact h
  have highB : ∀ {b}, ¬ b < K → Nat.blt b K = false := fun {b} h => by cases e : Nat.blt b K with | false => rfl | true => rw [Nat.blt_eq] at e; exact absurd e h
  have hlow := lows_spec hl
  have hlow' := lows_spec hl'
  have idxMem : ∀ {c}, c ∈ em → em.idxOf c < em.length ∧ em[em.idxOf c]? = some c := fun {c} hb => by
    have h2 := List.idxOf_lt_length_of_mem hb
    exact ⟨h2, by rw [List.getElem?_eq_getElem h2, List.getElem_idxOf h2]⟩
  have idxAt : ∀ {i c}, em[i]? = some c → em.idxOf c = i := fun {i c} e => he2 (c, i) (by rw [List.mk_mem_zipIdx_iff_getElem?]; exact e)
  have rhoLow : ∀ {b}, b < K → fRho K em h.next b = b := fun {b} hb => by unfold fRho; rw [lowB hb]
  have rhoEm : ∀ {b c}, ¬ b < K → em[b - K]? = some c → fRho K em h.next b = c := fun {b c} hb e => by unfold fRho; rw [highB hb]; simp only [e]
  have rhoNew : ∀ {b}, h0.next ≤ b → fRho K em h.next b = h.next + (b - h0.next) := fun {b} hb => by
    have h1 : ¬ b < K := by omega
    unfold fRho; rw [highB h1]
    rw [List.getElem?_eq_none (by omega)]; simp only [hn]
  have sigEm : ∀ {i c}, em[i]? = some c → fSig K em c = some (K + i) := fun {i c} e => by
    have hm := List.mem_of_getElem? e
    have := (he1 c hm).1
    unfold fSig
    rw [highB (by omega)]
    simp only [show em.contains c = true by simpa using hm, idxAt e]
  have sigInv : ∀ {c b}, fSig K em c = some b → (c < K ∧ b = c) ∨ (∃ i, em[i]? = some c ∧ b = K + i) := fun {c b} e => by
    by_cases hc : c < K
    · unfold fSig at e
      rw [lowB hc] at e
      simp only [Option.some.injEq] at e
      exact .inl ⟨hc, e.symm⟩
    · unfold fSig at e
      rw [highB hc] at e
      simp only at e
      split at e <;> cases e
      rename_i hm
      exact .inr ⟨_, (idxMem (by simpa using hm)).2, rfl⟩
  have embAt : ∀ {i c}, em[i]? = some c → match isOpq (h0.get (K + i)) with
      | true => Opq (fRho K em h.next) h0.next ((h0.get (K + i)).getD (.siter .empty 0)) (h.get c)
      | false => h.get c = (h0.get (K + i)).map (renO (fRho K em h.next)) := fun {i c} e =>
    allP_mem hp _ (List.mem_map.2 ⟨(c, i), by rw [List.mk_mem_zipIdx_iff_getElem?]; exact e, rfl⟩)
  have kmem : ∀ {c b}, (c, b) ∈ emK K em h0 ↔ ∃ i, em[i]? = some c ∧ b = K + i ∧ isOpq (h0.get (K + i)) = false := by
    intro c b
    unfold emK
    rw [List.mem_map]
    constructor
    · rintro ⟨⟨x, i⟩, hq, e⟩
      rw [List.mem_filter, List.mk_mem_zipIdx_iff_getElem?] at hq
      simp only [Prod.mk.injEq] at e
      obtain ⟨rfl, rfl⟩ := e
      exact ⟨i, hq.1, rfl, by simpa using hq.2⟩
    · rintro ⟨i, h1, rfl, h2⟩
      exact ⟨(c, i), by rw [List.mem_filter, List.mk_mem_zipIdx_iff_getElem?]; exact ⟨h1, by simpa using h2⟩, rfl⟩
  have someAt : ∀ {i}, i < em.length → (h0.get (K + i)).isSome = true ∧ obB h0.next (h0.get (K + i)) = true := fun {i} hi => by
    have := List.all_eq_true.1 hob i (by simpa using hi)
    simpa using this
  have emGet : ∀ {i}, i < em.length → ∃ c, em[i]? = some c := fun {i} hi => ⟨_, List.getElem?_eq_getElem hi⟩
  have hemb : Emb (below K) (fRho K em h.next) (fSig K em) h0 h := by
    refine ⟨fun b hb => ?_, fun c b hs => ?_, fun b o hb ho => ?_, ht, fun g hg => ?_, fun b hb => rhoNew hb⟩
    · by_cases hbK : b < K
      · rw [rhoLow hbK]; exact ⟨by omega, by unfold fSig; rw [lowB hbK]⟩
      · obtain ⟨c, hc⟩ := emGet (i := b - K) (by omega)
        rw [rhoEm hbK hc]
        refine ⟨(he1 c (List.mem_of_getElem? hc)).2, ?_⟩
        rw [sigEm hc]; congr 1; omega
    · rcases sigInv hs with ⟨h1, rfl⟩ | ⟨i, h1, rfl⟩
      · exact ⟨by omega, rhoLow h1⟩
      · have := (List.getElem?_eq_some_iff.1 h1).1
        exact ⟨by omega, rhoEm (by omega) (by rw [show K + i - K = i by omega]; exact h1)⟩
    · by_cases hbK : b < K
      · rw [hlow b hbK] at ho; cases ho
      · obtain ⟨c, hc⟩ := emGet (i := b - K) (by omega)
        have hcc := embAt hc
        rw [show K + (b - K) = b by omega, ho] at hcc
        have hs := (someAt (i := b - K) (by omega)).2
        rw [show K + (b - K) = b by omega, ho] at hs
        rw [rhoEm hbK hc]
        cases ho2 : isOpq (some o) with
        | true => rw [ho2] at hcc; exact .inr hcc
        | false => rw [ho2] at hcc; exact .inl ⟨by rw [hcc]; rfl, hs⟩
    · have hg' : g < K := blt_lt hg
      exact ⟨by omega, rhoLow hg'⟩
  have frGet : ∀ c, (frH K em h h0 h0').get c = if c < h.next then (match fSig K em c with | some b => if b < K ∨ isOpq (h0.get b) = true then h.get c else (h0'.get b).map (renO (fRho K em h.next)) | none => h.get c) else (h0'.get (h0.next + (c - h.next))).map (renO (fRho K em h.next)) := by
    intro c
    show (putsF _ _ _ (putsF _ _ _ h.tr)).get c = _
    by_cases hc : c < h.next
    · rw [if_pos hc]
      rw [get_puts (fun p hpm => by
        obtain ⟨j, _, rfl⟩ := List.mem_map.1 hpm
        simp only; omega)]
      cases hs : fSig K em c with
      | none =>
        simp only
        refine get_puts fun p hpm e => ?_
        obtain ⟨x, b⟩ := p
        obtain ⟨i, hq, _, _⟩ := kmem.1 hpm
        simp only at e
        subst e
        rw [sigEm hq] at hs; cases hs
      | some b =>
        simp only
        rcases sigInv hs with ⟨h1, rfl⟩ | ⟨i, h1, rfl⟩
        · rw [if_pos (.inl h1)]
          refine get_puts fun p hpm e => ?_
          obtain ⟨x, b⟩ := p
          obtain ⟨i, hq, _, _⟩ := kmem.1 hpm
          simp only at e
          have := (he1 x (List.mem_of_getElem? hq)).1
          omega
        · cases hop : isOpq (h0.get (K + i)) with
          | true =>
            rw [if_pos (.inr rfl)]
            refine get_puts fun p hpm e => ?_
            obtain ⟨x, b⟩ := p
            obtain ⟨j, hq, _, h2⟩ := kmem.1 hpm
            simp only at e
            subst e
            have : i = j := by rw [← idxAt hq, ← idxAt h1]
            subst this
            rw [h2] at hop; cases hop
          | false =>
            have hnot : ¬ (K + i < K ∨ false = true) := by simp
            rw [if_neg hnot]
            refine get_puts_mem (kmem.2 ⟨i, h1, rfl, hop⟩) fun p hpm e => ?_
            obtain ⟨x, b⟩ := p
            obtain ⟨j, hq, h3, h2⟩ := kmem.1 hpm
            simp only at e ⊢
            subst e
            rw [h3, ← idxAt hq, ← idxAt h1]
    · rw [if_neg hc]
      by_cases hlt : c < h.next + (h0'.next - (K + em.length))
      · refine get_puts_mem (List.mem_map.2 ⟨c - h.next, by rw [List.mem_range]; omega, ?_⟩) fun p hpm e => ?_
        · rw [Prod.mk.injEq]; omega
        · obtain ⟨j, _, rfl⟩ := List.mem_map.1 hpm
          simp only at e ⊢; omega
      · rw [get_puts (fun p hpm => by
          obtain ⟨j, hj, rfl⟩ := List.mem_map.1 hpm
          rw [List.mem_range] at hj
          simp only; omega)]
        rw [ht' _ (by omega)]
        rw [get_puts (fun p hpm e => by
          obtain ⟨x, b⟩ := p
          obtain ⟨i, hq, _, _⟩ := kmem.1 hpm
          simp only at e
          have := (he1 x (List.mem_of_getElem? hq)).2
          omega)]
        rw [show h.tr.get c = h.get c from rfl, hr.top c (by omega)]; rfl
  have hmay : ∀ b, Nat.ble K b = true → may h0 b = true := fun b hb => by
    have hb := Nat.le_of_ble_eq_true hb
    unfold may
    by_cases h1 : h0.next ≤ b
    · simp [ble_t h1]
    · have := (someAt (i := b - K) (by omega)).1
      rw [show K + (b - K) = b by omega] at this
      simp [this]
  have hfr : Framed (fRho K em h.next) (fSig K em) h0 h h0' (frH K em h h0 h0') := by
    refine ⟨by show h.next + (h0'.next - (K + em.length)) = _; rw [hn], fun b hb hs => ?_, fun c hc hs => ?_, fun c hc => ?_, fun b o ho => ?_⟩
    · have hbK : ¬ b < K := fun hbK => by rw [hlow b hbK] at hs; cases hs
      obtain ⟨c, hcm⟩ := emGet (i := b - K) (by omega)
      have hcc := embAt hcm
      rw [show K + (b - K) = b by omega] at hcc
      obtain ⟨o, ho⟩ := Option.isSome_iff_exists.1 hs
      rw [rhoEm hbK hcm, frGet, if_pos (he1 c (List.mem_of_getElem? hcm)).2, sigEm hcm]
      simp only
      rw [show K + (b - K) = b by omega]
      cases hop : isOpq (h0.get b) with
      | true =>
        rw [hop] at hcc
        rw [if_pos (.inr rfl)]
        refine .inr ⟨o, ho, ?_, rfl⟩
        rw [ho] at hcc; exact hcc
      | false =>
        rw [hop] at hcc
        rw [if_neg (by simp; omega)]
        exact .inl ⟨hcc, rfl⟩
    · rw [frGet, if_pos hc]
      cases hsig : fSig K em c with
      | none => rfl
      | some b =>
        simp only
        rcases sigInv hsig with ⟨h1, rfl⟩ | ⟨i, h1, rfl⟩
        · rw [if_pos (.inl h1)]
        · have := (List.getElem?_eq_some_iff.1 h1).1
          have h2 := hs _ hsig
          have h3 := (someAt this).1
          rw [h2] at h3; cases h3
    · rw [frGet, if_neg (by omega)]
    · by_cases hbK : b < K
      · rw [hlow' b hbK] at ho; cases ho
      · by_cases hbn : b < h0'.next
        · have := List.all_eq_true.1 hoq (b - K) (by rw [List.mem_range]; omega)
          rw [show K + (b - K) = b by omega, ho] at this
          exact oq_mono hmay this
        · rw [ht' b (by omega)] at ho; cases ho
  exact (hc.frame hemb hfr ha (vq_mono hmay hv)) μ w args' hr hg hargs
end Go.Ev
namespace Go.Ev
/-- a caller that knows of one function more what it answers -/
def withPure (f : FuncId) (g : List Value → Option Value) (base : Caller) : Caller := fun f' args h =>
  match Nat.beq f' f with
  | true => match g args with
    | some v => some (v, h)
    | none => none
  | false => base f' args h
theorem withPure_ok {P : Program} {G : Nat → Bool} {f : FuncId} {g : List Value → Option Value} {base : Caller} (hb : CallerOk P G base) (hs : ∀ args v, g args = some v → ∀ h, CallOk P G f args h v h) : CallerOk P G (withPure f g base) := by
  intro f' args h v h' μ w args' hc hr hg ha o a next Q hn
  unfold withPure at hc
  split at hc
  · rename_i e
    obtain rfl := Nat.eq_of_beq_eq_true e
    split at hc <;> cases hc
    rename_i hv
    exact hs args v hv h μ w args' hr hg ha o a next Q hn
  · exact hb f' args h v h' μ w args' hc hr hg ha o a next Q hn
theorem FinR.drop' {K : Nat} {v v2 : Value} {h : AH} (e : v = v2) (hl : lows K h = true) (hv : clv v = true) (hn : K ≤ h.next) : FinR K v h v2 (bas K) := by
  subst e; exact FinR.drop hl hv hn
end Go.Ev
namespace Go.Ev
theorem CallsOk.call' {P : Program} {G : Nat → Bool} {E : Env} (hE : EnvFull P G E) {f : FuncId} {fn : Func} (hf : E.fn f = some fn) (hb : fn.body.isSome = true) {args : List Value} {h h' : AH} {v : Value} (hc : CallsOk P G f args h v h') : CallOk P G f args h v h' := by
  obtain ⟨hf1, hf2, _⟩ := hE.fns f fn hf
  obtain ⟨c, hcb⟩ := Option.isSome_iff_exists.1 hb
  exact CallsOk.call hf1 hf2 hcb hc
/-- two memories that hold the same -/
theorem CallsOk.same {P : Program} {G : Nat → Bool} {f : FuncId} {args : List Value} {h h' h2 : AH} {v : Value} (hc : CallsOk P G f args h v h') (hn : h2.next = h'.next) (hg : ∀ b, h2.get b = h'.get b) : CallsOk P G f args h v h2 :=
  hc.fin fun μ w v' hB hr hv => by
    refine ⟨μ, ⟨fun b _ _ => .inl rfl, fun _ _ _ h => h, by rw [hn]; exact hB, by rw [hr.nx]; exact hB, fun _ _ e => e, Nat.le_refl _, fun b r ro sz e => .inr ⟨_, _, _, e⟩, fun _ _ _ => rfl, fun b _ hs => ⟨hg b, fun _ _ _ _ => ⟨rfl, rfl⟩⟩, fun _ _ _ h => .inl h, rfl, rfl⟩, ?_, hv⟩
    exact ⟨by rw [hn]; exact hr.nx, hr.inj, fun b hb => by rw [hn]; exact hr.low b hb, fun b hb => by rw [hg]; exact hr.dead b hb, fun b r ro sz e => by rw [hg]; exact hr.dom b r ro sz e, fun b hb => by rw [hg]; exact hr.top b (by rw [← hn]; exact hb), hr.imm⟩
end Go.Ev
end
section
namespace Go.Ev
/-! loops, by what holds at their heads -/

def fz (live : List Nat) (vals : List Value) : List (Nat × Value) := live.zip vals

def subP (l1 : List (Nat × Value)) : List (Nat × Value) → Prop
  | [] => True
  | (t, v) :: l => (frL l1).get t = some v ∧ subP l1 l

theorem sel_zip (tm : Tr Value) : ∀ l : List Nat, fz l (l.map (getT tm)) = sel tm l
  | [] => rfl
  | t :: l => by have := sel_zip tm l; simp only [fz, List.map_cons, List.zip_cons_cons, sel] at this ⊢; rw [this]

section
variable {P : Program} {G : Nat → Bool} {E : Env} {call : Caller} {B N : Nat}
theorem Weak.sel {tm : Tr Value} {h : AH} (l : List Nat) : Weak G B N ⟨tm, h⟩ ⟨frL (fz l (l.map (getT tm))), h⟩ := by
  rw [sel_zip]
  exact .temps fun t v hv => sel_get hv
theorem frL_get : ∀ {l : List (Nat × Value)} {t : Nat} {v : Value}, (frL l).get t = some v → ∃ p ∈ l, p.1 = t ∧ p.2 = v
  | [], t, v, h => by simp [frL] at h
  | (u, x) :: l, t, v, h => by
    simp only [frL] at h
    rw [Tr.get_put] at h
    split at h
    · rename_i e
      simp only [Option.some.injEq] at h
      exact ⟨(u, x), by simp, e.symm, h⟩
    · obtain ⟨p, hp, h1⟩ := frL_get h
      exact ⟨p, by simp [hp], h1⟩
theorem subP_mem {l1 : List (Nat × Value)} : ∀ {l2 : List (Nat × Value)}, subP l1 l2 → ∀ p ∈ l2, (frL l1).get p.1 = some p.2
  | [], _, p, h => by cases h
  | (t, v) :: l, hs, p, h => by
    rcases List.mem_cons.1 h with rfl | h
    · exact hs.1
    · exact subP_mem hs.2 p h
/-- fewer temporaries -/
theorem Weak.sub {l1 l2 : List (Nat × Value)} {h : AH} (hs : subP l1 l2) : Weak G B N ⟨frL l1, h⟩ ⟨frL l2, h⟩ :=
  .temps fun t v hv => by
    obtain ⟨p, hp, rfl, rfl⟩ := frL_get hv
    exact .inr (subP_mem hs p hp)

/-- a loop, by what holds at its head and a number that falls -/
theorem loopT_of (hE : EnvFull P G E) (hc : CallerOk P G call) {depth : Nat} {b : Code} (hok : codeOk G N b = true) {live : List Nat} {r : Ex × List (Nat × Value) × AH} (I : Nat → List Value → AH → Prop)
    (round : ∀ n vals h, I n vals h → ∃ d, vcCode P G E call (vcInl P G E call depth) B N 100 b ⟨frL (fz live vals), h⟩ d fun ex s _ =>
      (ex = .normal ∧ ∃ m vals2 h2, m < n ∧ I m vals2 h2 ∧ Weak G B N ⟨frL (fz live (live.map (getT s.tm))), s.h⟩ ⟨frL (fz live vals2), h2⟩) ∨
      (ex ≠ .normal ∧ ex = r.1 ∧ Weak G B N ⟨frL (fz live (live.map (getT s.tm))), s.h⟩ ⟨frL r.2.1, r.2.2⟩))
    {n : Nat} {vals : List Value} {h : AH} (hi : I n vals h) : LoopT P G B N b (fz live vals) h r := by
  unfold LoopT
  induction n using Nat.strongRecOn generalizing vals h with
  | _ n ih =>
    obtain ⟨d, hv⟩ := round n vals h hi
    have h1 := (vcCode_sound hE.toEnvOk hc (vcInl_ok hE hc depth) 100 hv hok).1
    refine .go (Tri.post (h1.mono fun ex s ⟨_, hk⟩ => ?_))
    rcases hk with ⟨rfl, m, vals2, h2, hm, hI, hw⟩ | ⟨hne, hr, hw⟩
    · exact ⟨_, (Weak.sel live).trans hw, .inl ⟨rfl, ih m hm hI⟩⟩
    · exact ⟨_, (Weak.sel live).trans hw, .inr ⟨hne, hr, rfl⟩⟩
/-- with the runs' theorem: K stands for what is to hold behind a round -/
def LK (G : Nat → Bool) (B N : Nat) (live : List Nat) (r : Ex × List (Nat × Value) × AH) (I : Nat → List Value → AH → Prop) (n : Nat) (ex : Ex) (vals : List Value) (h : AH) : Prop :=
  (ex = .normal ∧ ∃ m vals2 h2, m < n ∧ I m vals2 h2 ∧ Weak G B N ⟨frL (fz live vals), h⟩ ⟨frL (fz live vals2), h2⟩) ∨
  (ex ≠ .normal ∧ ex = r.1 ∧ Weak G B N ⟨frL (fz live vals), h⟩ ⟨frL r.2.1, r.2.2⟩)
theorem loopT_K (hE : EnvFull P G E) (hc : CallerOk P G call) {depth : Nat} {b : Code} (hok : codeOk G N b = true) {live : List Nat} {r : Ex × List (Nat × Value) × AH} (I : Nat → List Value → AH → Prop)
    (round : ∀ n vals h, I n vals h → ∃ d, vcCode P G E call (vcInl P G E call depth) B N 100 b ⟨frL (fz live vals), h⟩ d fun ex s _ => LK G B N live r I n ex (live.map (getT s.tm)) s.h)
    {n : Nat} {vals : List Value} {h : AH} (hi : I n vals h) : LoopT P G B N b (fz live vals) h r := loopT_of hE hc hok I round hi
end
end Go.Ev
theorem Go.Ev.of_eq {a b : Prop} (e : a = b) (h : b) : a := e ▸ h
namespace Go.Ev
def fzL (b : Nat) (c : List Value) (l : List (Nat × Option AObj)) : List (Nat × Option AObj) := l.map fun p => (p.1, match Nat.beq p.1 b with | true => none | false => p.2.bind (fzO b c))
theorem fzL_get {b : Nat} {c : List Value} : ∀ {l : List (Nat × Option AObj)} {x : Nat}, (mkT (fzL b c l)).get x = if x = b then none else ((mkT l).get x).bind (fzO b c)
  | [], x => by simp [fzL, mkT]
  | (y, o) :: l, x => by
    have ih := fzL_get (b := b) (c := c) (l := l) (x := x)
    simp only [fzL, List.map_cons, mkT] at ih ⊢
    rw [Tr.get_put, Tr.get_put]
    by_cases e : x = y
    · subst e
      rw [if_pos rfl, if_pos rfl]
      cases hb : Nat.beq x b with
      | true => rw [if_pos (Nat.eq_of_beq_eq_true hb)]
      | false => rw [if_neg (fun e => by subst e; simp at hb)]
    · rw [if_neg e, if_neg e]; exact ih
def plainO (o : Option AObj) : Bool := match o with
  | some (.cells _ _ _ _) | some (.siter _ _) | none => true
  | _ => false
theorem mkT_mem {l : List (Nat × Option AObj)} {x : Nat} {o : AObj} (h : (mkT l).get x = some o) : ∃ p ∈ l, p.1 = x ∧ p.2 = some o := by
  induction l with
  | nil => simp [mkT] at h
  | cons p l ih =>
    obtain ⟨y, q⟩ := p
    simp only [mkT] at h
    rw [Tr.get_put] at h
    split at h
    · rename_i e; exact ⟨(y, q), by simp, e.symm, h⟩
    · obtain ⟨p, hp, h1⟩ := ih h; exact ⟨p, by simp [hp], h1⟩
/-- a block that is written no more -/
theorem FinR.freezeL {B b n : Nat} {c : List Value} {e : TypeId} {fz : Nat} {s : Bool} {l : List (Nat × Option AObj)} {v : Value} (hb : B ≤ b) (hg : (mkH n l).get b = some (.cells c e fz s)) (hc : c.all cl = true)
    (hp : l.all (fun p => plainO p.2) = true) (hk : l.all (fun p => Nat.ble B p.1 || !stoneB p.2) = true) : FinR B v (mkH n l) (fzv b c v) (mkH n (fzL b c l)) := by
  refine FinR.freeze (h2 := mkH n (fzL b c l)) ⟨hb, ⟨e, fz, s, hg⟩, fun v hv => List.all_eq_true.1 hc v hv, rfl, ?_, fun x hx => ?_, fun x hx ⟨c', e', fz', s', h1, h2⟩ => ?_⟩
  · show (mkT (fzL b c l)).get b = none
    rw [fzL_get, if_pos rfl]
  · show match (mkT l).get x with | some o => ∃ o2, fzO b c o = some o2 ∧ (mkT (fzL b c l)).get x = some o2 | none => (mkT (fzL b c l)).get x = none
    rw [fzL_get, if_neg hx]
    cases hx2 : (mkT l).get x with
    | none => rfl
    | some o =>
      obtain ⟨p, hpm, _, h2⟩ := mkT_mem hx2
      have := List.all_eq_true.1 hp p hpm
      rw [h2] at this
      cases o with
      | cells c' e' f' s' => exact ⟨_, rfl, rfl⟩
      | siter s' p' => exact ⟨_, rfl, rfl⟩
      | map a b => simp [plainO] at this
      | miter a b c d => simp [plainO] at this
  · obtain ⟨p, hpm, h3, h4⟩ := mkT_mem (show (mkT l).get x = _ from h1)
    have := List.all_eq_true.1 hk p hpm
    rw [h4, h3] at this
    simp only [Bool.or_eq_true, Nat.ble_eq, Bool.not_eq_true', stoneB] at this
    rcases this with h5 | h5
    · omega
    · cases fz' with
      | zero => omega
      | succ f =>
        simp only at h5
        have : Nat.ble c'.length f = true := by rw [Nat.ble_eq]; omega
        rw [this] at h5; cases h5
/-- a result that is a new slice, written no more; the rest is dropped -/
theorem FinR.imm {K b n m k : Nat} {c : List Value} {e : TypeId} {fz : Nat} {s : Bool} {l : List (Nat × Option AObj)} (hb : K ≤ b) (hg : (mkH n l).get b = some (.cells c e fz s)) (hc : c.all cl = true)
    (hp : l.all (fun p => plainO p.2) = true) (hk : l.all (fun p => Nat.ble K p.1) = true) (hm : m * k ≤ c.length) (hn : K ≤ n) : FinR K (.slice (some ⟨b, 0, none⟩) m k) (mkH n l) (immV c m k) (bas K) := by
  have h1 := FinR.freezeL (v := .slice (some ⟨b, 0, none⟩) m k) hb hg hc hp (by rw [List.all_eq_true] at hk ⊢; intro p hp; rw [hk p hp]; rfl)
  have e1 : fzv b c (.slice (some ⟨b, 0, none⟩) m k) = immV c m k := by
    unfold fzv
    simp [Nat.beq_refl, ble_t hm]
  rw [e1] at h1
  refine h1.trans (FinR.drop ?_ rfl hn)
  unfold lows
  rw [List.all_eq_true]
  intro x hx
  have hx : x < K := by simpa using hx
  have : (mkT (fzL b c l)).get x = none := by
    refine mkT_none fun p hp e => ?_
    obtain ⟨q, hq, rfl⟩ := List.mem_map.1 hp
    have := List.all_eq_true.1 hk q hq
    rw [Nat.ble_eq] at this
    simp only at e; omega
  show ((mkT (fzL b c l)).get x).isNone = true
  rw [this]; rfl
end Go.Ev
namespace Go.Ev
section
variable {P : Program} {G : Nat → Bool} {B N : Nat}
def renL (ρ : Nat → Nat) : List (Nat × Value) → List (Nat × Value)
  | [] => []
  | (t, v) :: l => (t, ren ρ v) :: renL ρ l
theorem renL_get {ρ : Nat → Nat} : ∀ {l : List (Nat × Value)} {t : Nat}, (frL (renL ρ l)).get t = ((frL l).get t).map (ren ρ)
  | [], t => by simp [renL, frL]
  | (u, x) :: l, t => by
    simp only [renL, frL]
    rw [Tr.get_put, Tr.get_put]
    by_cases e : t = u
    · rw [if_pos e, if_pos e]; rfl
    · rw [if_neg e, if_neg e]; exact renL_get
/-- local names may be others -/
theorem Weak.ren {ρ : Nat → Nat} {p : Nat → Bool} {σ : Nat → Option Nat} {h h2 : AH} (hk : RenOk B ρ p σ h h2) (hG : ∀ g, G g = true → g < B) {fr : List (Nat × Value)} (hv : fr.all (fun q => vq p q.2) = true) :
    Weak G B N ⟨frL fr, h⟩ ⟨frL (renL ρ fr), h2⟩ := fun μ a w hB hs => by
  obtain ⟨μ2, p1, hr2, hren, _⟩ := hk.rel hB hs.rel
  refine ⟨μ2, p1, ⟨hr2, p1.glob hG hs.glob, fun t => ?_, hs.size, hs.defers⟩⟩
  have := hs.tmps t
  simp only [ev] at this ⊢
  rw [renL_get]
  cases hg : (frL fr).get t with
  | none => exact .any _
  | some v =>
    rw [hg] at this
    obtain ⟨q, hq, h1, h2⟩ := frL_get hg
    have hvq := List.all_eq_true.1 hv q hq
    rw [h2] at hvq
    exact this.ren hren hvq
theorem Weak.keep {keep : List Nat} {h h2 : AH} {fr fr2 : List (Nat × Value)} (hG : ∀ g, G g = true → g < B) (h1 : keepOk B h.next keep = true) (hn : h2.next = B + keep.length) (hp : allP (keepP B keep h h2)) (hq : allP (keepN B keep h)) (ht : ∀ c, h2.next ≤ c → h2.get c = none) (hs : keepS B h = true)
    (hv : fr.all (fun q => vq (kP B keep) q.2) = true) (hf : renL (kRho B keep) fr = fr2) : Weak G B N ⟨frL fr, h⟩ ⟨frL fr2, h2⟩ := by
  subst hf; exact Weak.ren (keep_ok h1 hn hp hq ht hs) hG hv
theorem LoopT.pre {b : Code} {fr fr2 : List (Nat × Value)} {h h2 : AH} {r : Ex × List (Nat × Value) × AH} (hw : Weak G B N ⟨frL fr, h⟩ ⟨frL fr2, h2⟩) (hl : LoopT P G B N b fr2 h2 r) : LoopT P G B N b fr h r := TriL.pre hw hl
end
theorem renO_cl {ρ : Nat → Nat} {c : List Value} {e : TypeId} {fz : Nat} {s : Bool} (h : c.all cl = true) : renO ρ (.cells c e fz s) = .cells c e fz s := by simp only [renO, cls_ren h]
theorem FinR.keep {B : Nat} {keep : List Nat} {h h2 : AH} {v v2 : Value} (h1 : keepOk B h.next keep = true) (hn : h2.next = B + keep.length) (hp : allP (keepP B keep h h2)) (hq : allP (keepN B keep h)) (ht : ∀ c, h2.next ≤ c → h2.get c = none) (hs : keepS B h = true)
    (hv : vq (kP B keep) v = true) (hf : Ev.ren (kRho B keep) v = v2) : FinR B v h v2 h2 := by
  subst hf; exact FinR.ren (keep_ok h1 hn hp hq ht hs) hv
end Go.Ev
end
section
namespace Go.Ev
/-! what is above a bound is dropped -/
mutual
theorem vb_vq {p : Nat → Bool} {B : Nat} (h : ∀ b, b < B → p b = true) : ∀ {v : Value}, vb B v = true → vq p v = true
  | .pointer (some a), hv => by simp only [vb, Nat.blt_eq] at hv; simp only [vq, h _ hv]
  | .slice (some a) _ _, hv => by simp only [vb, Nat.blt_eq] at hv; simp only [vq, h _ hv]
  | .map (some r), hv => by simp only [vb, Nat.blt_eq] at hv; simp only [vq, h _ hv]
  | .func f ⟨a⟩ ⟨b⟩, hv => by
    cases f with
    | yield m => rfl
    | _ => simp only [vb, Bool.and_eq_true] at hv; simp only [vq, vbs_vqs h hv.1, vbs_vqs h hv.2, Bool.and_self]
  | .iface _ v, hv => by simp only [vb] at hv; simp only [vq, vb_vq h hv]
  | .agg ⟨a⟩, hv => by simp only [vb] at hv; simp only [vq, vbs_vqs h hv]
  | .tuple ⟨a⟩, hv => by simp only [vb] at hv; simp only [vq, vbs_vqs h hv]
  | .pointer none, _ => rfl
  | .slice none _ _, _ => rfl
  | .map none, _ => rfl
  | .bool _, _ => rfl
  | .int _ _, _ => rfl
  | .string _, _ => rfl
  | .float _ _, _ => rfl
  | .complex _ _ _, _ => rfl
  | .chan _, _ => rfl
  | .nilFunc, _ => rfl
  | .nilIface, _ => rfl
theorem vbs_vqs {p : Nat → Bool} {B : Nat} (h : ∀ b, b < B → p b = true) : ∀ {l : List Value}, vbs B l = true → vqs p l = true
  | [], _ => rfl
  | v :: l, hv => by
    simp only [vbs, Bool.and_eq_true] at hv
    simp only [vqs, vb_vq h hv.1, vbs_vqs h hv.2, Bool.and_self]
end
theorem ob_oq {p : Nat → Bool} {B : Nat} (h : ∀ b, b < B → p b = true) {o : AObj} (ho : ob B o = true) : oq p o = true := by
  cases o with
  | cells c e fz s => exact vbs_vqs h ho
  | siter s p => rfl
  | map es cl =>
    simp only [ob, List.all_eq_true] at ho
    simp only [oq, List.all_eq_true]
    exact fun e he => vb_vq h (ho e he)
  | miter m since seen st =>
    cases m with
    | none => rfl
    | some b => simp only [ob, Nat.blt_eq] at ho; exact h b ho
theorem renO_below {ρ : Nat → Nat} {B : Nat} (h : ∀ b, b < B → ρ b = b) {o : AObj} (ho : ob B o = true) : renO ρ o = o := by
  cases o with
  | cells c e fz s => simp only [renO, rens_below h (show vbs B c = true from ho)]
  | siter s p => rfl
  | map es cl =>
    simp only [ob, List.all_eq_true] at ho
    simp only [renO]
    congr 1
    conv => rhs; rw [← List.map_id es]
    refine List.map_congr_left fun e he => ?_
    simp only [renE, ren_below h (ho e he), id]
  | miter m since seen st =>
    cases m with
    | none => rfl
    | some b => simp only [ob, Nat.blt_eq] at ho; simp only [renO, Option.map_some, h b ho]
theorem FinR.low {B : Nat} {v v2 : Value} {h h2 : AH} (ev : v = v2) (hn : h2.next = B) (hp : allP ((List.range B).map fun b => h2.get b = h.get b)) (ho : (List.range B).all (fun b => obB B (h.get b)) = true) (ht : ∀ b, B ≤ b → h2.get b = none) (hv : vb B v = true) : FinR B v h v2 h2 := by
  subst ev
  have lowB : ∀ {b}, b < B → Nat.blt b B = true := fun h => by rw [Nat.blt_eq]; exact h
  have e1 : ∀ b, b < B → kSig B [] b = some b := fun b hb => by unfold kSig; rw [lowB hb]
  have hid : ∀ b, b < B → kRho B [] b = b := fun b hb => by unfold kRho; rw [lowB hb]
  have hkp : ∀ b, b < B → kP B [] b = true := fun b hb => by unfold kP; rw [lowB hb]; rfl
  have hob : ∀ b o, b < B → h.get b = some o → ob B o = true := fun b o hb e => by
    have := List.all_eq_true.1 ho b (by rw [List.mem_range]; exact hb)
    rw [e] at this; exact this
  have hge : ∀ b, b < B → h2.get b = h.get b := fun b hb => allP_mem hp _ (List.mem_map.2 ⟨b, by rw [List.mem_range]; exact hb, rfl⟩)
  have mapP : ∀ (f : Nat → Prop) (l : List Nat), (∀ c ∈ l, f c) → allP (l.map f) := by
    intro f l
    induction l with
    | nil => intro _; trivial
    | cons c l ih => intro hl; exact ⟨hl c (by simp), ih fun c hc => hl c (by simp [hc])⟩
  have hk : RenOk B (kRho B []) (kP B []) (kSig B []) h h2 := by
    refine keep_ok (by simp [keepOk]) (by simp [hn]) ?_ ?_ (fun c hc => ht c (by omega)) ?_
    · refine mapP _ _ fun c hc => ?_
      have hc : c < B := by simpa using hc
      simp only [e1 c hc]
      rw [hge c hc]
      cases hg : h.get c with
      | none => rfl
      | some o => simp only [Option.map_some, renO_below hid (hob c o hc hg)]
    · refine mapP _ _ fun c hc => ?_
      have hc : c < B := by simpa using hc
      simp only [e1 c hc]
      cases hg : h.get c with
      | none => trivial
      | some o => exact ob_oq hkp (hob c o hc hg)
    · unfold keepS
      rw [List.all_eq_true]
      intro c hc
      have hc : c < B := by simpa using hc
      cases hg : h.get c with
      | none => rfl
      | some o =>
        have := hob c o hc hg
        cases o with
        | cells c' e f s => simp only [stoneN, show vbs B c' = true from this, Bool.or_true]
        | _ => rfl
  have := FinR.ren hk (v := v) (vb_vq hkp hv)
  rw [ren_below hid hv] at this; exact this
end Go.Ev
namespace Go.Ev
theorem load1 {E : Env} {t : TypeId} {b off : Nat} {h : AH} {l : List Value} {e : TypeId} {fz : Nat} {s : Bool} {i : TI} {v : Value} (ht : E.ti t = some i) (ha : i.agg = false) (hg : h.get b = some (.cells l e fz s)) (hl : l[off]? = some v) :
    aop E (.load t (.const (.pointer (some ⟨b, off, none⟩)))) .leaf h = some (.read v) := by
  have : aop E (.load t (.const (.pointer (some ⟨b, off, none⟩)))) .leaf h = loadA E t (.pointer (some ⟨b, off, none⟩)) h := rfl
  rw [this]
  simp only [loadA, aload, ht, ha, AH.cell, hg, hl]
theorem loadN {E : Env} {t : TypeId} {b off : Nat} {h : AH} {l : List Value} {e : TypeId} {fz : Nat} {s : Bool} {i : TI} {m : List Value} (ht : E.ti t = some i) (ha : i.agg = true) (hg : h.get b = some (.cells l e fz s)) (hn : off + i.size ≤ l.length) (hl : (l.drop off).take i.size = m) :
    aop E (.load t (.const (.pointer (some ⟨b, off, none⟩)))) .leaf h = some (.read (.agg ⟨m⟩)) := by
  have : aop E (.load t (.const (.pointer (some ⟨b, off, none⟩)))) .leaf h = loadA E t (.pointer (some ⟨b, off, none⟩)) h := rfl
  rw [this]
  have hb : Nat.ble (off + i.size) l.length = true := by rw [Nat.ble_eq]; exact hn
  simp only [loadA, aload, ht, ha, AH.cellsAt, hg, hb, hl]
end Go.Ev
namespace Go.Ev
theorem frH_top {K : Nat} {em : List Nat} {h h0 h0' : AH} (he : embOk K h.next em = true) (ht : ∀ b, h.next ≤ b → h.get b = none) {b : Nat} (hb : (frH K em h h0 h0').next ≤ b) : (frH K em h h0 h0').get b = none := by
  have hb : h.next + (h0'.next - (K + em.length)) ≤ b := hb
  unfold embOk at he
  simp only [Bool.and_eq_true, List.all_eq_true, Nat.ble_eq, Nat.blt_eq, beq_iff_eq] at he
  show (putsF _ _ _ _).get b = none
  rw [get_puts, get_puts]
  · exact ht b (by omega)
  · intro p hp e
    unfold emK at hp
    obtain ⟨q, hq, rfl⟩ := List.mem_map.1 hp
    have hq := (List.mem_filter.1 hq).1
    have := List.mem_zipIdx_iff_getElem?.1 (show (q.1, q.2) ∈ em.zipIdx from hq)
    have := (he.1 q.1 (List.mem_of_getElem? this)).2
    simp only at e; omega
  · intro p hp e
    obtain ⟨j, hj, rfl⟩ := List.mem_map.1 hp
    have : j < h0'.next - (K + em.length) := by simpa using hj
    simp only at e; omega
theorem CallsOk.at2 {P : Program} {K : Nat} {em : List Nat} {f : FuncId} {args args2 : List Value} {v v2 : Value} {h0 h0' h h2 : AH} (hc : CallsOk P (below K) f args h0 v h0')
    (hn : h0.next = K + em.length) (hle : Nat.ble h0.next h0'.next = true) (hl : lows K h0 = true) (ht : ∀ b, h0.next ≤ b → h0.get b = none) (he : embOk K h.next em = true) (hp : allP (embP K em h0 h))
    (hob : (List.range em.length).all (fun i => (h0.get (K + i)).isSome && obB h0.next (h0.get (K + i))) = true)
    (hoq : (List.range (h0'.next - K)).all (fun i => oqB (fun b => Nat.ble K b) (h0'.get (K + i))) = true) (hl' : lows K h0' = true) (ht' : ∀ b, h0'.next ≤ b → h0'.get b = none) (hK : Nat.ble K h.next = true)
    (ha : vbs h0.next args = true) (hv : vq (fun b => Nat.ble K b) v = true)
    (ea : rens (fRho K em h.next) args = args2) (ev : ren (fRho K em h.next) v = v2) (hn2 : h2.next = h.next + (h0'.next - (K + em.length)))
    (hg : allP ((List.range h2.next).map fun b => h2.get b = (frH K em h h0 h0').get b)) (ht2 : ∀ b, h2.next ≤ b → h2.get b = none) (hth : ∀ b, h.next ≤ b → h.get b = none) : CallsOk P (below K) f args2 h v2 h2 := by
  rw [Nat.ble_eq] at hle hK
  have := hc.at_ hn hle hl ht he hp hob hoq hl' ht' hK ha hv
  rw [ea, ev] at this
  refine this.same hn2 fun b => ?_
  by_cases hb : b < h2.next
  · exact allP_mem hg _ (List.mem_map.2 ⟨b, by rw [List.mem_range]; exact hb, rfl⟩)
  · rw [ht2 b (by omega), frH_top he hth (by show h.next + (h0'.next - (K + em.length)) ≤ b; omega)]
end Go.Ev
end
section
/-! laws: from a promise over no memory to what a row asks -/
namespace Go.Ev
open Go.ChangeShapes Go.WideShapes Go.ChangeAt Go.RowKit
/-- what is left of a call that writes to no elder block -/
structure Stays (W W' : World) : Prop where
  os : W'.os = W.os
  output : W'.output = W.output
  block : ∀ k, k < W.heap.size → W'.heap[k]? = W.heap[k]?
theorem Stays.same {W W' : World} (h : Stays W W') {p : MemPlace} (hp : p.block < W.heap.size) : W.sameAt W' p := by
  cases p with
  | cell b o => exact World.cell?_of_block (w := W) (h.block b hp)
  | map b => exact h.block b hp
theorem Stays.frame {W W' : World} (h : Stays W W') (may : MemPlace → Prop) : W.keptBut W' may := by
  refine ⟨h.os, h.output, fun i hi => ?_⟩
  rw [h.block i hi]
  split <;> simp_all
/-- nothing of the program's memory is known -/
def mu0 (K : Nat) : Mu := ⟨K, ⟨fun b => match Nat.blt b K with | true => .dead | false => .no, fun _ _ _ => False⟩⟩
theorem mu0_not (K b r ro sz : Nat) : mu0 K b ≠ .at_ r ro sz := by
  show (match Nat.blt b K with | true => Pl.dead | false => .no) ≠ _
  cases Nat.blt b K <;> exact fun h => by cases h
theorem mu0_rel (K : Nat) (W : World) : Rel (mu0 K) (bas K) W := by
  refine ⟨rfl, fun b c r ro sz ro' sz' e => absurd e (mu0_not _ _ _ _ _), fun b hb => ?_, fun b _ => rfl, fun b r ro sz e => absurd e (mu0_not _ _ _ _ _), fun b _ => rfl, fun r i v h => False.elim h⟩
  show b < K
  have hb : (match Nat.blt b K with | true => Pl.dead | false => .no) ≠ .no := hb
  cases e : Nat.blt b K with
  | true => rwa [Nat.blt_eq] at e
  | false => rw [e] at hb; exact absurd rfl hb
theorem mu0_gr (K : Nat) : GR (below K) (mu0 K) := fun g hg => by
  have hg : Nat.blt g K = true := hg
  refine ⟨⟨?_, ?_⟩, fun r ro sz e => absurd e (mu0_not _ _ _ _ _)⟩
  · show g < K; rwa [Nat.blt_eq] at hg
  · show (match Nat.blt g K with | true => Pl.dead | false => .no) ≠ .no
    rw [hg]; exact fun h => by cases h
theorem CallsOk.law {P : Program} {K : Nat} {f : FuncId} {args args' : List Value} (hc : CallsOk P (below K) f args (bas K) (.bool true) (bas K)) (W : World) (ha : VRs (mu0 K) args args') :
    Calls P f ⟨args'⟩ W fun e W' => e = .returned (.bool true) ∧ Stays W W' := by
  refine (hc (mu0 K) W args' (mu0_rel K W) (mu0_gr K) ha).mono fun e w' he => ?_
  cases e with
  | returned v' =>
    obtain ⟨μ', p, hv⟩ := he
    refine ⟨by rw [hv.bool], p.still.1, p.still.2, fun k hk => p.frame k hk fun b ro sz => mu0_not _ _ _ _ _⟩
  | panicked _ => exact he.elim
  | outgrown => exact he.elim
theorem trodAll_stays {H : Type} {enc : TypeId × Value → H} {P : Program} (hl : laidOutB P = true) {W W' : World} (hs : Stays W W') {sp' : Nat → Bool} (hsp : ∀ b, b < W.heap.size → sp' b = true) : ∀ {ts : List TypeId} {vs : List Value} {ds : List (DataW H)} {ps : List MemPlace},
    (∀ t ∈ ts, P.readableRec t = true ∧ t < P.types.size) → DataW.TrodAll enc P W 0 (fun _ => true) true ts vs ds ps → (∀ p ∈ ps, p.block < W.heap.size) → DataW.TrodAll enc P W' 0 sp' true ts vs ds ps
  | [], vs, ds, ps, _, h, _ => by
    obtain ⟨rfl, rfl, rfl⟩ := trodAll_nil h
    exact trodAll_mk0
  | t :: ts, vs, ds, ps, ht, h, hp => by
    obtain ⟨v, vs', d, ds', p, q, rfl, rfl, rfl, h0, hr⟩ := trodAll_cons h
    have ht0 := ht t (by simp)
    exact trodAll_cons_mk (WideElems.Trod_stays hl ht0.1 ht0.2 h0 (fun x hx => hs.same (hp x (by simp [hx]))) (fun x hx => hsp _ (hp x (by simp [hx]))))
      (trodAll_stays hl hs hsp (fun t h => ht t (by simp [h])) hr (fun x hx => hp x (by simp [hx])))
theorem law_post {H : Type} {enc : TypeId × Value → H} {P : Program} {fn : Func} {s : ChangeSpec} {tb : TypeId} {W W' : World} {args : Array Value} {ds gs : List (DataW H)} {before : List MemPlace}
    (hl : laidOutB P = true) (hts : ∀ t ∈ fn.params.toList, P.readableRec t = true ∧ t < P.types.size) (hr : fn.resultTypes = #[tb]) (hb : P.underlying tb = some .bool) (hv : s.vars = [])
    (hW : DataW.Whole enc P fn.params.toList s.vars false W args.toList ds gs before) (hs : Stays W W') (h1 : (s.fn H (ds ++ gs)).results = [.lit (.bool true)]) (h2 : (s.fn H (ds ++ gs)).args = ds) (h3 : (s.fn H (ds ++ gs)).vars = []) :
    s.post enc P fn false true false false W args (.bool true) W' := by
  have hlt : ∀ p ∈ before, p.block < W.heap.size := fun p hp => by simpa using hW.lt p hp
  have hW2 := hW
  obtain ⟨p, q, hA, hV, rfl, hfz, hnd⟩ := hW
  rw [hv] at hV
  obtain ⟨rfl, rfl⟩ := trodVars_none hV
  refine ⟨ds, [], p ++ [], [], p, [], hW2, ?_, ?_, ?_, hs.frame _, fun h => by cases h⟩
  · rw [h1, hr]
    exact trodAll_cons_mk (shut_bool hb true) trodAll_mk0
  · rw [h2]
    exact trodAll_stays hl hs (fun b hb => by simpa using hb) hts hA (fun x hx => hlt x (by simp [hx]))
  · rw [h3, hv]; rfl
end Go.Ev
end
