/- Proved here, with the other texts of this claim: the law TermNone of package marqueelaw18 answers true for every input, and each argument reads behind the call as before; without any condition. These texts hold an evaluator of the program's code over memories of which a part is known, its soundness, and the walks of the functions that the law calls. -/
import Derived.Test.YtoaniefcobkaiaaGreatDoorA
import Derived.Scope
import Derived.LoopN
import Derived.Orders
section
namespace Go.Ev
section
variable {P : Program} {E : Env} {μ : Mu} {h : AH} {w : World}

theorem firstA_len {size n : Nat} {x : Value} {cs : List Value} (hf : firstA h size n x = some cs) : cs = [] ∨ ((∃ a l k, x = .slice (some a) l k) ∨ (∃ c l k, x = immV c l k)) ∧ cs.length = n * size ∨ ∃ s, x = .string s := by
  unfold firstA at hf
  split at hf
  · split at hf <;> cases hf
    rename_i hb
    simp only [Bool.and_eq_true, Nat.ble_eq] at hb
    exact .inr (.inl ⟨.inr ⟨_, _, _, rfl⟩, by simp; omega⟩)
  · unfold AH.cellsAt at hf
    split at hf <;> try (cases hf; done)
    split at hf <;> cases hf
    rename_i hle
    have hle := Nat.le_of_ble_eq_true hle
    exact .inr (.inl ⟨.inl ⟨_, _, _, rfl⟩, by simp; omega⟩)
  · cases hf; exact .inl rfl
  · exact .inr (.inr ⟨_, rfl⟩)
  · cases hf

theorem copy_sound (hE : TIs P E) (hr : Rel μ h w) {ts : List TypeId} {args args' : List Value} {r : AR} (ty : TypeId) (ha : copyA E ts args h = some r) (hv : VRs μ args args') :
    ∃ v h', r = .eff v h' ∧ EffOk μ h w ((Builtin.copy_ ⟨ts⟩ ty ⟨args'⟩).run P w) v h' := by
  unfold copyA at ha
  split at ha <;> try (cases ha; done)
  rename_i dt rest base len k x
  cases hv with | cons _ s' _ l1 hs hv1 =>
  cases hv1 with | cons _ x' _ l2 hx hv2 =>
  cases hv2
  split at ha <;> try (cases ha; done)
  rename_i di n hdt hln
  split at ha <;> try (cases ha; done)
  rename_i e hd
  split at ha <;> try (cases ha; done)
  rename_i ei hei
  split at ha <;> try (cases ha; done)
  rename_i cs hcs
  have hlen' := lenOf_sound (P := P) (w := w) hln hx
  obtain ⟨cs', g1, g2⟩ := first_sound (P := P) hr hcs hx (fun m hm h0 => by rw [hln] at hm; cases hm; rw [h0]; exact Nat.zero_min _)
  have e0 : (Array.mk (dt :: rest))[0]? = some dt := rfl
  have e2 : (Array.mk [s', x'])[0]? = some s' := rfl
  have e3 : (Array.mk [s', x'])[1]? = some x' := rfl
  have hrun : ∀ base' cap w', s' = .slice base' len cap → (match base' with | some a => storeCells a cs' | none => pure ()).run P w = .ok () w' → (Builtin.copy_ ⟨dt :: rest⟩ ty ⟨[s', x']⟩).run P w = .ok (.int .i64 (Nat.min n len : Nat)) w' := by
    intro base' cap w' hs' hst
    subst hs'
    unfold Builtin.copy_
    simp only [e0, e2, e3, Sem.run_bind, hE.und hdt, hd, Result.andThen_ok, hlen', hE.size hei, g1]
    cases base' with
    | none => simp only [Sem.run_pure] at hst; cases hst; rfl
    | some a => simp only [] at hst ⊢; simp only [Sem.run_bind, hst, Result.andThen_ok, Sem.run_pure]; rfl
  cases base with
  | none =>
    simp only [] at ha
    cases ha
    obtain ⟨rfl, rfl, rfl⟩ := hs.nilSlice
    exact ⟨_, _, rfl, _, w, μ, hrun none 0 w rfl rfl, Post.refl hr, .lit _ rfl⟩
  | some a =>
    simp only [] at ha
    split at ha <;> cases ha
    rename_i h' hst
    obtain ⟨a', cap, rfl, q1, q2, q3, q4⟩ := hs.sliceI
    obtain ⟨w', s1, s2⟩ := store_cells (P := P) (p' := a') hr hst g2 q1 q2 (fun hne r ro sz hm => by
      rcases q4 r ro sz hm with ⟨h1, _⟩ | ⟨h1, _⟩
      · exact h1
      · exfalso
        subst h1
        have hmin : Nat.min n 0 = 0 := Nat.min_zero n
        rw [hmin] at hcs
        rcases firstA_len hcs with h | ⟨_, h⟩ | ⟨s, rfl⟩
        · exact hne h
        · simp at h; exact hne h
        · simp [firstA] at hcs; exact hne hcs)
    exact ⟨_, _, rfl, _, w', μ, hrun (some a') cap w' rfl s1, s2, .lit _ rfl⟩

theorem clear_sound (hE : TIs P E) (hr : Rel μ h w) {ts : List TypeId} {args args' : List Value} {r : AR} (ty : TypeId) (ha : clearA E ts args h = some r) (hv : VRs μ args args') :
    ∃ v h', r = .eff v h' ∧ EffOk μ h w ((Builtin.clear_ ⟨ts⟩ ty ⟨args'⟩).run P w) v h' := by
  unfold clearA at ha
  split at ha <;> try (cases ha; done)
  rename_i t rest base len k
  cases hv with | cons _ s' _ l1 hs hv1 =>
  cases hv1
  split at ha <;> try (cases ha; done)
  rename_i i hi
  have e0 : (Array.mk (t :: rest))[0]? = some t := rfl
  have e1 : (Array.mk [s'])[0]? = some s' := rfl
  split at ha
  · rename_i e a hd
    split at ha <;> try (cases ha; done)
    rename_i ei hei
    split at ha <;> try (cases ha; done)
    rename_i z hz
    split at ha <;> cases ha
    rename_i h' hst
    obtain ⟨a', cap, rfl, q1, q2, q3, q4⟩ := hs.sliceI
    by_cases hl0 : len = 0
    · subst hl0
      have hv0 : VRs μ (zeros z 0) [] := by simp [zeros]; exact .nil
      obtain ⟨w', s1, s2⟩ := store_cells (P := P) (p' := a') hr hst hv0 q1 q2 (fun hne => absurd rfl hne)
      have : w' = w := by simp [storeCells] at s1; exact s1.symm
      subst this
      refine ⟨_, _, rfl, _, w', μ, ?_, s2, VR.undef⟩
      unfold Builtin.clear_
      simp only [e0, e1, Sem.run_bind, hE.und hi, hd, Result.andThen_ok]
      rfl
    · have hzs : VRs μ (zeros z len) (zeros z len) := VRs.lits fun v hv => hE.zmem hei hz v (zeros_mem hv)
      obtain ⟨w', s1, s2⟩ := store_cells (P := P) (p' := a') hr hst hzs q1 q2 (fun hne r ro sz hm => by
        rcases q4 r ro sz hm with ⟨h1, _⟩ | ⟨h1, _⟩
        · exact h1
        · omega)
      refine ⟨_, _, rfl, _, w', μ, ?_, s2, VR.undef⟩
      unfold Builtin.clear_
      obtain ⟨len, rfl⟩ : ∃ m, len = m + 1 := ⟨len - 1, by omega⟩
      have hzc : (Builtin.zeroCells z.cells (len + 1)).toList = zeros z (len + 1) := by
        apply List.ext_getElem?
        intro j
        have hsz : (Builtin.zeroCells z.cells (len + 1)).toList.length = (len + 1) * (cellsOf z).length := by simp [Builtin.zeroCells, cells_eq]
        by_cases hj : j < (len + 1) * (cellsOf z).length
        · rw [zeros_get _ _ _ hj]
          have h0 : 0 < (cellsOf z).length := by
            rcases Nat.eq_zero_or_pos (cellsOf z).length with h | h
            · rw [h] at hj; simp at hj
            · exact h
          have hm : j % (cellsOf z).length < (cellsOf z).length := Nat.mod_lt _ h0
          simp only [Builtin.zeroCells, cells_eq z]
          simp [hj, hm]
        · rw [List.getElem?_eq_none (by omega), List.getElem?_eq_none (by rw [zeros_length]; omega)]
      simp only [e0, e1, Sem.run_bind, hE.und hi, hd, Result.andThen_ok, hE.zero hei hz, hzc, s1, Sem.run_pure]
      rfl
  · rename_i e hd
    cases ha
    obtain ⟨rfl, rfl, rfl⟩ := hs.nilSlice
    refine ⟨_, _, rfl, _, w, μ, ?_, Post.refl hr, VR.undef⟩
    unfold Builtin.clear_
    simp only [e0, e1, Sem.run_bind, hE.und hi, hd, Result.andThen_ok]
    rfl
  · cases ha

theorem setObj_heap {r : Nat} {o₂ : Obj} {w w' : World} (e : w' = { w with heap := w.heap.setIfInBounds r o₂ }) (hlt : r < w.heap.size) : w'.heap.size = w.heap.size ∧ w'.heap[r]? = some o₂ ∧ ∀ r', r' ≠ r → w'.heap[r']? = w.heap[r']? := by
  subst e
  refine ⟨by simp, by simp [hlt], fun r' hr' => ?_⟩
  simp only
  rw [Array.getElem?_setIfInBounds_ne (fun e => hr' e.symm)]

theorem not_stone_map {b : Nat} {es : List MapEntry} {c : Nat} (hg : h.get b = some (.map es c)) : ¬ Stone h b := by
  rintro ⟨c', e', fz', s', h1, h2⟩
  rw [hg] at h1; cases h1
theorem not_stone_siter {b : Nat} {s : ByteArray} {p : Nat} (hg : h.get b = some (.siter s p)) : ¬ Stone h b := by
  rintro ⟨c', e', fz', s', h1, h2⟩
  rw [hg] at h1; cases h1
theorem not_stone_miter {b : Nat} {m : Option Nat} {s l : Nat} {seen : List Nat} (hg : h.get b = some (.miter m s seen l)) : ¬ Stone h b := by
  rintro ⟨c', e', fz', s', h1, h2⟩
  rw [hg] at h1; cases h1

theorem bytes_beq {a b : ByteArray} (hb : (a == b) = true) : a = b := by
  rw [beq_toListBytes] at hb
  have := eq_of_beq hb
  rw [ByteArray.toList_eq, ByteArray.toList_eq] at this
  obtain ⟨⟨x⟩⟩ := a
  obtain ⟨⟨y⟩⟩ := b
  simp at this
  rw [this]
theorem keyEq_eq {d : TypeDesc} {a b : Value} (hk : keyEq d a b = some true) : a = b := by
  unfold keyEq at hk
  split at hk
  · split at hk
    · rename_i hd
      have h1 := of_decide_eq_true hd
      simp at hk
      rw [h1, hk]
    · cases hk
  · simp at hk; rw [bytes_beq hk]
  · simp at hk; rw [hk]
  · cases hk
theorem sameBits_lit {d : TypeDesc} {k : Value} (hk : plainKey d k = true) : Instr.sameBits 10000 k k = true := by
  unfold plainKey at hk
  split at hk
  · simp [Instr.sameBits]
  · simp [Instr.sameBits, beq_toListBytes]
  · simp [Instr.sameBits]
  · cases hk
theorem find_key {d : TypeDesc} {k : Value} : ∀ {es : List MapEntry} {i j : Nat} {v : Value}, findA d k es i = some (some (j, v)) → ∃ e, es[j - i]? = some e ∧ e.key = k ∧ e.val = v ∧ i ≤ j
  | [], _, _, _, h => by simp [findA] at h
  | e :: es, i, j, v, h => by
    unfold findA at h
    split at h
    · rename_i hke
      cases h
      exact ⟨e, by simp, (keyEq_eq hke).symm, rfl, Nat.le_refl _⟩
    · obtain ⟨f, h1, h2, h3, h4⟩ := find_key h
      refine ⟨f, ?_, h2, h3, by omega⟩
      rw [show j - i = (j - (i + 1)) + 1 by omega]; simpa using h1
    · cases h

theorem modify_mk {α : Type} (l : List α) (i : Nat) (f : α → α) : (Array.mk l).modify i f = ⟨l.modify i f⟩ := by
  apply Array.ext'
  simp

/-- entries written in their place, or behind -/
theorem mapUpdate_sound (hE : TIs P E) (hr : Rel μ h w) {t : TypeId} {m m' k k' v v' : Value} {r : AR} (ha : mapUpdateA E t m k v h = some r) (hm : VR μ m m') (hk : VR μ k k') (hv : VR μ v v') :
    ∃ h' w', r = .eff undef h' ∧ (Instr.mapUpdate t m' k' v').run P w = .ok () w' ∧ Post μ h w μ h' w' := by
  unfold mapUpdateA at ha
  split at ha <;> try (cases ha; done)
  rename_i i b hi
  obtain ⟨r0, rfl, hb⟩ := hm.mapI
  split at ha <;> try (cases ha; done)
  rename_i kt et hd
  split at ha <;> try (cases ha; done)
  rename_i ki es c hki hg
  have hns := not_stone_map hg
  obtain ⟨es', hw, hlen, hent, sz, hmu⟩ := map_lies hr hg hb
  have hlt : r0 < w.heap.size := (Array.getElem?_eq_some_iff.1 hw).1
  have hget := run_getObj_ok (P := P) hw (by intro c e f h; cases h)
  have hset := fun o₂ => run_setObj_ok (P := P) (o₂ := o₂) hw (by intro c e f h; cases h)
  have fin : ∀ es2 es2' c2, es2.length = es2'.length → (∀ (j : Nat) (e : MapEntry), es2[j]? = some e → ∃ e', es2'[j]? = some e' ∧ EntR μ e e') →
      Post μ h w μ (h.put b (some (.map es2 c2))) { w with heap := w.heap.setIfInBounds r0 (.map ⟨es2'⟩ c2) } := by
    intro es2 es2' c2 h1 h2
    obtain ⟨s1, s2, s3⟩ := setObj_heap (w := w) (r := r0) (o₂ := .map ⟨es2'⟩ c2) rfl hlt
    refine Post.put hr hg hns s1 (fun r' hr' => s3 r' fun e => hr' 0 sz (by rw [e]; exact hmu)) (fun r' ro' sz' hm' => ?_)
    rw [hmu] at hm'; cases hm'
    exact ⟨_, s2, .map _ _ _ rfl h1 h2⟩
  split at ha
  · rename_i j u hpk hf
    cases ha
    obtain ⟨rfl, hkl⟩ := plainKey_eq hpk hk
    obtain ⟨r', g1, g2⟩ := find_sound hf hlen hent
    cases r' with
    | none => exact g2.elim
    | some q =>
      obtain ⟨j', u'⟩ := q
      obtain ⟨rfl, g3, _, _⟩ := g2
      obtain ⟨f, f1, f2, f3, _⟩ := find_key hf
      obtain ⟨f', f4, f5, _⟩ := hent j f (by simpa using f1)
      have hkey : ((Array.mk es')[j]?.map (·.key)).getD k' = k' := by
        have : (Array.mk es')[j]? = some f' := by simpa using f4
        rw [this]; simp [← f5, f2]
      refine ⟨_, _, rfl, ?_, fin (es.modify j fun e => { e with key := k', val := v }) (es'.modify j fun e => { e with key := k', val := v' }) c (by simp [hlen]) (fun q e he => ?_)⟩
      · unfold Instr.mapUpdate
        simp only [Sem.run_bind, hE.und hi, hd, Result.andThen_ok, hget, checkKey_tt hE hki hpk, findKey_sound hE hki g1, hkey, Instr.keyThatStays, sameBits_lit hpk, if_true, Sem.run_pure, modify_mk, hset]
      · rw [List.getElem?_modify] at he
        obtain ⟨e0, h1, rfl⟩ := Option.map_eq_some_iff.1 he
        obtain ⟨e', h2, h3, h4, h5, h6⟩ := hent q e0 h1
        refine ⟨_, by rw [List.getElem?_modify, h2]; rfl, ?_⟩
        by_cases hq : j = q
        · simp only [hq, if_true]; exact ⟨rfl, hkl, hv, h6⟩
        · simp only [hq, if_false]; exact ⟨h3, h4, h5, h6⟩
  · rename_i hpk hf
    cases ha
    obtain ⟨rfl, hkl⟩ := plainKey_eq hpk hk
    obtain ⟨r', g1, g2⟩ := find_sound hf hlen hent
    cases r' with
    | some q => exact g2.elim
    | none =>
      refine ⟨_, _, rfl, ?_, fin (es ++ [{ key := k', val := v, born := c }]) (es' ++ [{ key := k', val := v', born := c }]) (c + 1) (by simp [hlen]) (fun q e he => ?_)⟩
      · unfold Instr.mapUpdate
        have hp : (Array.mk es').push { key := k', val := v', born := c } = ⟨es' ++ [{ key := k', val := v', born := c }]⟩ := by apply Array.ext'; simp
        simp only [Sem.run_bind, hE.und hi, hd, Result.andThen_ok, hget, checkKey_tt hE hki hpk, findKey_sound hE hki g1, hp, hset]
      · rcases Nat.lt_or_ge q es.length with hq | hq
        · rw [List.getElem?_append_left hq] at he
          rw [List.getElem?_append_left (by omega)]
          exact hent q e he
        · rw [List.getElem?_append_right hq] at he
          rw [List.getElem?_append_right (by omega), ← hlen]
          cases hqq : q - es.length with
          | zero => rw [hqq] at he; simp at he; subst he; exact ⟨_, rfl, rfl, hkl, hv, rfl⟩
          | succ x => rw [hqq] at he; simp at he
  · cases ha

theorem eraseIdx_mk {α : Type} (l : List α) (i : Nat) : (Array.mk l).eraseIdxIfInBounds i = ⟨l.eraseIdx i⟩ := by
  apply Array.ext'
  simp

theorem delete_sound (hE : TIs P E) (hr : Rel μ h w) {ts : List TypeId} {args args' : List Value} {r : AR} (ty : TypeId) (ha : deleteA E ts args h = some r) (hv : VRs μ args args') :
    ∃ v h', r = .eff v h' ∧ EffOk μ h w ((Builtin.delete_ ⟨ts⟩ ty ⟨args'⟩).run P w) v h' := by
  unfold deleteA at ha
  split at ha <;> try (cases ha; done)
  rename_i t rest m k
  cases hv with | cons _ m' _ l1 hm hv1 =>
  cases hv1 with | cons _ k' _ l2 hk hv2 =>
  cases hv2
  split at ha <;> try (cases ha; done)
  rename_i i b hi
  obtain ⟨r0, rfl, hb⟩ := hm.mapI
  split at ha <;> try (cases ha; done)
  rename_i kt et hd
  split at ha <;> try (cases ha; done)
  rename_i ki es c hki hg
  have hns := not_stone_map hg
  obtain ⟨es', hw, hlen, hent, sz, hmu⟩ := map_lies hr hg hb
  have hlt : r0 < w.heap.size := (Array.getElem?_eq_some_iff.1 hw).1
  have hget := run_getObj_ok (P := P) hw (by intro c e f h; cases h)
  have hset := fun o₂ => run_setObj_ok (P := P) (o₂ := o₂) hw (by intro c e f h; cases h)
  have e0 : (Array.mk (t :: rest))[0]? = some t := rfl
  have e1 : (Array.mk [Value.map (some r0), k'])[0]? = some (.map (some r0)) := rfl
  have e2 : (Array.mk [Value.map (some r0), k'])[1]? = some k' := rfl
  split at ha
  · rename_i j u hpk hf
    cases ha
    obtain ⟨rfl, hkl⟩ := plainKey_eq hpk hk
    obtain ⟨r', g1, g2⟩ := find_sound hf hlen hent
    cases r' with
    | none => exact g2.elim
    | some q =>
      obtain ⟨j', u'⟩ := q
      obtain ⟨rfl, g3, _, _⟩ := g2
      obtain ⟨s1, s2, s3⟩ := setObj_heap (w := w) (r := r0) (o₂ := .map ⟨es'.eraseIdx j⟩ c) rfl hlt
      refine ⟨_, _, rfl, _, _, μ, ?_, Post.put hr hg hns s1 (fun r' hr' => s3 r' fun e => hr' 0 sz (by rw [e]; exact hmu)) (fun r' ro' sz' hm' => ?_), VR.undef⟩
      · unfold Builtin.delete_
        simp only [e0, e1, e2, Sem.run_bind, hE.und hi, hd, Result.andThen_ok, hget, checkKey_tt hE hki hpk, findKey_sound hE hki g1, eraseIdx_mk, hset, Sem.run_pure]
        rfl
      · rw [hmu] at hm'; cases hm'
        refine ⟨_, s2, .map _ _ _ rfl (by simp [List.length_eraseIdx, hlen]) (fun q e he => ?_)⟩
        rw [List.getElem?_eraseIdx] at he ⊢
        split at he
        · rename_i hq; rw [if_pos hq]; exact hent _ _ he
        · rename_i hq; rw [if_neg hq]; exact hent _ _ he
  · rename_i hpk hf
    cases ha
    obtain ⟨rfl, hkl⟩ := plainKey_eq hpk hk
    obtain ⟨r', g1, g2⟩ := find_sound hf hlen hent
    cases r' with
    | some q => exact g2.elim
    | none =>
      obtain ⟨s1, s2, s3⟩ := setObj_heap (w := w) (r := r0) (o₂ := .map ⟨es'⟩ c) rfl hlt
      have hheap : w.heap.setIfInBounds r0 (.map ⟨es'⟩ c) = w.heap := by
        apply Array.ext_getElem?
        intro q
        by_cases hq : q = r0
        · subst hq; rw [hw]; exact s2
        · exact s3 q hq
      refine ⟨_, _, rfl, _, { w with heap := w.heap.setIfInBounds r0 (.map ⟨es'⟩ c) }, μ, ?_, Post.same hr hheap, VR.undef⟩
      unfold Builtin.delete_
      simp only [e0, e1, e2, Sem.run_bind, hE.und hi, hd, Result.andThen_ok, hget, checkKey_tt hE hki hpk, findKey_sound hE hki g1, hset, Sem.run_pure]
      rfl
  · cases ha
end
end Go.Ev
end
section
namespace Go.Ev
section
variable {P : Program} {E : Env} {μ : Mu} {h : AH} {w : World}

theorem siter_lies (hr : Rel μ h w) {b : Nat} {s : ByteArray} {pos : Nat} {p' : Addr} (hg : h.get b = some (.siter s pos)) (hp : PR μ ⟨b, 0, none⟩ p') :
    ∃ r sz, p' = ⟨r, 0, none⟩ ∧ w.heap[r]? = some (.stringIter s pos) ∧ μ b = .at_ r 0 sz := by
  obtain ⟨r, ro, sz, o', hm, hw, ho⟩ := hr.lies hg hp.2.1
  cases ho with
  | siter _ _ hro => subst hro; exact ⟨r, sz, hp.2.2 r 0 sz hm, hw, hm⟩

theorem next_sound (hr : Rel μ h w) {it it' : Value} {isS : Bool} {r : AR} (t : TypeId) (ha : nextA it isS h = some r) (hv : VR μ it it') :
    ∃ v h', r = .eff v h' ∧ EffOk μ h w ((Instr.next it' isS t).run P w) v h' := by
  unfold nextA at ha
  split at ha
  · rename_i b
    obtain ⟨p', rfl, hp⟩ := hv.pointer
    split at ha <;> try (cases ha; done)
    rename_i s pos hg
    obtain ⟨r0, sz, rfl, hw, hm⟩ := siter_lies hr hg hp
    have hlt : r0 < w.heap.size := (Array.getElem?_eq_some_iff.1 hw).1
    have hget := run_getObj_ok (P := P) hw (by intro c e f h; cases h)
    split at ha
    · rename_i hlt'
      have hlt' := of_decide_eq_true hlt'
      cases ha
      have hset := run_setObj_ok (P := P) (o₂ := .stringIter s (pos + (Utf8.decode s pos).2)) hw (by intro c e f h; cases h)
      obtain ⟨s1, s2, s3⟩ := setObj_heap (w := w) (r := r0) (o₂ := .stringIter s (pos + (Utf8.decode s pos).2)) rfl hlt
      refine ⟨_, _, rfl, .tuple #[.bool true, .int .i64 pos, .int .i32 (Utf8.decode s pos).1], _, μ, ?_, Post.put hr hg (not_stone_siter hg) s1 (fun r' hr' => s3 r' fun e => hr' 0 sz (by rw [e]; exact hm)) (fun r' ro' sz' hm' => ?_),
        .tuple _ _ (VRs.lits (by intro v hv; simp at hv; rcases hv with rfl | rfl | rfl <;> rfl))⟩
      · unfold Instr.next
        simp only [Sem.run_bind, hget, Result.andThen_ok, hlt', if_true, hset, Sem.run_pure]
        rfl
      · rw [hm] at hm'; cases hm'; exact ⟨_, s2, .siter _ _ rfl⟩
    · rename_i hlt'
      have hlt' := of_decide_eq_false hlt'
      cases ha
      refine ⟨_, _, rfl, .tuple #[.bool false], w, μ, ?_, Post.refl hr, .tuple _ _ (VRs.lits (by intro v hv; simp at hv; subst hv; rfl))⟩
      unfold Instr.next
      simp only [Sem.run_bind, hget, Result.andThen_ok, hlt', if_false, Sem.run_pure]
  · rename_i b
    obtain ⟨p', rfl, hp⟩ := hv.pointer
    have hfalse : VR μ (.tuple #[.bool false]) (.tuple #[.bool false]) := .tuple _ _ (VRs.lits (by intro v hv; simp at hv; subst hv; rfl))
    split at ha
    · rename_i since seen st hg
      cases ha
      obtain ⟨r0, ro, sz, o', hm, hw, ho⟩ := hr.lies hg hp.2.1
      cases ho with
      | miterNil _ _ _ hro =>
        subst hro
        have := hp.2.2 _ _ _ hm
        subst this
        have hget := run_getObj_ok (P := P) hw (by intro c e f h; cases h)
        refine ⟨_, _, rfl, .tuple #[.bool false], w, μ, ?_, Post.refl hr, hfalse⟩
        unfold Instr.next
        simp only [Sem.run_bind, hget, Result.andThen_ok, Sem.run_pure]
    · rename_i m since seen last hg
      obtain ⟨r0, ro, sz, o', hm, hw, ho⟩ := hr.lies hg hp.2.1
      cases ho with
      | miter _ rm _ _ _ hro hbm =>
        subst hro
        have := hp.2.2 _ _ _ hm
        subst this
        have hlt : r0 < w.heap.size := (Array.getElem?_eq_some_iff.1 hw).1
        have hget := run_getObj_ok (P := P) hw (by intro c e f h; cases h)
        split at ha
        · rename_i c hgm
          cases ha
          obtain ⟨es', hwm, hlen, hent, szm, hmm⟩ := map_lies hr hgm hbm
          have : es' = [] := by simpa using hlen.symm
          subst this
          have hgetm := run_getObj_ok (P := P) hwm (by intro c e f h; cases h)
          change (getObj rm).run P w = .ok (.map #[] c) w at hgetm
          refine ⟨_, _, rfl, .tuple #[.bool false], w, μ, ?_, Post.refl hr, hfalse⟩
          unfold Instr.next
          have hf0 : ∀ p : MapEntry → Bool, (#[] : Array MapEntry).filter p 0 0 = #[] := fun _ => rfl
          simp only [Sem.run_bind, hget, Result.andThen_ok, hgetm]
          simp [Question.forced, hf0]
        · rename_i e c hgm
          obtain ⟨es', hwm, hlen, hent, szm, hmm⟩ := map_lies hr hgm hbm
          obtain ⟨e', he1, he2⟩ := hent 0 e rfl
          have : es' = [e'] := by
            cases es' with
            | nil => simp at hlen
            | cons x l => cases l with
              | nil => simp at he1; rw [he1]
              | cons y l => simp at hlen
          subst this
          have hgetm := run_getObj_ok (P := P) hwm (by intro c e f h; cases h)
          obtain ⟨hk1, hk2, hk3, hk4⟩ := he2
          split at ha
          · split at ha <;> cases ha
            rename_i hb
            have hb : e.born < since := by simpa [Nat.blt_eq] using hb
            have hset := run_setObj_ok (P := P) (o₂ := .mapIter (some rm) since #[e'.born] c) hw (by intro c e f h; cases h)
            obtain ⟨s1, s2, s3⟩ := setObj_heap (w := w) (r := r0) (o₂ := .mapIter (some rm) since #[e'.born] c) rfl hlt
            refine ⟨_, _, rfl, .tuple #[.bool true, e'.key, e'.val], _, μ, ?_, Post.put hr hg (not_stone_miter hg) s1 (fun r' hr' => s3 r' fun e => hr' 0 sz (by rw [e]; exact hm)) (fun r' ro' sz' hm' => ?_),
              .tuple _ _ (.cons _ _ _ _ (.lit _ rfl) (.cons _ _ _ _ (by rw [← hk1]; exact .lit _ hk2) (.cons _ _ _ _ hk3 .nil)))⟩
            · unfold Instr.next
              have hb' : e'.born < since := by omega
              have hb2 : ¬ (since ≤ e'.born) := by omega
              simp only [Sem.run_bind, hget, Result.andThen_ok, hgetm]
              simp [Question.forced, hb', hb2, hset]
            · rw [hm] at hm'; cases hm'
              refine ⟨_, s2, ?_⟩
              rw [hk4]
              exact .miter _ _ _ _ _ rfl hbm
          · split at ha <;> cases ha
            rename_i b0 _ hb
            simp only [Bool.and_eq_true] at hb
            have hb1 := Nat.eq_of_beq_eq_true hb.1
            have hb2 : e.born < last := by simpa [Nat.blt_eq] using hb.2
            refine ⟨_, _, rfl, .tuple #[.bool false], w, μ, ?_, Post.refl hr, hfalse⟩
            unfold Instr.next
            have h1 : b0 = e'.born := by omega
            have h2 : ¬ (last ≤ e'.born) := by omega
            simp only [Sem.run_bind, hget, Result.andThen_ok, hgetm]
            simp [Question.forced, h1, h2]
          · cases ha
        · cases ha
    · cases ha
  · cases ha

theorem range_sound (hE : TIs P E) {t : TypeId} {x x' : Value} {r : AR} (ha : rangeA E t x h.next = some r) (hx : VR μ x x') :
    ∃ v o, r = .new v o ∧ NewOk P μ h w ((Instr.range t x').run P w) v o := by
  unfold rangeA at ha
  split at ha
  · rename_i i s hi
    split at ha <;> cases ha
    rename_i hd
    rw [hx.string]
    refine ⟨_, _, rfl, .pointer (some ⟨w.heap.size, 0, none⟩), { w with heap := w.heap.push (.stringIter s 0) }, .stringIter s 0, 0, ?_, ⟨rfl, rfl, rfl⟩, fun μ' _ => .siter _ _ rfl, fun μ' _ e => ptr_new e⟩
    simp [Instr.range, hE.und hi, hd]
  · rename_i i hi
    split at ha <;> cases ha
    rename_i k e hd
    rw [hx.nilMap]
    refine ⟨_, _, rfl, .pointer (some ⟨w.heap.size, 0, none⟩), { w with heap := w.heap.push (.mapIter none 0 #[] 0) }, .mapIter none 0 #[] 0, 0, ?_, ⟨rfl, rfl, rfl⟩, fun μ' _ => .miterNil _ _ _ rfl, fun μ' _ e => ptr_new e⟩
    simp [Instr.range, hE.und hi, hd]
  · cases ha

theorem rangeMap_sound (hE : TIs P E) (hr : Rel μ h w) {t : TypeId} {_x x' : Value} {b : Nat} {i : TI} {kt et : TypeId} {es : List MapEntry} {clock : Nat} (hi : E.ti t = some i) (hd : i.desc = .map kt et) (hg : h.get b = some (.map es clock))
    (hx : VR μ (.map (some b)) x') : EffOk μ h w ((Instr.range t x').run P w) (.pointer (some ⟨h.next, 0, none⟩)) (h.alloc (.miter (some b) clock [] clock)) := by
  obtain ⟨r0, rfl, hb⟩ := hx.mapI
  obtain ⟨es', hw, hlen, hent, sz, hmu⟩ := map_lies hr hg hb
  have hget := run_getObj_ok (P := P) hw (by intro c e f h; cases h)
  obtain ⟨μ', p, hm⟩ := Post.alloc (μ := μ) (h := h) (w := w) (w' := { w with heap := w.heap.push (.mapIter (some r0) clock #[] clock) }) (o := .miter (some b) clock [] clock) (sz := 0) hr rfl (fun μ' hl => .miter _ _ _ _ _ rfl (hb.later hl))
  refine ⟨.pointer (some ⟨w.heap.size, 0, none⟩), _, μ', ?_, p, ptr_new hm⟩
  unfold Instr.range
  simp only [Sem.run_bind, hE.und hi, hd, Result.andThen_ok, hget, Sem.run_pure, run_newObj]
end
end Go.Ev
end
section
namespace Go.Ev
section
variable {P : Program} {E : Env} {μ : Mu} {h : AH} {w : World}

/-- what the model's operation does, as the abstract one says -/
def OpS (P : Program) (μ : Mu) (h : AH) (w : World) (run : World → Result Next) : AR → Prop
  | .pur v => ∀ w, ∃ v', run w = .ok (.value v') w ∧ VR μ v v'
  | .read v => Rel μ h w → ∃ v', run w = .ok (.value v') w ∧ VR μ v v'
  | .new v o => ∃ v' w' o' sz, run w = .ok (.value v') w' ∧ (w'.heap = w.heap.push o' ∧ w'.os = w.os ∧ w'.output = w.output) ∧ (∀ μ', Later μ μ' → ObjR μ' 0 sz o o') ∧
      (∀ μ', Later μ μ' → μ' h.next = .at_ w.heap.size 0 sz ∧ h.next < μ'.n → VR μ' v v')
  | .eff v h' => Rel μ h w → ∃ v' w' μ', (run w = .ok (.value v') w' ∨ (run w = .ok .skip w' ∧ v' = undef)) ∧ Post μ h w μ' h' w' ∧ VR μ' v v'
  | .call f args => ∃ args', (∀ w, run w = (callFunc f ⟨args'⟩).run P w) ∧ VRs μ args args'

/-- the same for what yields a value -/
def ValS (P : Program) (μ : Mu) (h : AH) (w : World) (s : Sem Value) : AR → Prop
  | .pur v => ∀ w, ∃ v', s.run P w = .ok v' w ∧ VR μ v v'
  | .read v => Rel μ h w → ∃ v', s.run P w = .ok v' w ∧ VR μ v v'
  | .new v o => NewOk P μ h w (s.run P w) v o
  | .eff v h' => Rel μ h w → EffOk μ h w (s.run P w) v h'
  | .call _ _ => False

theorem ValS.op {s : Sem Value} {r : AR} (hs : ValS P μ h w s r) : OpS P μ h w (fun w => (do pure (Next.value (← s)) : Sem Next).run P w) r := by
  cases r with
  | pur v => intro w; obtain ⟨v', h1, h2⟩ := hs w; exact ⟨v', by simp [h1], h2⟩
  | read v => intro hr; obtain ⟨v', h1, h2⟩ := hs hr; exact ⟨v', by simp [h1], h2⟩
  | new v o => obtain ⟨v', w', o', sz, h1, h2⟩ := hs; exact ⟨v', w', o', sz, by simp [h1], h2⟩
  | eff v h' => intro hr; obtain ⟨v', w', μ', h1, h2⟩ := hs hr; exact ⟨v', w', μ', .inl (by simp [h1]), h2⟩
  | call f args => exact hs.elim

theorem pure_val {v : Option Value} {s : Sem Value} {r : AR} (hp : pureA v = some r) (hv : ∀ u, v = some u → ∀ w, ∃ v', s.run P w = .ok v' w ∧ VR μ u v') : ValS P μ h w s r := by
  unfold pureA at hp
  split at hp <;> cases hp
  exact hv _ rfl

theorem convert_sound (hE : TIs P E) {src dst : TypeId} {x x' : Value} {r : AR} (ha : convertA E src dst x h = some r) (hx : VR μ x x') : ValS P μ h w (Go.convert src dst x') r := by
  unfold convertA at ha
  split at ha <;> try (cases ha; done)
  rename_i si di hsi hdi
  split at ha <;> try (cases ha; done)
  · rename_i k n
    split at ha <;> cases ha
    rename_i kd hd
    rw [hx.int]
    refine fun w => ⟨_, ?_, .lit (.int kd (kd.wrap n)) rfl⟩
    simp [Go.convert, hE.und hsi, hE.und hdi, hd, Conv.intToInt]
  · rename_i s
    rw [hx.string]
    split at ha
    · rename_i hd
      cases ha
      refine fun w => ⟨_, ?_, .lit (.string s) rfl⟩
      simp [Go.convert, hE.und hsi, hE.und hdi, hd]
    · rename_i e hd
      unfold bytesOfStr at ha
      split at ha <;> try (cases ha; done)
      rename_i ei hei
      split at ha <;> cases ha
      rename_i hde hk
      have : (Go.convert src dst (.string s)).run P w = (Conv.stringToBytes e s).run P w := by
        simp [Go.convert, hE.und hsi, hE.und hdi, hd, hE.und hei, hde]
      show NewOk P μ h w ((Go.convert src dst (.string s)).run P w) _ _
      rw [this]
      exact stringToBytes_sound e s (Nat.eq_of_beq_eq_true hk)
    · cases ha
  · rename_i l len k
    split at ha <;> try (cases ha; done)
    rename_i e hs hd
    unfold strOfIm at ha
    split at ha <;> try (cases ha; done)
    rename_i ei hei
    split at ha <;> try (cases ha; done)
    rename_i hde hb
    simp only [Bool.and_eq_true, Nat.ble_eq] at hb
    split at ha <;> cases ha
    rename_i bs hbs
    intro hr
    have := immToString_sound (P := P) hr hx hb.2 hbs
    refine ⟨.string ⟨⟨bs⟩⟩, ?_, .lit _ rfl⟩
    obtain ⟨a', cap, rfl, _⟩ := hx.immI
    rw [run_convert_bytes_string w src dst e _ _ _ (hs ▸ (hE.ti src si hsi).und) (hde ▸ (hE.ti e ei hei).und) (hd ▸ (hE.ti dst di hdi).und)]
    exact this
  · rename_i a len k
    split at ha
    · rename_i e0 e a hs hd
      split at ha <;> try (cases ha; done)
      rename_i hsd
      have hsd := Nat.eq_of_beq_eq_true hsd
      unfold markBytes at ha
      split at ha <;> try (cases ha; done)
      rename_i ei hei
      split at ha <;> cases ha
      rename_i c e' hde hg hl
      have hl := Nat.le_of_ble_eq_true hl
      intro hr
      obtain ⟨a', cap, rfl, q1, q2, q3, q4⟩ := hx.sliceI
      obtain ⟨r, ro, sz, o', hm, hw, ho⟩ := hr.lies hg q2
      obtain ⟨rfl, hcap⟩ : a' = ⟨r, ro + a.off, none⟩ ∧ ro + a.off + cap * k ≤ sz := by
        rcases q4 r ro sz hm with h1 | ⟨h1, _⟩
        · exact h1
        · omega
      cases ho with
      | cells _ _ _ _ c' lo hi hsz hle hcc hf =>
        have hnst : ¬ c.length < 0 := by omega
        have hlh : lo = hi := by
          rcases hf with h1 | h1
          · omega
          · exact h1
        subst hlh
        have hlt : r < w.heap.size := (Array.getElem?_eq_some_iff.1 hw).1
        have hsh : w.shape? r = some (e', c'.size) := by simp [World.shape?, hw]
        refine ⟨.slice (some ⟨r, ro + a.off, none⟩) len cap, w.freeze ⟨r, c'.size, none⟩ 1, μ, ?_, Post.put hr hg (not_stone hg hnst) ?_ (fun r' hr' => ?_) (fun r' ro' sz' hm' => ?_), hx⟩
        · simp [Go.convert, hE.und hdi, hd, hE.und hei, hde, hsd, markStringish, hsh]
        · simp [World.freeze]
        · have hne : ¬ r = r' := fun e => hr' ro sz (by rw [← e]; exact hm)
          simp only [World.freeze, Nat.one_ne_zero, if_false]
          rw [Array.getElem?_modify, if_neg hne]
        · rw [hm] at hm'; cases hm'
          refine ⟨.cells c' e' (c'.size, c'.size + 1), ?_, .cells c e' 0 true c' _ _ hsz hle hcc (.inr ⟨rfl, .inr (by omega)⟩)⟩
          simp only [World.freeze, Nat.one_ne_zero, if_false]
          rw [Array.getElem?_modify, if_pos rfl, hw]
          simp
    · rename_i e hs hd
      unfold strOfBytes at ha
      split at ha <;> try (cases ha; done)
      rename_i ei hei
      split at ha
      · rename_i hde
        cases ha
        intro hr
        obtain ⟨rfl, rfl, rfl⟩ := hx.nilSlice
        refine ⟨.string .empty, ?_, .lit _ rfl⟩
        simp [Go.convert, hE.und hsi, hE.und hdi, hs, hd, hE.und hei, hde, Conv.bytesToString]
      · rename_i a hde
        split at ha <;> try (cases ha; done)
        rename_i cs hcs
        split at ha <;> cases ha
        rename_i bs hbs
        intro hr
        have := bytesToString_sound (P := P) hr hx hcs hbs
        refine ⟨.string ⟨⟨bs⟩⟩, ?_, .lit _ rfl⟩
        obtain ⟨a', cap, rfl, _⟩ := hx.sliceI
        rw [run_convert_bytes_string w src dst e _ _ _ (hs ▸ (hE.ti src si hsi).und) (hde ▸ (hE.ti e ei hei).und) (hd ▸ (hE.ti dst di hdi).und)]
        exact this
      · cases ha
    · cases ha
end
end Go.Ev
end
section
namespace Go.Ev
section
variable {P : Program} {E : Env} {μ : Mu} {h : AH} {w : World}

theorem sliceArr_sound (hE : TIs P E) {t : TypeId} {a : Addr} {x' : Value} {lo hi lo' hi' : Option Value} {r : AR} (ha : sliceArrA E t a lo hi h = some r) (hx : VR μ (.pointer (some a)) x') (hl : OptR μ lo lo') (hh : OptR μ hi hi') :
    ValS P μ h w (Instr.sliceAt t x' lo' hi' none) r := by
  unfold sliceArrA at ha
  split at ha <;> try (cases ha; done)
  rename_i n e har
  split at ha <;> try (cases ha; done)
  rename_i ei b hei hb
  split at ha <;> cases ha
  rename_i l cs hl0 hcs
  obtain ⟨a', rfl, q1, q2, q3⟩ := hx.pointer
  obtain ⟨er, hbl, hlb⟩ := bounds_sound (P := P) (w := w) false hb hl0 hl hh (Nat.le_refl _)
  intro hr
  obtain ⟨hlen, rr, ro, sz, cs', hm, hlen', hfit, _, _⟩ := cellsAt_sound hr hcs q1 q2
  have := q3 rr ro sz hm
  subst this
  refine ⟨.slice (some (if n = l then ⟨rr, ro + a.off, none⟩ else (⟨rr, ro + a.off, none⟩ : Addr).add (l * ei.size))) (b - l) (n - l), ?_, ?_⟩
  · unfold arrayOf at har
    split at har <;> try (cases har; done)
    rename_i i hi
    split at har
    · rename_i n' e' hd
      cases har
      simp only [Instr.sliceAt, Sem.run_bind, hE.und hi, hd, Result.andThen_ok, Instr.sureAddr, Sem.run_pure, er, hE.size hei]
    · rename_i u hd
      split at har <;> try (cases har; done)
      rename_i ui hui
      split at har <;> cases har
      rename_i hud
      simp only [Instr.sliceAt, Sem.run_bind, hE.und hi, hd, Result.andThen_ok, Instr.slice, asAddr, Sem.run_pure, hE.und hui, hud, er, hE.size hei]
    · cases har
  · rw [off_none q1]
    by_cases hc : n = l
    · rw [if_pos hc]
      exact .slice _ _ _ _ _ ⟨rfl, q2, by omega, fun r ro sz e => .inr ⟨by omega, by omega⟩⟩
    · rw [if_neg hc]
      refine .slice _ _ _ _ _ ⟨rfl, q2, by omega, fun r' ro' sz' e => ?_⟩
      rw [hm] at e; cases e
      refine .inl ⟨by rw [add_none rfl]; simp [Nat.add_assoc], ?_⟩
      have : l * ei.size + (n - l) * ei.size = n * ei.size := by rw [← Nat.add_mul]; congr 1; omega
      show ro + (a.off + l * ei.size) + (n - l) * ei.size ≤ sz
      omega

theorem slice_sound (hE : TIs P E) {t : TypeId} {x x' : Value} {lo hi mx lo' hi' mx' : Option Value} {r : AR} (ha : sliceA E t x lo hi mx h = some r) (hx : VR μ x x') (hl : OptR μ lo lo') (hh : OptR μ hi hi') (hm : OptR μ mx mx') :
    ValS P μ h w (Instr.sliceAt t x' lo' hi' mx') r := by
  unfold sliceA at ha
  split at ha <;> try (cases ha; done)
  have : mx' = none := by
    have := hm.1
    cases mx' with
    | none => rfl
    | some v => simp at this
  subst this
  split at ha
  · obtain ⟨v, _, rfl, _⟩ := sliceIm_sound (w := w) (P := P) hE ha hx hl hh
    intro w
    obtain ⟨u, u', e, h3, h4⟩ := sliceIm_sound (w := w) (P := P) hE ha hx hl hh
    cases e
    exact ⟨u', h3, h4⟩
  · rw [hx.string]
    obtain ⟨v, _, rfl, _⟩ := sliceStr_sound (w := w) (P := P) hE ha hl hh
    intro w
    obtain ⟨u, u', e, h3, h4⟩ := sliceStr_sound (w := w) (P := P) hE ha hl hh
    cases e
    exact ⟨u', h3, h4⟩
  · obtain ⟨v, _, rfl, _⟩ := sliceSl_sound (w := w) (P := P) hE ha hx hl hh
    intro w
    obtain ⟨u, u', e, h3, h4⟩ := sliceSl_sound (w := w) (P := P) hE ha hx hl hh
    cases e
    exact ⟨u', h3, h4⟩
  · exact sliceArr_sound hE ha hx hl hh
  · cases ha

/-- operands that stand for each other -/
def OpsR (μ : Mu) (tm : Tr Value) (a : Operand → Value) (l : List Operand) : Prop := ∀ x ∈ l, VR μ (ev tm x) (a x)

theorem OpsR.evs {tm : Tr Value} {a : Operand → Value} : ∀ {l : List Operand}, OpsR μ tm a l → VRs μ (evs tm l) (l.map a)
  | [], _ => .nil
  | x :: l, h => .cons _ _ _ _ (h x (by simp)) (OpsR.evs fun y hy => h y (by simp [hy]))
theorem OpsR.parts {tm : Tr Value} {a : Operand → Value} : ∀ {l : List (Nat × Operand)}, OpsR μ tm a (l.map (·.2)) → PRs μ (evParts tm l) (l.map fun (i, x) => (i, a x))
  | [], _ => .nil
  | (i, x) :: l, h => .cons _ _ _ _ _ (h x (by simp)) (OpsR.parts fun y hy => h y (by simp [hy]))
theorem OpsR.opt {tm : Tr Value} {a : Operand → Value} {x : Option Operand} (h : OpsR μ tm a x.toList) : OptR μ (evOpt tm x) (x.map a) := by
  cases x with
  | none => exact ⟨rfl, fun _ _ h => by cases h⟩
  | some x => exact ⟨rfl, fun v v' h1 h2 => by cases h1; cases h2; exact h x (by simp)⟩

theorem builtin_sound (hE : TIs P E) {b : Builtin} {ts : List TypeId} {args args' : List Value} {r : AR} (ty : TypeId) (consts : Array Bool) (ha : builtinA E b ts args h = some r) (hv : VRs μ args args') :
    OpS P μ h w (fun w => (builtin b ⟨ts⟩ ty consts ⟨args'⟩).run P w) r := by
  cases b <;> simp only [builtinA] at ha <;> try (cases ha; done)
  · -- append
    obtain ⟨v0, h0, rfl⟩ : ∃ v0 h0, r = .eff v0 h0 := by
      unfold appendA at ha
      split at ha <;> try (cases ha; done)
      split at ha <;> try (cases ha; done)
      split at ha <;> try (cases ha; done)
      unfold appendSl at ha
      split at ha <;> try (cases ha; done)
      split at ha <;> try (cases ha; done)
      split at ha
      · unfold appendNone at ha
        split at ha
        · split at ha <;> cases ha; exact ⟨_, _, rfl⟩
        · cases ha; exact ⟨_, _, rfl⟩
      · split at ha <;> try (cases ha; done)
        split at ha <;> try (cases ha; done)
        unfold appendTo at ha
        split at ha
        · split at ha <;> cases ha; exact ⟨_, _, rfl⟩
        · unfold growA at ha
          split at ha <;> try (cases ha; done)
          split at ha <;> cases ha; exact ⟨_, _, rfl⟩
    refine ValS.op (s := Builtin.append_ ⟨ts⟩ ty ⟨args'⟩) fun hr => ?_
    obtain ⟨v, h', e, g⟩ := append_sound (P := P) hE hr ty ha hv
    cases e; exact g
  · -- clear
    obtain ⟨v0, h0, rfl⟩ : ∃ v0 h0, r = .eff v0 h0 := by
      unfold clearA at ha
      split at ha <;> try (cases ha; done)
      split at ha <;> try (cases ha; done)
      split at ha <;> try (cases ha; done)
      · split at ha <;> try (cases ha; done)
        split at ha <;> try (cases ha; done)
        split at ha <;> cases ha; exact ⟨_, _, rfl⟩
      · cases ha; exact ⟨_, _, rfl⟩
    refine ValS.op (s := Builtin.clear_ ⟨ts⟩ ty ⟨args'⟩) fun hr => ?_
    obtain ⟨v, h', e, g⟩ := clear_sound (P := P) hE hr ty ha hv
    cases e; exact g
  · -- copy
    obtain ⟨v0, h0, rfl⟩ : ∃ v0 h0, r = .eff v0 h0 := by
      unfold copyA at ha
      split at ha <;> try (cases ha; done)
      split at ha <;> try (cases ha; done)
      split at ha <;> try (cases ha; done)
      split at ha <;> try (cases ha; done)
      split at ha <;> try (cases ha; done)
      split at ha
      · cases ha; exact ⟨_, _, rfl⟩
      · split at ha <;> cases ha; exact ⟨_, _, rfl⟩
    refine ValS.op (s := Builtin.copy_ ⟨ts⟩ ty ⟨args'⟩) fun hr => ?_
    obtain ⟨v, h', e, g⟩ := copy_sound (P := P) hE hr ty ha hv
    cases e; exact g
  · -- delete
    obtain ⟨v0, h0, rfl⟩ : ∃ v0 h0, r = .eff v0 h0 := by
      unfold deleteA at ha
      split at ha <;> try (cases ha; done)
      split at ha <;> try (cases ha; done)
      split at ha <;> try (cases ha; done)
      split at ha <;> try (cases ha; done)
      split at ha <;> cases ha
      · exact ⟨_, _, rfl⟩
      · exact ⟨_, _, rfl⟩
    refine ValS.op (s := Builtin.delete_ ⟨ts⟩ ty ⟨args'⟩) fun hr => ?_
    obtain ⟨v, h', e, g⟩ := delete_sound (P := P) hE hr ty ha hv
    cases e; exact g
  · -- len
    split at ha <;> try (cases ha; done)
    rename_i t ts x args
    cases hv with | cons _ x' _ l' hx hv' =>
    split at ha
    · rename_i m
      unfold lenMapA at ha
      split at ha <;> try (cases ha; done)
      rename_i i hi
      split at ha
      · rename_i hd
        cases ha
        rw [hx.nilMap]
        refine ValS.op (s := Builtin.len_ ⟨t :: ts⟩ ty ⟨.map none :: l'⟩) fun w => ⟨_, ?_, .lit _ rfl⟩
        simp [Builtin.len_, hE.und hi, hd, goInt]
      · rename_i rr hd
        split at ha <;> cases ha
        rename_i es c hg
        refine ValS.op (s := Builtin.len_ ⟨t :: ts⟩ ty ⟨x' :: l'⟩) fun hr => ?_
        obtain ⟨r0, rfl, hb⟩ := hx.mapI
        obtain ⟨es', hw, hlen, _⟩ := map_lies hr hg hb
        have hget := run_getObj_ok (P := P) hw (by intro c e f h; cases h)
        refine ⟨_, ?_, .lit (.int .i64 es.length) rfl⟩
        simp [Builtin.len_, hE.und hi, hd, goInt, hget, hlen]
      · cases ha
    · split at ha <;> cases ha
      rename_i v hl
      refine ValS.op (s := Builtin.len_ ⟨t :: ts⟩ ty ⟨x' :: l'⟩) fun w => ?_
      obtain ⟨h1, h2⟩ := len_sound (P := P) (w := w) hE (ty := ty) hl hx l' ts
      exact ⟨v, h1, .lit _ h2⟩
  · -- max
    split at ha <;> try (cases ha; done)
    rename_i x l
    cases hv with | cons _ x' _ l' hx hv' =>
    split at ha <;> cases ha
    rename_i v hf
    exact ValS.op (s := Builtin.max_ ⟨ts⟩ ty ⟨x' :: l'⟩) fun w => fold_sound (P := P) (w := w) (fun h1 h2 h3 => max2_sound h1 h2 h3) hv' hf hx
  · -- min
    split at ha <;> try (cases ha; done)
    rename_i x l
    cases hv with | cons _ x' _ l' hx hv' =>
    split at ha <;> cases ha
    rename_i v hf
    exact ValS.op (s := Builtin.min_ ⟨ts⟩ ty ⟨x' :: l'⟩) fun w => fold_sound (P := P) (w := w) (fun h1 h2 h3 => min2_sound h1 h2 h3) hv' hf hx

theorem call_sound {f f' : Value} {args args' : List Value} {r : AR} (ha : callA f args = some r) (hf : VR μ f f') (hv : VRs μ args args') :
    OpS P μ h w (fun w => (do let d ← Deferred.ofValue f' ⟨args'⟩; invoke d.target d.args : Sem Next).run P w) r := by
  unfold callA at ha
  split at ha <;> cases ha
  rename_i f0 first captured
  obtain ⟨x', y', rfl, hx, hy⟩ := hf.funcI
  refine ⟨x' ++ args' ++ y', fun w => ?_, (hx.append hv).append hy⟩
  simp [Deferred.ofValue, invoke]

theorem callOp_sound (hE : TIs P E) {c : Call} {tm : Tr Value} {a : Operand → Value} {r : AR} (ty : TypeId) (ha : callOpA E c tm h = some r) (ho : OpsR μ tm a c.operands.toList) :
    OpS P μ h w (fun w => (do let d ← resolve a c ty; invoke d.target d.args : Sem Next).run P w) r := by
  unfold callOpA at ha
  have hargs : OpsR μ tm a c.args.toList := fun x hx => ho x (by simp [Call.operands]; exact .inr (by simpa using hx))
  have hev := hargs.evs
  have e : c.args.map a = ⟨c.args.toList.map a⟩ := by apply Array.ext'; simp
  split at ha
  · rename_i b hc
    have hts : c.argTypes = ⟨c.argTypes.toList⟩ := rfl
    have := builtin_sound (P := P) (w := w) hE ty (c.args.map fun | .const _ => true | _ => false) ha hev
    have e3 : (fun w => (do let d ← resolve a c ty; invoke d.target d.args : Sem Next).run P w) = fun w => (builtin b ⟨c.argTypes.toList⟩ ty (c.args.map fun | .const _ => true | _ => false) ⟨c.args.toList.map a⟩).run P w := by
      funext w
      simp only [resolve, hc, pure_bind, invoke, e]
      rfl
    rw [e3]; exact this
  · rename_i f hc
    have hf := ho f (by simp [Call.operands, hc])
    have := call_sound (P := P) (h := h) (w := w) ha hf hev
    have e3 : (fun w => (do let d ← resolve a c ty; invoke d.target d.args : Sem Next).run P w) = fun w => (do let d ← Deferred.ofValue (a f) ⟨c.args.toList.map a⟩; invoke d.target d.args : Sem Next).run P w := by
      funext w
      simp only [resolve, hc, e]
    rw [e3]; exact this
  · cases ha

theorem nilCheck_sound {x x' : Value} {r : AR} (ha : nilCheckA x = some r) (hx : VR μ x x') : ∃ v, r = .pur v ∧ VR μ v x' ∧ ((∃ p, x' = .pointer (some p)) ∨ ∃ f a b, x' = .func (.func f) a b) := by
  unfold nilCheckA at ha
  split at ha <;> cases ha
  · have := hx
    obtain ⟨r, o, rfl, h⟩ := hx.immpI
    exact ⟨_, rfl, this, .inl ⟨_, rfl⟩⟩
  · obtain ⟨a', rfl, h⟩ := hx.pointer
    exact ⟨_, rfl, .ptr _ _ h, .inl ⟨a', rfl⟩⟩
  · obtain ⟨x', y', rfl, h1, h2⟩ := hx.funcI
    exact ⟨_, rfl, .func _ _ _ _ _ h1 h2, .inr ⟨_, _, _, rfl⟩⟩

theorem mapUpdate_eff {t : TypeId} {m k v : Value} {r : AR} (ha : mapUpdateA E t m k v h = some r) : ∃ v0 h0, r = .eff v0 h0 := by
  unfold mapUpdateA at ha
  split at ha <;> try (cases ha; done)
  split at ha <;> try (cases ha; done)
  split at ha <;> try (cases ha; done)
  split at ha <;> cases ha
  · exact ⟨_, _, rfl⟩
  · exact ⟨_, _, rfl⟩
theorem load_read {t : TypeId} {a : Value} {r : AR} (ha : loadA E t a h = some r) : ∃ v0, r = .read v0 := by
  unfold loadA at ha
  split at ha <;> try (cases ha; done)
  · split at ha <;> cases ha
    exact ⟨_, rfl⟩
  · split at ha <;> cases ha
    exact ⟨_, rfl⟩
theorem store_eff {t : TypeId} {a v : Value} {r : AR} (ha : storeA E t a v h = some r) : ∃ v0 h0, r = .eff v0 h0 := by
  unfold storeA at ha
  split at ha <;> try (cases ha; done)
  split at ha <;> cases ha
  exact ⟨_, _, rfl⟩
theorem lookup_read {t : TypeId} {x k : Value} {ok : Bool} {r : AR} (ha : lookupA E t x k ok h = some r) : ∃ v0, r = .read v0 := by
  unfold lookupA at ha
  split at ha <;> try (cases ha; done)
  split at ha <;> try (cases ha; done)
  split at ha <;> try (cases ha; done)
  split at ha <;> try (cases ha; done)
  split at ha <;> cases ha
  · exact ⟨_, rfl⟩
  · exact ⟨_, rfl⟩
theorem next_eff {it : Value} {s : Bool} {r : AR} (key : nextA it s h = some r) : ∃ v0 h0, r = .eff v0 h0 := by
  unfold nextA at key
  split at key
  · split at key <;> try (cases key; done)
    split at key <;> cases key
    · exact ⟨_, _, rfl⟩
    · exact ⟨_, _, rfl⟩
  · split at key
    · cases key; exact ⟨_, _, rfl⟩
    · split at key
      · cases key; exact ⟨_, _, rfl⟩
      · split at key
        · split at key <;> cases key; exact ⟨_, _, rfl⟩
        · split at key <;> cases key; exact ⟨_, _, rfl⟩
        · cases key
      · cases key
    · cases key
  · cases key

set_option maxHeartbeats 4000000 in
/-- THE OPERATIONS -/
theorem aop_sound (hE : TIs P E) (hF : PlacesOk P E) {o : Oper} {tm : Tr Value} {a : Operand → Value} {r : AR} (ha : aop E o.op tm h = some r) (ho : OpsR μ tm a o.op.operands.toList) :
    OpS P μ h w (fun w => (execOp a o).run P w) r := by
  obtain ⟨dst, op, ty, pos, after, guard⟩ := o
  cases op <;> simp only [aop] at ha <;> simp only [execOp] <;> try (cases ha; done)
  case move x =>
    cases ha
    exact fun w => ⟨_, rfl, ho x (by simp [Op.operands])⟩
  case assign x =>
    cases ha
    exact fun w => ⟨_, rfl, ho x (by simp [Op.operands])⟩
  case pick c x y =>
    have hc := ho c (by simp [Op.operands])
    have hx := ho x (by simp [Op.operands])
    have hy := ho y (by simp [Op.operands])
    unfold pickA at ha
    split at ha <;> cases ha
    · rename_i hb; rw [hb] at hc; exact fun w => ⟨_, by simp [hc.bool, asBool], hx⟩
    · rename_i hb; rw [hb] at hc; exact fun w => ⟨_, by simp [hc.bool, asBool], hy⟩
  case alloc t =>
    obtain ⟨v, ob, rfl, hn⟩ := alloc_sound (P := P) (μ := μ) (w := w) hE ha
    exact ValS.op (s := Instr.alloc t true (.tuple #[])) hn
  case box t x =>
    obtain ⟨v, ob, rfl, hn⟩ := box_sound (P := P) (w := w) ha (ho x (by simp [Op.operands]))
    exact ValS.op (s := Instr.box t (a x)) hn
  case build t parts =>
    have hp := OpsR.parts (μ := μ) (tm := tm) (a := a) (l := parts.toList) (fun x hx => ho x (by simpa [Op.operands] using hx))
    refine ValS.op (s := Instr.build t (parts.map fun (i, x) => (i, a x))) (pure_val ha fun u hu w => ?_)
    obtain ⟨v', h1, h2⟩ := build_sound (P := P) (w := w) hE hF hu hp
    have e : parts.map (fun (i, x) => (i, a x)) = ⟨parts.toList.map fun (i, x) => (i, a x)⟩ := by apply Array.ext'; simp
    exact ⟨v', by rw [e]; exact h1, h2⟩
  case buildSlice t len parts =>
    have hp := OpsR.parts (μ := μ) (tm := tm) (a := a) (l := parts.toList) (fun x hx => ho x (by simpa [Op.operands] using hx))
    obtain ⟨v, ob, rfl, hn⟩ := buildSlice_sound (P := P) (w := w) hE ha hp
    have e : parts.map (fun (i, x) => (i, a x)) = ⟨parts.toList.map fun (i, x) => (i, a x)⟩ := by apply Array.ext'; simp
    rw [e]
    have hn' : ValS P μ h w (Instr.buildSlice t len ⟨parts.toList.map fun (i, x) => (i, a x)⟩) (.new v ob) := hn
    exact hn'.op
  case insert t m k x =>
    have hm := ho m (by simp [Op.operands])
    have hk := ho k (by simp [Op.operands])
    have hx := ho x (by simp [Op.operands])
    obtain ⟨v0, h0, rfl⟩ := mapUpdate_eff ha
    intro hr
    obtain ⟨h', w', e, h1, h2⟩ := mapUpdate_sound (P := P) hE hr ha hm hk hx
    cases e
    exact ⟨undef, w', μ, .inr ⟨by simp [h1], rfl⟩, h2, VR.undef⟩
  case load t x =>
    have hx := ho x (by simp [Op.operands])
    obtain ⟨v0, rfl⟩ := load_read ha
    refine ValS.op (s := Instr.loadAt t (a x)) fun hr => ?_
    obtain ⟨v, v', e, h1, h2⟩ := load_sound (P := P) hE hr ha hx
    cases e; exact ⟨v', h1, h2⟩
  case store t x y =>
    have hx := ho x (by simp [Op.operands])
    have hy := ho y (by simp [Op.operands])
    obtain ⟨v0, h0, rfl⟩ := store_eff ha
    intro hr
    obtain ⟨h', w', e, h1, h2⟩ := store_sound (P := P) hE hr ha hx hy
    cases e
    exact ⟨undef, w', μ, .inr ⟨by simp [h1], rfl⟩, h2, VR.undef⟩
  case nilCheck x =>
    obtain ⟨v, rfl, h1, h2⟩ := nilCheck_sound ha (ho x (by simp [Op.operands]))
    intro w
    rcases h2 with ⟨p, e⟩ | ⟨f, b, c, e⟩
    · rw [e] at h1 ⊢; exact ⟨_, rfl, h1⟩
    · rw [e] at h1 ⊢; exact ⟨_, rfl, h1⟩
  case binOp op t x y ty2 =>
    have hx := ho x (by simp [Op.operands])
    have hy := ho y (by simp [Op.operands])
    unfold binOpA at ha
    split at ha
    · rename_i v hv
      cases ha
      refine ValS.op (s := do eqGuard op t x y (a x) (a y); Go.binOp op t (a x) (a y)) fun w => ?_
      obtain ⟨h1, h2⟩ := nils_sound (P := P) (w := w) hE hv hx hy
      exact ⟨_, h1, .lit _ h2⟩
    · refine ValS.op (s := do eqGuard op t x y (a x) (a y); Go.binOp op t (a x) (a y)) (pure_val ha fun u hu w => ?_)
      obtain ⟨h1, h2⟩ := bin_sound (P := P) (w := w) (x := x) (y := y) hE hu hx hy
      exact ⟨_, h1, .lit _ h2⟩
  case unOp op t x =>
    refine ValS.op (s := Op.unary op (a x)) (pure_val ha fun u hu w => ?_)
    obtain ⟨h1, h2⟩ := un_sound (P := P) (w := w) hu (ho x (by simp [Op.operands]))
    exact ⟨_, h1, .lit _ h2⟩
  case convert src dst x =>
    exact ValS.op (s := Go.convert src dst (a x)) (convert_sound hE ha (ho x (by simp [Op.operands])))
  case makeInterface t x =>
    have hx := ho x (by simp [Op.operands])
    unfold makeInterfaceA at ha
    split at ha <;> try (cases ha; done)
    rename_i i hi
    split at ha <;> cases ha
    rename_i hd
    refine ValS.op (s := Instr.makeInterface t (a x)) fun w => ⟨.iface t (a x), ?_, .iface _ _ _ hx⟩
    have : P.underlying t = some i.desc := (hE.ti t i hi).und
    unfold Instr.makeInterface
    simp only [Sem.run_bind, hE.und hi, Result.andThen_ok]
    cases hdd : i.desc with
    | interface ms => exact absurd hdd (hd ms)
    | _ => rfl
  case makeFunc fn first captured =>
    unfold makeFuncA at ha
    split at ha <;> cases ha
    rename_i f
    have h1 : OpsR μ tm a first.toList := fun x hx => ho x (by simp [Op.operands]; exact .inl (by simpa using hx))
    have h2 : OpsR μ tm a captured.toList := fun x hx => ho x (by simp [Op.operands]; exact .inr (by simpa using hx))
    have e1 : first.map a = ⟨first.toList.map a⟩ := by apply Array.ext'; simp
    have e2 : captured.map a = ⟨captured.toList.map a⟩ := by apply Array.ext'; simp
    refine ValS.op (s := Instr.makeFunc (.func f) (first.map a) (captured.map a)) fun w => ⟨_, rfl, ?_⟩
    rw [e1, e2]
    exact .func _ _ _ _ _ h1.evs h2.evs
  case makeMap t rs =>
    unfold makeMapA at ha
    split at ha <;> cases ha
    refine ValS.op (s := Instr.makeMap t none) ⟨.map (some w.heap.size), { w with heap := w.heap.push (.map #[] 0) }, .map #[] 0, 0, ?_, ⟨rfl, rfl, rfl⟩, fun μ' _ => .map _ _ [] rfl rfl (by simp), fun μ' _ e => .map _ _ ⟨⟨e.2, by simp [e.1]⟩, fun r' ro' sz' e' => by rw [e.1] at e'; cases e'; rfl⟩⟩
    simp [Instr.makeMap]
  case makeSlice t l c =>
    obtain ⟨v, ob, rfl, hn⟩ := makeSlice_sound (P := P) (w := w) hE ha (ho l (by simp [Op.operands])) (ho c (by simp [Op.operands]))
    exact ValS.op (s := Instr.makeSlice t (a l) (a c)) hn
  case slice t x lo hi mx =>
    exact ValS.op (s := Instr.sliceAt t (a x) (lo.map a) (hi.map a) (mx.map a)) (slice_sound hE ha (ho x (by simp [Op.operands]))
      (OpsR.opt fun y hy => ho y (by simp [Op.operands]; exact .inr (.inl (by simpa using hy)))) (OpsR.opt fun y hy => ho y (by simp [Op.operands]; exact .inr (.inr (.inl (by simpa using hy)))))
      (OpsR.opt fun y hy => ho y (by simp [Op.operands]; exact .inr (.inr (.inr (by simpa using hy))))))
  case fieldAddr s x k =>
    exact ValS.op (s := Instr.fieldAt s (a x) k) (pure_val ha fun u hu w => fieldAddr_sound hE hu (ho x (by simp [Op.operands])))
  case field t x k =>
    exact ValS.op (s := Instr.field t (a x) k) (pure_val ha fun u hu w => field_sound hE hu (ho x (by simp [Op.operands])))
  case indexAddr t x i =>
    exact ValS.op (s := Instr.indexAt t (a x) (a i)) (pure_val ha fun u hu w => indexAddr_sound hE hu (ho x (by simp [Op.operands])) (ho i (by simp [Op.operands])))
  case index t x i =>
    exact ValS.op (s := Instr.index t (a x) (a i)) (pure_val ha fun u hu w => index_sound hE hu (ho x (by simp [Op.operands])) (ho i (by simp [Op.operands])))
  case lookup t x k ok =>
    have hx := ho x (by simp [Op.operands])
    have hk := ho k (by simp [Op.operands])
    obtain ⟨v0, rfl⟩ := lookup_read ha
    refine ValS.op (s := Instr.lookup t (a x) (a k) ok) fun hr => ?_
    obtain ⟨v, v', e, h1, h2⟩ := lookup_sound (P := P) hE hr ha hx hk
    cases e; exact ⟨v', h1, h2⟩
  case mapUpdate t m k x =>
    have hm := ho m (by simp [Op.operands])
    have hk := ho k (by simp [Op.operands])
    have hx := ho x (by simp [Op.operands])
    obtain ⟨v0, h0, rfl⟩ := mapUpdate_eff ha
    intro hr
    obtain ⟨h', w', e, h1, h2⟩ := mapUpdate_sound (P := P) hE hr ha hm hk hx
    cases e
    exact ⟨undef, w', μ, .inr ⟨by simp [h1], rfl⟩, h2, VR.undef⟩
  case range t x =>
    have hx := ho x (by simp [Op.operands])
    unfold rangeMapA at ha
    split at ha
    · rename_i i m hi hm
      split at ha <;> cases ha
      rename_i es clock hd hg
      rw [hm] at hx
      exact ValS.op (s := Instr.range t (a x)) fun hr => rangeMap_sound (P := P) (_x := .nilFunc) hE hr hi hd hg hx
    · obtain ⟨v, ob, rfl, hn⟩ := range_sound (P := P) (μ := μ) (w := w) hE ha hx
      exact ValS.op (s := Instr.range t (a x)) hn
  case next it s =>
    have hx := ho it (by simp [Op.operands])
    obtain ⟨v0, h0, rfl⟩ := next_eff ha
    refine ValS.op (s := Instr.next (a it) s ty) fun hr => ?_
    obtain ⟨v, h', e, g⟩ := next_sound (P := P) hr ty ha hx
    cases e; exact g
  case extract t k =>
    have ht := ho t (by simp [Op.operands])
    unfold extractA at ha
    split at ha <;> try (cases ha; done)
    rename_i vs hvs
    rw [hvs] at ht
    obtain ⟨l', e, hl⟩ := ht.tupleI
    refine ValS.op (s := Instr.extract (a t) k) (pure_val ha fun u hu w => ?_)
    obtain ⟨v', h1, h2⟩ := hl.get hu
    refine ⟨v', ?_, h2⟩
    rw [e]
    have : (Array.mk l')[k]? = some v' := by simpa using h1
    simp [Instr.extract, this]
  case call c =>
    exact callOp_sound hE ty ha fun x hx => ho x (by simpa [Op.operands] using hx)
end
end Go.Ev
end
section
namespace Go.Ev
/-! from operations to code -/

def constV : Value → Bool
  | .agg cs => cs.toList.all litV
  | .tuple cs => cs.toList.all litV
  | v => litV v
theorem constV_R {μ : Mu} {v : Value} (h : constV v = true) : VR μ v v := by
  cases v with
  | agg cs => exact .agg _ _ (VRs.lits fun v hv => List.all_eq_true.1 h v hv)
  | tuple cs => exact .tuple _ _ (VRs.lits fun v hv => List.all_eq_true.1 h v hv)
  | _ => exact .lit _ h

/-- the globals that the code may name lie where they lie -/
def GR (G : Nat → Bool) (μ : Mu) : Prop := ∀ g, G g = true → μ.has g ∧ ∀ r ro sz, μ g = .at_ r ro sz → r = g ∧ ro = 0
theorem GR.later {G : Nat → Bool} {μ μ' : Mu} (h : GR G μ) (hl : Later μ μ') : GR G μ' := fun g hg =>
  ⟨hl.no (h g hg).1, fun r ro sz e => (h g hg).2 r ro sz (hl.at_ (h g hg).1 e)⟩

def opdOk (G : Nat → Bool) : Operand → Bool
  | .const v => constV v
  | .global g => G g
  | _ => true
def operOk (G : Nat → Bool) (N : Nat) (o : Oper) : Bool :=
  o.op.operands.toList.all (opdOk G) && (match o.dst with | some d => Nat.blt d N | none => true)
def codeOk (G : Nat → Bool) (N : Nat) : Code → Bool
  | .region _ ops _ => ops.toList.all (operOk G N)
  | .seq a b => codeOk G N a && codeOk G N b
  | .cond c a b => opdOk G c && codeOk G N a && codeOk G N b
  | .block _ b => codeOk G N b
  | .loop b => codeOk G N b
  | .scope b => codeOk G N b
  | _ => true

/-- temporaries -/
def TR (μ : Mu) (tm : Tr Value) (tmps : Array Value) : Prop := ∀ t, VR μ (ev tm (.tmp t)) (tmps.getD t undef)
theorem TR.later {μ μ' : Mu} {tm : Tr Value} {tmps : Array Value} (h : TR μ tm tmps) (hl : Later μ μ') : TR μ' tm tmps := fun t => (h t).later hl

theorem TR.opd {G : Nat → Bool} {μ : Mu} {tm : Tr Value} {a : Act} (h : TR μ tm a.tmps) (hg : GR G μ) {x : Operand} (hx : opdOk G x = true) : VR μ (ev tm x) (a.eval x) := by
  cases x with
  | tmp t => exact h t
  | const v => exact constV_R hx
  | global g =>
    obtain ⟨h1, h2⟩ := hg g hx
    exact .ptr _ _ ⟨rfl, h1, fun r ro sz e => by obtain ⟨rfl, rfl⟩ := h2 r ro sz e; rfl⟩
  | func f => exact .func _ _ _ _ _ .nil .nil
theorem TR.opds {G : Nat → Bool} {μ : Mu} {tm : Tr Value} {a : Act} (h : TR μ tm a.tmps) (hg : GR G μ) {l : List Operand} (hx : l.all (opdOk G) = true) : OpsR μ tm a.eval l :=
  fun x hm => h.opd hg (List.all_eq_true.1 hx x hm)

theorem ev_put (tm : Tr Value) (d t : Nat) (v : Value) : ev (tm.put d (some v)) (.tmp t) = if t = d then v else ev tm (.tmp t) := by
  by_cases e : t = d <;> simp [ev, Tr.get_put, e]
theorem TR.put {μ : Mu} {tm : Tr Value} {a : Act} (h : TR μ tm a.tmps) {dst : Option Tmp} (hd : ∀ d, dst = some d → d < a.tmps.size) {v v' : Value} (hv : VR μ v v') : TR μ (putT tm dst v) (a.put dst v').tmps := by
  cases dst with
  | none => exact h
  | some d =>
    intro t
    have hlt := hd d rfl
    simp only [putT, Act.put]
    rw [ev_put]
    by_cases e : t = d
    · subst e
      rw [if_pos rfl]
      have : (a.tmps.setIfInBounds t v').getD t undef = v' := by simp [Array.getD, hlt]
      rw [this]; exact hv
    · rw [if_neg e]
      have : (a.tmps.setIfInBounds d v').getD t undef = a.tmps.getD t undef := by
        rw [Array.getD_eq_getD_getElem?, Array.getD_eq_getD_getElem?, Array.getElem?_setIfInBounds_ne (fun h => e h.symm)]
      rw [this]; exact h t

theorem VR.toBool {μ : Mu} {v : Value} {b : Bool} (h : VR μ v (.bool b)) (hk : kn v = true) : v = .bool b := by
  cases h with
  | imm l n k v' h => obtain ⟨a, cap, e, _⟩ := h; cases e
  | immp l v' h => obtain ⟨r, o, e, _⟩ := h; cases e
  | any v' => cases hk
  | lit v h => rfl

theorem yielded_eq {μ : Mu} {tm : Tr Value} {tmps : Array Value} (h : TR μ tm tmps) (ops : Array Oper) (j : Nat) (hk : ∀ o d, ops[j]? = some o → o.dst = some d → ∃ v, tm.get d = some v ∧ kn v = true) : yieldedA ops.toList tm j = yielded ops tmps j := by
  unfold yieldedA yielded
  have e : ops.toList[j]? = ops[j]? := by simp
  rw [e]
  cases ho : ops[j]? with
  | none => rfl
  | some o =>
    simp only [Option.bind_some]
    cases hd0 : o.dst with
    | none => rfl
    | some d =>
      simp only [Option.bind_some]
      have ht := h d
      simp only [ev] at ht
      rw [Array.getD_eq_getD_getElem?] at ht
      obtain ⟨v0, hg0, hk0⟩ := hk _ _ ho hd0
      cases hg : tm.get d with
      | none => rw [hg] at hg0; cases hg0
      | some v =>
        rw [hg] at hg0
        obtain rfl : v = v0 := by simpa using hg0
        rw [hg] at ht
        simp only at ht
        cases hd : tmps[d]? with
        | none =>
          rw [hd] at ht
          simp at ht
          cases v with
          | bool b => cases ht.bool
          | _ => rfl
        | some u =>
          rw [hd] at ht
          simp at ht
          cases v with
          | bool b => rw [ht.bool]
          | _ => cases u with
            | bool b => have := ht.toBool hk0; cases this
            | _ => rfl

theorem guardKn_spec {ops : Array Oper} {tm : Tr Value} {o : Oper} (h : guardKn ops.toList tm o = true) {j : Nat} {b : Bool} (hg : o.guard = some (j, b)) : ∀ p d, ops[j]? = some p → p.dst = some d → ∃ v, tm.get d = some v ∧ kn v = true := by
  intro p d h1 h2
  unfold guardKn at h
  rw [hg] at h
  have e : ops.toList[j]? = some p := by simpa using h1
  simp only [e, h2] at h
  cases hg : tm.get d with
  | none => rw [hg] at h; cases h
  | some v => rw [hg] at h; exact ⟨v, rfl, h⟩
theorem wanted_eq {μ : Mu} {tm : Tr Value} {tmps : Array Value} (h : TR μ tm tmps) (ops : Array Oper) (o : Oper) (hgk : guardKn ops.toList tm o = true) : wantedA ops.toList tm o = Region.wanted o (yielded ops tmps) := by
  unfold wantedA Region.wanted
  cases hg : o.guard with
  | none => rfl
  | some p =>
    obtain ⟨j, b⟩ := p
    simp only
    rw [yielded_eq h ops j (guardKn_spec hgk hg)]
    cases yielded ops tmps j with
    | none => rfl
    | some c => cases b <;> cases c <;> rfl

/-- what a call promises -/
def CallerOk (P : Program) (G : Nat → Bool) (call : Caller) : Prop :=
  ∀ f args h v h' μ w args', call f args h = some (v, h') → Rel μ h w → GR G μ → VRs μ args args' →
    ∀ (o : Oper) (a : Act) (next : Act → World → Prop) (Q : Exit → Act → World → Prop), (∀ v' w' μ', Post μ h w μ' h' w' → VR μ' v v' → next (a.put o.dst v') w') →
      o.upon P a next Q ((callFunc f ⟨args'⟩).run P w)

/-- what a call of f at these arguments promises -/
def CallOk (P : Program) (G : Nat → Bool) (f : FuncId) (args : List Value) (h : AH) (v : Value) (h' : AH) : Prop :=
  ∀ (μ : Mu) (w : World) (args' : List Value), Rel μ h w → GR G μ → VRs μ args args' →
    ∀ (o : Oper) (a : Act) (next : Act → World → Prop) (Q : Exit → Act → World → Prop), (∀ v' w' μ', Post μ h w μ' h' w' → VR μ' v v' → next (a.put o.dst v') w') →
      o.upon P a next Q ((callFunc f ⟨args'⟩).run P w)

/-- what an operation does that has come to something -/
def Does (P : Program) (G : Nat → Bool) (h : AH) (ar : AR) (v : Value) (h' : AH) : Prop :=
  match ar with
  | .call f args => CallOk P G f args h v h'
  | ar => does (fun _ _ _ => none) h ar = some (v, h')
theorem does_Does {P : Program} {G : Nat → Bool} {call : Caller} (hc : CallerOk P G call) {h h' : AH} {ar : AR} {v : Value} (hd : does call h ar = some (v, h')) : Does P G h ar v h' := by
  cases ar with
  | call f args => exact fun μ w args' hr hg ha => hc f args h v h' μ w args' hd hr hg ha
  | _ => exact hd

structure EnvOk (P : Program) (G : Nat → Bool) (E : Env) : Prop where
  ti : TIs P E
  places : PlacesOk P E

section
variable {P : Program} {E : Env} {G : Nat → Bool}

theorem step_soundD (hE : EnvOk P G E) {o : Oper} {tm : Tr Value} {h h' : AH} {ar : AR} {v : Value} {μ : Mu} {w : World} {a : Act}
    (ha : aop E o.op tm h = some ar) (hd : Does P G h ar v h') (hr : Rel μ h w) (hg : GR G μ) (ho : OpsR μ tm a.eval o.op.operands.toList)
    {next : Act → World → Prop} {Q : Exit → Act → World → Prop} (hn : ∀ v' w' μ', Post μ h w μ' h' w' → VR μ' v v' → next (a.put o.dst v') w') : o.wp P a w next Q := by
  have hs := aop_sound (P := P) (μ := μ) (h := h) (w := w) hE.ti hE.places ha ho
  unfold Oper.wp
  cases ar with
  | pur u =>
    cases hd
    obtain ⟨v', h1, h2⟩ := hs w
    simp only at h1; rw [h1]; exact hn v' w μ (Post.refl hr) h2
  | read u =>
    cases hd
    obtain ⟨v', h1, h2⟩ := hs hr
    simp only at h1; rw [h1]; exact hn v' w μ (Post.refl hr) h2
  | new u ob =>
    cases hd
    obtain ⟨v', w', o', sz, h1, h2, h3, h4⟩ := hs
    simp only at h1; rw [h1]
    obtain ⟨μ', p, hm⟩ := Post.alloc hr h2.1 h3 h2.2
    exact hn v' w' μ' p (h4 μ' p.later hm)
  | eff u h2 =>
    cases hd
    obtain ⟨v', w', μ', h1, p, hv⟩ := hs hr
    rcases h1 with h1 | ⟨h1, rfl⟩
    · simp only at h1; rw [h1]; exact hn v' w' μ' p hv
    · simp only at h1; rw [h1]; exact hn undef w' μ' p hv
  | call f args =>
    obtain ⟨args', h1, h2⟩ := hs
    have := h1 w
    simp only at this; rw [this]
    exact hd μ w args' hr hg h2 o a next Q hn
theorem step_sound (hE : EnvOk P G E) {call : Caller} (hc : CallerOk P G call) {o : Oper} {tm : Tr Value} {h h' : AH} {ar : AR} {v : Value} {μ : Mu} {w : World} {a : Act}
    (ha : aop E o.op tm h = some ar) (hd : does call h ar = some (v, h')) (hr : Rel μ h w) (hg : GR G μ) (ho : OpsR μ tm a.eval o.op.operands.toList)
    {next : Act → World → Prop} {Q : Exit → Act → World → Prop} (hn : ∀ v' w' μ', Post μ h w μ' h' w' → VR μ' v v' → next (a.put o.dst v') w') : o.wp P a w next Q :=
  step_soundD hE ha (does_Does hc hd) hr hg ho hn

/-- the state of a body -/
structure SR' (G : Nat → Bool) (N : Nat) (μ : Mu) (s : ES) (a : Act) (w : World) : Prop where
  rel : Rel μ s.h w
  glob : GR G μ
  tmps : TR μ s.tm a.tmps
  size : a.tmps.size = N
  defers : a.defers = []

theorem SR'.put {N : Nat} {μ μ' : Mu} {s : ES} {a : Act} {w w' : World} {h' : AH} (hs : SR' G N μ s a w) (p : Post μ s.h w μ' h' w') {dst : Option Tmp} (hd : ∀ d, dst = some d → d < N) {v v' : Value} (hv : VR μ' v v') :
    SR' G N μ' ⟨putT s.tm dst v, h'⟩ (a.put dst v') w' := by
  refine ⟨p.rel, hs.glob.later p.later, (hs.tmps.later p.later).put (fun d e => by rw [hs.size]; exact hd d e) hv, ?_, ?_⟩
  · cases dst <;> simp [Act.put, hs.size]
  · cases dst <;> exact hs.defers

theorem dst_lt {N : Nat} {o : Oper} (h : operOk G N o = true) : ∀ d, o.dst = some d → d < N := by
  intro d e
  simp only [operOk, Bool.and_eq_true] at h
  have := h.2
  rw [e] at this
  simpa [Nat.blt_eq] using this

theorem evOps_sound (hE : EnvOk P G E) {call : Caller} (hc : CallerOk P G call) {ops : Array Oper} {N : Nat} {Q : Exit → Act → World → Prop} : ∀ (l : List Oper) (k : Nat), ops.toList.drop k = l → l.all (operOk G N) = true →
    ∀ {s s' : ES} {μ : Mu} {a : Act} {w : World}, evOps E call ops.toList l s = some s' → SR' G N μ s a w →
    (∀ a' w' μ', Post μ s.h w μ' s'.h w' → SR' G N μ' s' a' w' → Q .normal a' w') → wpOps P ops Q (List.range' k l.length) a w
  | [], k, _, _, s, s', μ, a, w, h, hs, hq => by
    simp [evOps] at h; subst h
    exact hq a w μ (Post.refl hs.rel) hs
  | o :: l, k, hl, hall, s, s', μ, a, w, h, hs, hq => by
    have hk : ops[k]? = some o := by
      have : (ops.toList.drop k)[0]? = some o := by rw [hl]; rfl
      simpa using this
    have hl' : ops.toList.drop (k + 1) = l := by
      have : (ops.toList.drop k).drop 1 = l := by rw [hl]; rfl
      simpa using this
    simp only [List.all_cons, Bool.and_eq_true] at hall
    have hd := dst_lt hall.1
    rw [List.length_cons, List.range'_succ, wpOps_cons]
    unfold evOps at h
    unfold wpOp
    rw [hk]
    simp only
    cases he : evOne E call ops.toList o s with
    | none => rw [he] at h; cases h
    | some s₁ =>
      rw [he] at h
      simp only at h
      unfold evOne at he
      cases hgk : guardKn ops.toList s.tm o with
      | false => rw [hgk] at he; cases he
      | true =>
      rw [hgk] at he
      simp only at he
      rw [wanted_eq hs.tmps ops o hgk] at he
      cases hw : Region.wanted o (yielded ops a.tmps) with
      | false =>
        rw [hw] at he
        simp only at he
        cases he
        simp only [Bool.false_eq_true, if_false]
        have hs1 := hs.put (Post.refl hs.rel) hd (VR.undef)
        exact evOps_sound hE hc l (k + 1) hl' hall.2 h hs1 (fun a' w' μ' p h2 => hq a' w' μ' p h2)
      | true =>
        rw [hw] at he
        simp only at he
        cases ha : aop E o.op s.tm s.h with
        | none => rw [ha] at he; cases he
        | some ar =>
          rw [ha] at he
          simp only at he
          cases hdo : does call s.h ar with
          | none => rw [hdo] at he; cases he
          | some p =>
            obtain ⟨v, h1⟩ := p
            rw [hdo] at he
            simp only at he
            cases he
            simp only [if_true]
            have hop : OpsR μ s.tm a.eval o.op.operands.toList := by
              have := hall.1
              simp only [operOk, Bool.and_eq_true] at this
              exact hs.tmps.opds hs.glob this.1
            exact .inl (step_sound hE hc ha hdo hs.rel hs.glob hop fun v' w' μ' p hv =>
              evOps_sound hE hc l (k + 1) hl' hall.2 h (hs.put p hd hv) fun a' w'' μ'' p' h2 => hq a' w'' μ'' (p.trans p') h2)
end
end Go.Ev
end
section
namespace Go.Ev
/-! the trace of a region, and what its checks say -/

mutual
theorem veq_eq : ∀ {a b : Value}, veq a b = true → a = b
  | .bool _, b, h => by cases b <;> simp [veq] at h; rw [h]
  | .int _ _, b, h => by cases b <;> simp [veq] at h; rw [h.1, h.2]
  | .float _ _, b, h => by cases b <;> simp [veq] at h
  | .complex _ _ _, b, h => by cases b <;> simp [veq] at h
  | .string _, b, h => by cases b <;> simp [veq] at h; rw [h]
  | .pointer _, b, h => by cases b <;> simp [veq] at h; rw [h]
  | .slice _ _ _, b, h => by cases b <;> simp [veq] at h; rw [h.1.1, h.1.2, h.2]
  | .map _, b, h => by cases b <;> simp [veq] at h; rw [h]
  | .chan _, b, h => by cases b <;> simp [veq] at h
  | .func f ⟨x⟩ ⟨y⟩, b, h => by
    cases b <;> simp [veq] at h
    rename_i g c d
    obtain ⟨c⟩ := c
    obtain ⟨d⟩ := d
    simp at h
    obtain ⟨⟨h1, h2⟩, h3⟩ := h
    rw [h1, veqs_eq h2, veqs_eq h3]
  | .nilFunc, b, h => by cases b <;> simp [veq] at h; rfl
  | .iface _ _, b, h => by
    cases b <;> simp [veq] at h
    rw [h.1, veq_eq h.2]
  | .nilIface, b, h => by cases b <;> simp [veq] at h; rfl
  | .agg ⟨x⟩, b, h => by
    cases b <;> simp [veq] at h
    rename_i c
    obtain ⟨c⟩ := c
    simp at h
    rw [veqs_eq h]
  | .tuple ⟨x⟩, b, h => by
    cases b <;> simp [veq] at h
    rename_i c
    obtain ⟨c⟩ := c
    simp at h
    rw [veqs_eq h]
theorem veqs_eq : ∀ {a b : List Value}, veqs a b = true → a = b
  | [], [], _ => rfl
  | [], _ :: _, h => by simp [veqs] at h
  | _ :: _, [], h => by simp [veqs] at h
  | a :: l, b :: m, h => by
    simp [veqs] at h
    rw [veq_eq h.1, veqs_eq h.2]
end
theorem objEq_eq {a b : AObj} (h : objEq a b = true) : a = b := by
  unfold objEq at h
  split at h
  · simp at h
    obtain ⟨⟨⟨h1, h2⟩, h3⟩, h4⟩ := h
    rw [veqs_eq h1, h2, h3, h4]
  · simp at h; rw [h.1, h.2]
  · simp at h; rw [h]
  · simp at h; rw [h.1.1, h.1.2, h.2]
  · cases h

/-! fewer names -/
mutual
theorem VR.restrict {μ ν : Mu} (hi : ∀ r i v, μ.f.im r i v → ν.f.im r i v) (hf : ∀ b, b < ν.n → μ.has b → ν b = μ b) : ∀ {v v' : Value}, VR μ v v' → vb ν.n v = true → VR ν v v'
  | _, _, .lit v h, _ => .lit v h
  | _, _, .ptr a a' h, hb => by
    simp [vb, Nat.blt_eq] at hb
    refine .ptr a a' ⟨h.1, ⟨hb, by rw [hf _ hb h.2.1]; exact h.2.1.2⟩, fun r ro sz e => h.2.2 r ro sz (by rw [← hf _ hb h.2.1]; exact e)⟩
  | _, _, .slice a a' l k c h, hb => by
    simp [vb, Nat.blt_eq] at hb
    exact .slice a a' l k c ⟨h.1, ⟨hb, by rw [hf _ hb h.2.1]; exact h.2.1.2⟩, h.2.2.1, fun r ro sz e => h.2.2.2 r ro sz (by rw [← hf _ hb h.2.1]; exact e)⟩
  | _, _, .map b r h, hb => by
    simp [vb, Nat.blt_eq] at hb
    exact .map b r ⟨⟨hb, by rw [hf _ hb h.1]; exact h.1.2⟩, fun r' ro' sz' e => h.2 r' ro' sz' (by rw [← hf _ hb h.1]; exact e)⟩
  | _, _, .func f x y x' y' hx hy, hb => by
    simp [vb] at hb
    exact .func f x y x' y' (VRs.restrict hi hf hx hb.1) (VRs.restrict hi hf hy hb.2)
  | _, _, .iface t v v' h, hb => by
    simp [vb] at hb
    exact .iface t v v' (VR.restrict hi hf h hb)
  | _, _, .agg x x' h, hb => by
    simp [vb] at hb
    exact .agg x x' (VRs.restrict hi hf h hb)
  | _, _, .tuple x x' h, hb => by
    simp [vb] at hb
    exact .tuple x x' (VRs.restrict hi hf h hb)
  | _, _, .imm l n k v' h, _ => by
    obtain ⟨a, cap, e, hc, h⟩ := h
    exact .imm l n k v' ⟨a, cap, e, hc, h.imp id fun ⟨r, o, h1, h2, h3⟩ => ⟨r, o, h1, h2, fun i u hu => hi _ _ _ (h3 i u hu)⟩⟩
  | _, _, .immp l v' h, _ => by
    obtain ⟨r, o, e, h⟩ := h
    exact .immp l v' ⟨r, o, e, fun i u hu => hi _ _ _ (h i u hu)⟩
  | _, _, .any v', _ => .any v'
theorem VRs.restrict {μ ν : Mu} (hi : ∀ r i v, μ.f.im r i v → ν.f.im r i v) (hf : ∀ b, b < ν.n → μ.has b → ν b = μ b) : ∀ {l l' : List Value}, VRs μ l l' → vbs ν.n l = true → VRs ν l l'
  | _, _, .nil, _ => .nil
  | _, _, .cons v v' l l' h hl, hb => by
    simp [vbs] at hb
    exact .cons _ _ _ _ (VR.restrict hi hf h hb.1) (VRs.restrict hi hf hl hb.2)
end

/-! what comes ahead of what -/
theorem foldl_or_bit (acc : List Nat) (m : Nat) : ∀ (es : List Edge) (s : Nat), (es.foldl (fun s e => match Region.binds .any e with | true => s ||| 2 ^ e.on ||| acc.getD e.on 0 | false => s) s).testBit m = true →
    s.testBit m = true ∨ ∃ e ∈ es, Region.binds .any e = true ∧ (e.on = m ∨ (acc.getD e.on 0).testBit m = true)
  | [], s, h => .inl h
  | e :: es, s, h => by
    simp only [List.foldl_cons] at h
    rcases foldl_or_bit acc m es _ h with h1 | ⟨e', h1, h2⟩
    · cases hb : Region.binds .any e with
      | false => rw [hb] at h1; exact .inl h1
      | true =>
        rw [hb] at h1
        simp only [Nat.testBit_or, Bool.or_eq_true, Nat.testBit_two_pow, decide_eq_true_eq] at h1
        rcases h1 with (h1 | h1) | h1
        · exact .inl h1
        · exact .inr ⟨e, by simp, hb, .inl h1⟩
        · exact .inr ⟨e, by simp, hb, .inr h1⟩
    · exact .inr ⟨e', by simp [h1], h2⟩

theorem befFrom_prefix : ∀ (l : List Oper) (acc : List Nat), ∃ more, befFrom l acc = acc ++ more
  | [], acc => ⟨[], by simp [befFrom]⟩
  | o :: l, acc => by
    unfold befFrom
    obtain ⟨more, h⟩ := befFrom_prefix l (acc ++ _)
    exact ⟨_ :: more, by rw [h, List.append_assoc]; rfl⟩

theorem befFrom_spec (full : List Nat) : ∀ (l : List Oper) (acc : List Nat), befFrom l acc = full → ∀ (j m : Nat), acc.length ≤ j → bit full j m = true →
    ∃ o, l[j - acc.length]? = some o ∧ ∃ e ∈ o.after.toList, Region.binds .any e = true ∧ (e.on = m ∨ bit full e.on m = true)
  | [], acc, hf, j, m, hj, hb => by
    simp [befFrom] at hf
    subst hf
    unfold bit at hb
    rw [List.getD_eq_getElem?_getD, List.getElem?_eq_none hj] at hb
    simp at hb
  | o :: l, acc, hf, j, m, hj, hb => by
    by_cases he : j = acc.length
    · refine ⟨o, by rw [he]; simp, ?_⟩
      obtain ⟨more, hm⟩ := befFrom_prefix (o :: l) acc
      unfold befFrom at hf
      obtain ⟨more2, hm2⟩ := befFrom_prefix l (acc ++ [o.after.toList.foldl (fun s e => match Region.binds .any e with
        | true => s ||| 2 ^ e.on ||| acc.getD e.on 0
        | false => s) 0])
      have hm2 := hf.symm.trans hm2
      have hj2 : full.getD j 0 = o.after.toList.foldl (fun s e => match Region.binds .any e with
        | true => s ||| 2 ^ e.on ||| acc.getD e.on 0
        | false => s) 0 := by
        rw [he, hm2, List.getD_eq_getElem?_getD]
        simp
      unfold bit at hb
      rw [hj2] at hb
      rcases foldl_or_bit acc m _ _ hb with h1 | ⟨e, h1, h2, h3⟩
      · simp at h1
      · refine ⟨e, h1, h2, ?_⟩
        rcases h3 with h3 | h3
        · exact .inl h3
        · right
          unfold bit
          have hlt : e.on < acc.length := by
            rcases Nat.lt_or_ge e.on acc.length with h | h
            · exact h
            · rw [List.getD_eq_getElem?_getD, List.getElem?_eq_none h] at h3; simp at h3
          have : full.getD e.on 0 = acc.getD e.on 0 := by
            rw [hm2, List.append_assoc, List.getD_eq_getElem?_getD, List.getD_eq_getElem?_getD, List.getElem?_append_left hlt]
          rw [this]; exact h3
    · unfold befFrom at hf
      obtain ⟨o', h1, h2⟩ := befFrom_spec full l _ hf j m (by simp; omega) hb
      refine ⟨o', ?_, h2⟩
      rw [show j - acc.length = (j - (acc.length + 1)) + 1 by omega]
      simpa using h1

theorem bef_spec {ops : List Oper} {j m : Nat} (h : bit (befOf ops) j m = true) : ∃ o, ops[j]? = some o ∧ ∃ e ∈ o.after.toList, Region.binds .any e = true ∧ (e.on = m ∨ bit (befOf ops) e.on m = true) := by
  have := befFrom_spec (befOf ops) ops [] rfl j m (Nat.zero_le _) h
  simpa using this

/-! the trace -/
def hAt (rows : List TRow) (s' : ES) (j : Nat) : AH := match rows[j]? with | some r => r.h | none => s'.h
def tAt (rows : List TRow) (s' : ES) (j : Nat) : Tr Value := match rows[j]? with | some r => r.tm | none => s'.tm

structure StepOk (P : Program) (G : Nat → Bool) (E : Env) (ops : List Oper) (r : TRow) (T' : Tr Value) (H' : AH) : Prop where
  gk : guardKn ops r.tm r.o = true
  run : r.run = wantedA ops r.tm r.o
  tm : T' = putT r.tm r.o.dst r.v
  yes : r.run = true → aop E r.o.op r.tm r.h = some r.ar ∧ Does P G r.h r.ar r.v H'
  no : r.run = false → r.v = undef ∧ H' = r.h

/-- the rows of a walk in the text's order -/
def TraceR (P : Program) (G : Nat → Bool) (E : Env) (ops : List Oper) : List Oper → Nat → ES → ES → List TRow → Prop
  | [], _, s, s', rows => s' = s ∧ rows = []
  | o :: l, i, s, s', rows => ∃ r rows' s1, rows = r :: rows' ∧ r.i = i ∧ r.o = o ∧ r.tm = s.tm ∧ r.h = s.h ∧ StepOk P G E ops r s1.tm s1.h ∧ TraceR P G E ops l (i + 1) s1 s' rows'

theorem evTrace_R {P : Program} {G : Nat → Bool} {E : Env} {call : Caller} (hc : CallerOk P G call) {ops : List Oper} : ∀ (l : List Oper) (k : Nat) (s s' : ES) (rows : List TRow), evTrace E call ops l k s = some (s', rows) → TraceR P G E ops l k s s' rows
  | [], k, s, s', rows, h => by
    simp [evTrace] at h
    obtain ⟨rfl, rfl⟩ := h
    exact ⟨rfl, rfl⟩
  | o :: l, k, s, s', rows, h => by
    unfold evTrace at h
    split at h <;> try (cases h; done)
    rename_i s₁ r hr
    split at h <;> cases h
    rename_i rows' ht
    refine ⟨r, rows', s₁, rfl, ?_⟩
    have hr' : r.i = k ∧ r.o = o ∧ r.tm = s.tm ∧ r.h = s.h ∧ StepOk P G E ops r s₁.tm s₁.h := by
      unfold trOne at hr
      split at hr <;> try (cases hr; done)
      rename_i hgk
      split at hr
      · rename_i hw
        split at hr <;> try (cases hr; done)
        rename_i ar ha
        split at hr <;> cases hr
        rename_i v h' hd
        exact ⟨rfl, rfl, rfl, rfl, ⟨hgk, hw.symm, rfl, fun _ => ⟨ha, does_Does hc hd⟩, fun h => by cases h⟩⟩
      · rename_i hw
        cases hr
        exact ⟨rfl, rfl, rfl, rfl, ⟨hgk, hw.symm, rfl, fun h => (by cases h), fun _ => ⟨rfl, rfl⟩⟩⟩
    obtain ⟨e1, e2, e3, e4, e5⟩ := hr'
    exact ⟨e1, e2, e3, e4, e5, evTrace_R hc l (k + 1) s₁ s' rows' ht⟩

theorem trace_spec {P : Program} {G : Nat → Bool} {E : Env} {ops : List Oper} : ∀ (l : List Oper) (k : Nat) (s s' : ES) (rows : List TRow), TraceR P G E ops l k s s' rows →
    rows.length = l.length ∧ tAt rows s' 0 = s.tm ∧ hAt rows s' 0 = s.h ∧
    ∀ (j : Nat) (o : Oper), l[j]? = some o → ∃ r, rows[j]? = some r ∧ r.i = k + j ∧ r.o = o ∧ StepOk P G E ops r (tAt rows s' (j + 1)) (hAt rows s' (j + 1))
  | [], k, s, s', rows, h => by
    obtain ⟨rfl, rfl⟩ := h
    exact ⟨rfl, rfl, rfl, by simp⟩
  | o :: l, k, s, s', rows, h => by
    obtain ⟨r, rows', s₁, rfl, e1, e2, e3, e4, e5, ht⟩ := h
    obtain ⟨h1, h2, h3, h4⟩ := trace_spec l (k + 1) s₁ s' rows' ht
    refine ⟨by simp [h1], by simp [tAt, e3], by simp [hAt, e4], fun j p hp => ?_⟩
    have ht' : ∀ j, tAt (r :: rows') s' (j + 1) = tAt rows' s' j := fun j => by simp [tAt]
    have hh' : ∀ j, hAt (r :: rows') s' (j + 1) = hAt rows' s' j := fun j => by simp [hAt]
    cases j with
    | zero =>
      simp at hp; subst hp
      refine ⟨r, rfl, e1, e2, ?_⟩
      rw [ht', hh', h2, h3]; exact e5
    | succ j =>
      obtain ⟨q, q1, q2, q3, q4⟩ := h4 j p (by simpa using hp)
      refine ⟨q, by simpa using q1, by omega, q3, ?_⟩
      rw [ht', hh']; exact q4
end Go.Ev
end
section
namespace Go.Ev
/-! regions that draw their order -/

/-- a region whose trace has been looked at -/
structure Ctx (P : Program) (G : Nat → Bool) (E : Env) (ops : Array Oper) where
  R : Nat → TRow
  H : Nat → AH
  T : Nat → Tr Value
  row : ∀ i, i < ops.size → ops[i]? = some (R i).o ∧ (R i).i = i ∧ (R i).tm = T i ∧ (R i).h = H i ∧ StepOk P G E ops.toList (R i) (T (i + 1)) (H (i + 1))
  mono : ∀ i j, i ≤ j → j ≤ ops.size → (H i).next ≤ (H j).next
  clash : ∀ i j, i < j → j < ops.size → Ev.clash ops.toList (R i).o (R j).o = true → bit (befOf ops.toList) j i = true
  effs : ∀ x y, x < y → y < ops.size → (R x).run = true → isEff (R x).ar = true → (R y).run = true → isEff (R y).ar = true → bit (befOf ops.toList) y x = true
  check : ∀ i, i < ops.size → (R i).run = true → needs (R i).ar = true → ∀ e, e ≤ ops.size → (e = ops.size ∨ ((R e).run = true ∧ isEff (R e).ar = true)) →
    (∀ x, x < ops.size → (R x).run = true → isEff (R x).ar = true → (bit (befOf ops.toList) i x = true → x < e) ∧ (x < e → bit (befOf ops.toList) x i = false)) → HoldsP E (R i) e (H e)

section
variable {P : Program} {G : Nat → Bool} {E : Env} {ops : Array Oper} (C : Ctx P G E ops)

def Ctx.eff (i : Nat) : Prop := i < ops.size ∧ (C.R i).run = true ∧ isEff (C.R i).ar = true
def Ctx.isNew (i : Nat) (o : AObj) : Prop := i < ops.size ∧ (C.R i).run = true ∧ ∃ v, (C.R i).ar = .new v o

theorem Ctx.new_next {i : Nat} {o : AObj} (h : C.isNew i o) : C.H (i + 1) = (C.H i).alloc o := by
  obtain ⟨h1, h2, v, h3⟩ := h
  obtain ⟨_, _, _, h4, h5⟩ := C.row i h1
  obtain ⟨_, h6⟩ := h5.yes h2
  rw [h3, h4] at h6
  simp [Does, does] at h6
  exact h6.2.symm
theorem Ctx.new_lt {i j : Nat} {o : AObj} (h : C.isNew i o) (hij : i < j) (hj : j ≤ ops.size) : (C.H i).next < (C.H j).next := by
  have := C.mono (i + 1) j hij hj
  rw [C.new_next h, AH.next_alloc] at this
  omega

structure InvAt (N : Nat) (μ0 : Mu) (h0 : AH) (w0 : World) (p : Nat) (S : Nat → Prop) (a : Act) (w : World) (μ : Mu) (F : MF) : Prop where
  le : p ≤ ops.size
  order : ∀ x, C.eff x → (S x ↔ x < p)
  closed : ∀ j, S j → j < ops.size ∧ ∀ m, bit (befOf ops.toList) j m = true → S m
  post : Post μ0 h0 w0 μ (C.H p) w
  glob : GR G μ
  agree : ∀ b, b < (C.H p).next → F b = μ b
  ims : F.im = μ.f.im
  late : ∀ i o, i < p → C.isNew i o → ¬ S i → μ (C.H i).next = .no
  pend : ∀ i o, p ≤ i → C.isNew i o → S i → ∃ r sz o', F (C.H i).next = .at_ r 0 sz ∧ w0.heap.size ≤ r ∧ w.heap[r]? = some o' ∧ (∀ b ro' sz', μ b ≠ .at_ r ro' sz') ∧ (∀ i v, ¬ μ.f.im r i v) ∧ ObjR ⟨(C.H i).next, F⟩ 0 sz o o'
  dist : ∀ b c r ro sz ro' sz', F b = .at_ r ro sz → F c = .at_ r ro' sz' → b = c
  fno : ∀ b, (C.H p).next ≤ b → F b ≠ .no → ∃ i o, p ≤ i ∧ C.isNew i o ∧ S i ∧ b = (C.H i).next
  tm : ∀ j t, j ≤ ops.size → (∀ i, i < j → (C.R i).o.dst = some t → S i) → (∀ i, j ≤ i → i < ops.size → (C.R i).o.dst = some t → ¬ S i) → VR ⟨(C.H j).next, F⟩ (ev (C.T j) (.tmp t)) (a.tmps.getD t undef)
  size : a.tmps.size = N
  defers : a.defers = []

/-- a block that the world has already is told of -/
theorem Post.adopt {μ0 μ : Mu} {h0 h : AH} {w0 w : World} {r sz : Nat} {o : AObj} {o' : Obj} (p : Post μ0 h0 w0 μ h w) (hr : w0.heap.size ≤ r) (hw : w.heap[r]? = some o') (hn : ∀ b ro' sz', μ b ≠ .at_ r ro' sz') (hni : ∀ i v, ¬ μ.f.im r i v)
    (ho : ∀ μ', Later μ μ' → ObjR μ' 0 sz o o') : Post μ0 h0 w0 ⟨h.next + 1, ⟨fun b => if b = h.next then .at_ r 0 sz else μ b, μ.f.im⟩⟩ (h.alloc o) w ∧ Later μ ⟨h.next + 1, ⟨fun b => if b = h.next then .at_ r 0 sz else μ b, μ.f.im⟩⟩ := by
  have hrel := p.rel
  have hnn := hrel.next_no
  have hl : Later μ ⟨h.next + 1, ⟨fun b => if b = h.next then .at_ r 0 sz else μ b, μ.f.im⟩⟩ := by
    refine ⟨⟨by rw [hrel.nx]; simp, fun _ _ _ h => h⟩, fun b hb => ?_⟩
    have : b ≠ h.next := by have := hb.1; rw [hrel.nx] at this; omega
    left; simp [this]
  refine ⟨⟨p.later.trans hl, by have := p.next; simp; omega, ?_, p.size, ?_, p.frame, ?_, ?_, p.imr, p.still⟩, hl⟩
  · intro b hb e
    have h1 : b ≠ h.next := by have := p.next; omega
    simp [h1, p.low b hb e]
  · intro b r' ro s e
    try simp only at e
    split at e
    · simp at e; left; omega
    · exact p.range _ _ _ _ e
  · intro b hs
    obtain ⟨e1, h1⟩ := p.stone b hs
    have hb : b ≠ h.next := by have := (hs.of_eq e1).lt hrel; omega
    refine ⟨by rw [AH.get_alloc, if_neg hb, e1], fun r' ro s e => ?_⟩
    obtain ⟨h2, h3⟩ := h1 r' ro s e
    exact ⟨by simp [hb, h2], h3⟩
  · constructor
    · rfl
    · intro b c r' ro s ro' s' e e'
      try simp only at e e'
      split at e <;> split at e'
      · omega
      · simp at e; obtain ⟨rfl, _, _⟩ := e; exact absurd e' (hn _ _ _)
      · simp at e'; obtain ⟨rfl, _, _⟩ := e'; exact absurd e (hn _ _ _)
      · exact hrel.inj _ _ _ _ _ _ _ e e'
    · intro b hb
      try simp only at hb
      rw [AH.next_alloc]
      split at hb
      · omega
      · have := hrel.low b hb; omega
    · intro b hb
      try simp only at hb
      split at hb
      · cases hb
      · rename_i h1; rw [AH.get_alloc, if_neg h1]; exact hrel.dead b hb
    · intro b r' ro s e
      try simp only at e
      split at e
      · rename_i hb
        simp at e
        obtain ⟨rfl, rfl, rfl⟩ := e
        exact ⟨o, o', by rw [AH.get_alloc, if_pos hb], hw, ho _ hl⟩
      · rename_i hb
        obtain ⟨q, q', h2, h3, h4⟩ := hrel.dom b r' ro s e
        exact ⟨q, q', by rw [AH.get_alloc, if_neg hb, h2], h3, h4.later hl⟩
    · intro b hb
      rw [AH.next_alloc] at hb
      rw [AH.get_alloc, if_neg (by omega), hrel.top b (by omega)]
    · intro r' i v hv
      obtain ⟨h1, h2, c', e, z, v', h3, h4, h5⟩ := hrel.imm r' i v hv
      refine ⟨fun b ro s hb => ?_, h2, c', e, z, v', h3, h4, h5.later hl⟩
      try simp only at hb
      split at hb
      · simp at hb; obtain ⟨rfl, _, _⟩ := hb; exact hni _ _ hv
      · exact h1 _ _ _ hb

/-- a block that the world has not yet is told of: nobody may name it -/
theorem Post.skip {μ0 μ : Mu} {h0 h : AH} {w0 w : World} {o : AObj} (p : Post μ0 h0 w0 μ h w) : Post μ0 h0 w0 ⟨h.next + 1, μ.f⟩ (h.alloc o) w ∧ Later μ ⟨h.next + 1, μ.f⟩ := by
  have hrel := p.rel
  have hnn := hrel.next_no
  have hl : Later μ ⟨h.next + 1, μ.f⟩ := ⟨⟨by rw [hrel.nx]; simp, fun _ _ _ h => h⟩, fun b hb => .inl rfl⟩
  refine ⟨⟨p.later.trans hl, by have := p.next; simp; omega, p.low, p.size, p.range, p.frame, ?_, ?_, p.imr, p.still⟩, hl⟩
  · intro b hs
    obtain ⟨e1, h1⟩ := p.stone b hs
    have hb : b ≠ h.next := by have := (hs.of_eq e1).lt hrel; omega
    exact ⟨by rw [AH.get_alloc, if_neg hb, e1], h1⟩
  · constructor
    · rfl
    · exact hrel.inj
    · intro b hb; rw [AH.next_alloc]; have := hrel.low b hb; omega
    · intro b hb
      have hbn : b ≠ h.next := by rintro rfl; rw [hnn] at hb; cases hb
      rw [AH.get_alloc, if_neg hbn]; exact hrel.dead b hb
    · intro b r ro s e
      have hbn : b ≠ h.next := by rintro rfl; rw [hnn] at e; cases e
      obtain ⟨q, q', h2, h3, h4⟩ := hrel.dom b r ro s e
      exact ⟨q, q', by rw [AH.get_alloc, if_neg hbn, h2], h3, h4.later hl⟩
    · intro b hb
      rw [AH.next_alloc] at hb
      rw [AH.get_alloc, if_neg (by omega), hrel.top b (by omega)]
    · exact hrel.imm.keep hl (fun _ _ _ h => h) (fun _ _ _ => rfl) (fun b r ro sz e => .inr ⟨b, ro, sz, e⟩)

/-- a block that is told of comes into the world -/
theorem Post.adoptLate {μ0 μ : Mu} {h0 h : AH} {w0 w w' : World} {b sz : Nat} {o : AObj} {o' : Obj} (p : Post μ0 h0 w0 μ h w) (hb0 : h0.next ≤ b) (hb : b < h.next) (hno : μ b = .no) (hg : h.get b = some o)
    (hw : w'.heap = w.heap.push o') (hs : w'.os = w.os ∧ w'.output = w.output) (ho : ∀ μ', Later μ μ' → ObjR μ' 0 sz o o') :
    Post μ0 h0 w0 ⟨h.next, ⟨fun c => if c = b then .at_ w.heap.size 0 sz else μ c, μ.f.im⟩⟩ h w' ∧ Later μ ⟨h.next, ⟨fun c => if c = b then .at_ w.heap.size 0 sz else μ c, μ.f.im⟩⟩ := by
  have hrel := p.rel
  have hl : Later μ ⟨h.next, ⟨fun c => if c = b then .at_ w.heap.size 0 sz else μ c, μ.f.im⟩⟩ := by
    refine ⟨⟨by rw [hrel.nx]; exact Nat.le_refl _, fun _ _ _ h => h⟩, fun c hc => ?_⟩
    have : c ≠ b := by rintro rfl; exact hc.2 hno
    left; simp [this]
  have hps := p.size
  refine ⟨⟨p.later.trans hl, p.next, ?_, by rw [hw]; simp; omega, ?_, ?_, ?_, ?_, p.imr, ⟨hs.1.trans p.still.1, hs.2.trans p.still.2⟩⟩, hl⟩
  · intro c hc e
    have h1 : c ≠ b := by omega
    simp [h1, p.low c hc e]
  · intro c r' ro s e
    try simp only at e
    split at e
    · simp at e; left; omega
    · exact p.range _ _ _ _ e
  · intro r hr hn
    rw [hw, getElem?_push_lt _ _ _ (by omega)]; exact p.frame r hr hn
  · intro c hs
    obtain ⟨e1, h1⟩ := p.stone c hs
    refine ⟨e1, fun r' ro s e => ?_⟩
    obtain ⟨h2, h3⟩ := h1 r' ro s e
    have hcb : c ≠ b := by rintro rfl; rw [h2, e] at hno; cases hno
    refine ⟨by simp [hcb, h2], ?_⟩
    have : r' < w.heap.size := (hrel.lt (h2.trans e)).2
    rw [hw, getElem?_push_lt _ _ _ this]; exact h3
  · constructor
    · rfl
    · intro c d r' ro s ro' s' e e'
      try simp only at e e'
      split at e <;> split at e'
      · omega
      · simp at e; have := (hrel.lt e').2; omega
      · simp at e'; have := (hrel.lt e).2; omega
      · exact hrel.inj _ _ _ _ _ _ _ e e'
    · intro c hc
      try simp only at hc
      split at hc
      · omega
      · exact hrel.low c hc
    · intro c hc
      try simp only at hc
      split at hc
      · cases hc
      · exact hrel.dead c hc
    · intro c r' ro s e
      try simp only at e
      split at e
      · rename_i hc
        simp at e
        obtain ⟨rfl, rfl, rfl⟩ := e
        exact ⟨o, o', by rw [hc, hg], by rw [hw]; simp, ho _ hl⟩
      · obtain ⟨q, q', h2, h3, h4⟩ := hrel.dom c r' ro s e
        refine ⟨q, q', h2, ?_, h4.later hl⟩
        rw [hw, getElem?_push_lt _ _ _ (hrel.lt e).2, h3]
    · exact hrel.top
    · refine hrel.imm.keep hl (fun _ _ _ h => h) (fun r hr _ => by rw [hw, getElem?_push_lt _ _ _ hr]) fun c r' ro s e => ?_
      try simp only at e
      split at e
      · simp at e; left; omega
      · exact .inr ⟨_, _, _, e⟩

theorem pl_later {n n' : Nat} {F F' : MF} (hn : n ≤ n') (hi : ∀ r i v, F.im r i v → F'.im r i v) (h : ∀ b, b < n → F b ≠ .no → F' b = F b ∨ F' b = .dead) : Later ⟨n, F⟩ ⟨n', F'⟩ := ⟨⟨hn, hi⟩, fun b hb => h b hb.1 hb.2⟩

theorem InvAt.advance {N : Nat} {μ0 : Mu} {h0 : AH} {w0 : World} {p : Nat} {S : Nat → Prop} {a : Act} {w : World} {μ : Mu} {F : MF} (h : InvAt C N μ0 h0 w0 p S a w μ F) (hp : p < ops.size) (hne : ¬ C.eff p) :
    ∃ μ', InvAt C N μ0 h0 w0 (p + 1) S a w μ' F := by
  have hord : ∀ x, C.eff x → (S x ↔ x < p + 1) := fun x hx => by
    rw [h.order x hx]
    have : x ≠ p := by rintro rfl; exact hne hx
    omega
  by_cases hnew : ∃ o, C.isNew p o
  · obtain ⟨o, ho⟩ := hnew
    have hH := C.new_next ho
    have hnx : (C.H (p + 1)).next = (C.H p).next + 1 := by rw [hH, AH.next_alloc]
    have hbp : ∀ i o', p < i → C.isNew i o' → (C.H i).next ≠ (C.H p).next := fun i o' hi hi' => by
      have := C.new_lt ho hi (Nat.le_of_lt hi'.1); omega
    by_cases hS : S p
    · obtain ⟨r, sz, o', g1, g2, g3, g4, g6, g5⟩ := h.pend p o (Nat.le_refl _) ho hS
      have hfl : Later ⟨(C.H p).next, F⟩ μ := ⟨⟨by rw [h.post.rel.nx]; exact Nat.le_refl _, fun r i v hv => by have hv : F.im r i v := hv; rw [h.ims] at hv; exact hv⟩, fun b hb => .inl (h.agree b hb.1).symm⟩
      obtain ⟨q1, q2⟩ := Post.adopt (o := o) (sz := sz) h.post g2 g3 g4 g6 (fun μ' hl => (g5.later hfl).later hl)
      refine ⟨⟨(C.H p).next + 1, ⟨fun b => if b = (C.H p).next then .at_ r 0 sz else μ b, μ.f.im⟩⟩, ⟨hp, hord, h.closed, by rw [hH]; exact q1, h.glob.later q2, ?_, h.ims, ?_, ?_, h.dist, ?_, h.tm, h.size, h.defers⟩⟩
      · intro b hb
        rw [hnx] at hb
        by_cases e : b = (C.H p).next
        · simp [e, g1]
        · simp [e]; exact h.agree b (by omega)
      · intro i o' hi hi' hSi
        by_cases e : i = p
        · subst e; exact absurd hS hSi
        · have : (C.H i).next ≠ (C.H p).next := by have := C.new_lt hi' (by omega : i < p) h.le; omega
          simp [this]; exact h.late i o' (by omega) hi' hSi
      · intro i o'' hi hi' hSi
        obtain ⟨r2, sz2, o2, k1, k2, k3, k4, k6, k5⟩ := h.pend i o'' (by omega) hi' hSi
        refine ⟨r2, sz2, o2, k1, k2, k3, fun b ro' sz' e => ?_, k6, k5⟩
        try simp only at e
        split at e
        · simp at e
          obtain ⟨rfl, _, _⟩ := e
          exact hbp i o'' (by omega) hi' (h.dist _ _ _ _ _ _ _ k1 g1)
        · exact k4 _ _ _ e
      · intro b hb hF
        rw [hnx] at hb
        obtain ⟨i, o2, k1, k2, k3, k4⟩ := h.fno b (by omega) hF
        refine ⟨i, o2, ?_, k2, k3, k4⟩
        rcases Nat.lt_or_ge p i with h1 | h1
        · exact h1
        · obtain rfl : i = p := by omega
          omega
    · obtain ⟨q1, q2⟩ := Post.skip (o := o) h.post
      have hFp : F (C.H p).next = .no := by
        cases e : F (C.H p).next with
        | no => rfl
        | _ =>
          obtain ⟨i, o2, k1, k2, k3, k4⟩ := h.fno (C.H p).next (Nat.le_refl _) (by rw [e]; intro h; cases h)
          rcases Nat.lt_or_ge p i with h1 | h1
          · exact absurd k4.symm (hbp i o2 h1 k2)
          · obtain rfl : i = p := by omega
            exact absurd k3 hS
      have hμp : μ (C.H p).next = .no := h.post.rel.next_no
      refine ⟨⟨(C.H p).next + 1, μ.f⟩, ⟨hp, hord, h.closed, by rw [hH]; exact q1, h.glob.later q2, ?_, h.ims, ?_, fun i o2 hi => h.pend i o2 (by omega), h.dist, ?_, h.tm, h.size, h.defers⟩⟩
      · intro b hb
        rw [hnx] at hb
        by_cases e : b = (C.H p).next
        · rw [e, hFp]; exact hμp.symm
        · exact h.agree b (by omega)
      · intro i o' hi hi' hSi
        by_cases e : i = p
        · subst e; exact hμp
        · exact h.late i o' (by omega) hi' hSi
      · intro b hb hF
        rw [hnx] at hb
        obtain ⟨i, o2, k1, k2, k3, k4⟩ := h.fno b (by omega) hF
        refine ⟨i, o2, ?_, k2, k3, k4⟩
        rcases Nat.lt_or_ge p i with h1 | h1
        · exact h1
        · obtain rfl : i = p := by omega
          omega
  · have hH : C.H (p + 1) = C.H p := by
      obtain ⟨_, _, _, h4, h5⟩ := C.row p hp
      cases hr : (C.R p).run with
      | false => rw [← h4]; exact (h5.no hr).2
      | true =>
        obtain ⟨_, h6⟩ := h5.yes hr
        cases har : (C.R p).ar with
        | pur v => rw [har, h4] at h6; simp [Does, does] at h6; exact h6.2.symm
        | read v => rw [har, h4] at h6; simp [Does, does] at h6; exact h6.2.symm
        | new v o => exact absurd ⟨o, hp, hr, v, har⟩ hnew
        | eff v h' => exact absurd ⟨hp, hr, by rw [har]; rfl⟩ hne
        | call f args => exact absurd ⟨hp, hr, by rw [har]; rfl⟩ hne
    refine ⟨μ, ⟨hp, hord, h.closed, by rw [hH]; exact h.post, h.glob, by rw [hH]; exact h.agree, h.ims, ?_, fun i o2 hi => h.pend i o2 (by omega), h.dist, ?_, h.tm, h.size, h.defers⟩⟩
    · intro i o' hi hi' hSi
      by_cases e : i = p
      · subst e; exact absurd ⟨o', hi'⟩ hnew
      · exact h.late i o' (by omega) hi' hSi
    · intro b hb hF
      rw [hH] at hb
      obtain ⟨i, o2, k1, k2, k3, k4⟩ := h.fno b hb hF
      refine ⟨i, o2, ?_, k2, k3, k4⟩
      rcases Nat.lt_or_ge p i with h1 | h1
      · exact h1
      · obtain rfl : i = p := by omega
        exact absurd ⟨o2, k2⟩ hnew

/-- on to the next effect, or to the end -/
theorem InvAt.settle {N : Nat} {μ0 : Mu} {h0 : AH} {w0 : World} {S : Nat → Prop} {a : Act} {w : World} {F : MF} : ∀ (k p : Nat) (μ : Mu), ops.size - p = k → InvAt C N μ0 h0 w0 p S a w μ F →
    ∃ e μ', p ≤ e ∧ (e = ops.size ∨ C.eff e) ∧ InvAt C N μ0 h0 w0 e S a w μ' F
  | 0, p, μ, hk, h => ⟨p, μ, Nat.le_refl _, .inl (by have := h.le; omega), h⟩
  | k + 1, p, μ, hk, h => by
    by_cases he : C.eff p
    · exact ⟨p, μ, Nat.le_refl _, .inr he, h⟩
    · obtain ⟨μ', h'⟩ := h.advance C (by omega) he
      obtain ⟨e, μ'', h1, h2, h3⟩ := InvAt.settle k (p + 1) μ' (by omega) h'
      exact ⟨e, μ'', by omega, h2, h3⟩
end
end Go.Ev
end
section
namespace Go.Ev
section
variable {P : Program} {E : Env} {G : Nat → Bool} {ops : Array Oper} (C : Ctx P G E ops)

theorem clash_of {L : List Oper} {x y : Oper} {t : Tmp} (hx : x.dst = some t) (hy : t ∈ namesOf L y) : clash L x y = true := by
  unfold clash
  rw [hx]
  simp only [Bool.or_eq_true]
  left
  rw [List.any_eq_true]
  exact ⟨t, hy, by simp⟩
theorem clash_of' {L : List Oper} {x y : Oper} {t : Tmp} (hx : x.dst = some t) (hy : t ∈ namesOf L y) : clash L y x = true := by
  unfold clash
  rw [hx]
  simp only [Bool.or_eq_true]
  right
  rw [List.any_eq_true]
  exact ⟨t, hy, by simp⟩

theorem mem_names_dst {L : List Oper} {o : Oper} {d : Tmp} (h : o.dst = some d) : d ∈ namesOf L o := by
  unfold namesOf; rw [h]; simp
theorem mem_names_opd {L : List Oper} {o : Oper} {t : Tmp} (h : Operand.tmp t ∈ o.op.operands.toList) : t ∈ namesOf L o := by
  unfold namesOf
  simp only [List.mem_append]
  left; right
  rw [List.mem_filterMap]
  exact ⟨_, h, rfl⟩

/-- the temporaries that a ready operation looks at are those of the text's walk -/
theorem InvAt.names {N : Nat} {μ0 : Mu} {h0 : AH} {w0 : World} {p : Nat} {S : Nat → Prop} {a : Act} {w : World} {μ : Mu} {F : MF} (h : InvAt C N μ0 h0 w0 p S a w μ F)
    {i : Nat} (hi : i < ops.size) (hS : ¬ S i) (hb : ∀ m, bit (befOf ops.toList) i m = true → S m) {t : Tmp} (ht : t ∈ namesOf ops.toList (C.R i).o) :
    VR ⟨(C.H i).next, F⟩ (ev (C.T i) (.tmp t)) (a.tmps.getD t undef) := by
  refine h.tm i t (Nat.le_of_lt hi) (fun m hm hd => ?_) (fun m hm hmn hd => ?_)
  · exact hb m (C.clash m i hm hi (clash_of hd ht))
  · rcases Nat.lt_or_ge i m with h1 | h1
    · intro hSm
      exact hS ((h.closed m hSm).2 i (C.clash i m h1 hmn (clash_of' hd ht)))
    · obtain rfl : i = m := by omega
      exact hS

/-- the new temporaries -/
theorem InvAt.tm_put {N : Nat} {μ0 : Mu} {h0 : AH} {w0 : World} {p : Nat} {S : Nat → Prop} {a : Act} {w : World} {μ : Mu} {F F' : MF} (h : InvAt C N μ0 h0 w0 p S a w μ F)
    {i : Nat} (hi : i < ops.size) (hS : ¬ S i) (hdlt : ∀ d, (C.R i).o.dst = some d → d < N) {v' : Value} (hv : VR ⟨(C.H (i + 1)).next, F'⟩ (C.R i).v v')
    (hF : ∀ n, Later ⟨n, F⟩ ⟨n, F'⟩) :
    ∀ j t, j ≤ ops.size → (∀ m, m < j → (C.R m).o.dst = some t → (S m ∨ m = i)) → (∀ m, j ≤ m → m < ops.size → (C.R m).o.dst = some t → ¬ (S m ∨ m = i)) →
      VR ⟨(C.H j).next, F'⟩ (ev (C.T j) (.tmp t)) ((a.put (C.R i).o.dst v').tmps.getD t undef) := by
  intro j t hj h1 h2
  by_cases hd : (C.R i).o.dst = some t
  · have hij : i < j := by
      rcases Nat.lt_or_ge i j with h3 | h3
      · exact h3
      · exact absurd (.inr rfl) (h2 i h3 hi hd)
    have hlt := hdlt t hd
    have hput : (a.put (C.R i).o.dst v').tmps.getD t undef = v' := by
      rw [hd]; simp only [Act.put]
      simp [Array.getD, h.size, hlt]
    rw [hput]
    -- the last that writes t ahead of j is i
    have key : ∀ k, i + 1 + k ≤ j → ev (C.T (i + 1 + k)) (.tmp t) = (C.R i).v := by
      intro k
      induction k with
      | zero =>
        intro _
        obtain ⟨_, _, hT, _, h5⟩ := C.row i hi
        rw [Nat.add_zero, h5.tm, hd]
        simp only [putT]; rw [ev_put, if_pos rfl]
      | succ k ih =>
        intro hk
        have hm : i + 1 + k < ops.size := by omega
        obtain ⟨_, _, hT, _, h5⟩ := C.row (i + 1 + k) hm
        rw [show i + 1 + (k + 1) = i + 1 + k + 1 by omega, h5.tm]
        have hne : (C.R (i + 1 + k)).o.dst ≠ some t := by
          intro hd2
          have hSm := h1 (i + 1 + k) (by omega) hd2
          rcases hSm with hSm | e
          · exact hS ((h.closed _ hSm).2 i (C.clash i (i + 1 + k) (by omega) hm (clash_of hd (mem_names_dst hd2))))
          · omega
        rw [hT]
        cases hdd : (C.R (i + 1 + k)).o.dst with
        | none => simp only [putT]; exact ih (by omega)
        | some d =>
          simp only [putT]
          rw [ev_put, if_neg (fun e => hne (by rw [hdd, e]))]
          exact ih (by omega)
    have := key (j - (i + 1)) (by omega)
    rw [show i + 1 + (j - (i + 1)) = j by omega] at this
    rw [this]
    exact VR.later (μ := ⟨(C.H (i + 1)).next, F'⟩) (μ' := ⟨(C.H j).next, F'⟩) ⟨⟨C.mono (i + 1) j hij hj, fun _ _ _ h => h⟩, fun b hb => .inl rfl⟩ hv
  · have hput : (a.put (C.R i).o.dst v').tmps.getD t undef = a.tmps.getD t undef := by
      cases hdd : (C.R i).o.dst with
      | none => rfl
      | some d =>
        simp only [Act.put]
        rw [Array.getD_eq_getD_getElem?, Array.getD_eq_getD_getElem?, Array.getElem?_setIfInBounds_ne (fun e => hd (by rw [hdd, e]))]
    rw [hput]
    refine (h.tm j t hj (fun m hm hdm => ?_) (fun m hm hmn hdm hSm => h2 m hm hmn hdm (.inl hSm))).later (hF _)
    rcases h1 m hm hdm with h3 | h3
    · exact h3
    · subst h3; exact absurd hdm hd

theorem closed_add {N : Nat} {μ0 : Mu} {h0 : AH} {w0 : World} {p : Nat} {S : Nat → Prop} {a : Act} {w : World} {μ : Mu} {F : MF} (h : InvAt C N μ0 h0 w0 p S a w μ F)
    {i : Nat} (hi : i < ops.size) (hb : ∀ m, bit (befOf ops.toList) i m = true → S m) : ∀ j, (S j ∨ j = i) → j < ops.size ∧ ∀ m, bit (befOf ops.toList) j m = true → (S m ∨ m = i) := by
  rintro j (hj | rfl)
  · exact ⟨(h.closed j hj).1, fun m hm => .inl ((h.closed j hj).2 m hm)⟩
  · exact ⟨hi, fun m hm => .inl (hb m hm)⟩

/-- an operation that has no effect -/
theorem InvAt.quiet {N : Nat} {μ0 : Mu} {h0 : AH} {w0 : World} {e : Nat} {S : Nat → Prop} {a : Act} {w : World} {μ : Mu} {F : MF} (h : InvAt C N μ0 h0 w0 e S a w μ F)
    {i : Nat} (hi : i < ops.size) (hS : ¬ S i) (hne : ¬ C.eff i) (hno : ∀ o, ¬ C.isNew i o) (hb : ∀ m, bit (befOf ops.toList) i m = true → S m) (hdlt : ∀ d, (C.R i).o.dst = some d → d < N)
    {v' : Value} (hv : VR ⟨(C.H (i + 1)).next, F⟩ (C.R i).v v') : InvAt C N μ0 h0 w0 e (fun x => S x ∨ x = i) (a.put (C.R i).o.dst v') w μ F := by
  refine ⟨h.le, fun x hx => ?_, closed_add C h hi hb, h.post, h.glob, h.agree, h.ims, fun q o hq hn hs => h.late q o hq hn fun hs' => hs (.inl hs'), fun q o hq hn hs => ?_, h.dist, fun b hb' hF => ?_, ?_, ?_, ?_⟩
  · rw [← h.order x hx]
    have : x ≠ i := by rintro rfl; exact hne hx
    simp [this]
  · rcases hs with hs | rfl
    · exact h.pend q o hq hn hs
    · exact absurd hn (hno o)
  · obtain ⟨q, o, h1, h2, h3, h4⟩ := h.fno b hb' hF
    exact ⟨q, o, h1, h2, .inl h3, h4⟩
  · exact h.tm_put C hi hS hdlt hv (fun n => .refl _)
  · cases (C.R i).o.dst <;> simp [Act.put, h.size]
  · cases (C.R i).o.dst <;> exact h.defers

/-- an operation that makes a block -/
theorem InvAt.makes {N : Nat} {μ0 : Mu} {h0 : AH} {w0 : World} {e : Nat} {S : Nat → Prop} {a : Act} {w w' : World} {μ : Mu} {F : MF} (h : InvAt C N μ0 h0 w0 e S a w μ F)
    {i : Nat} (hi : i < ops.size) (hS : ¬ S i) (hne : ¬ C.eff i) (hb : ∀ m, bit (befOf ops.toList) i m = true → S m) (hdlt : ∀ d, (C.R i).o.dst = some d → d < N)
    {o : AObj} (hn : C.isNew i o) (hh0 : h0.next ≤ (C.H i).next) (hlate : i < e → (C.H e).get (C.H i).next = some o) {o' : Obj} {sz : Nat} {v' : Value} (hw : w'.heap = w.heap.push o') (hs : w'.os = w.os ∧ w'.output = w.output)
    (ho : ∀ μ', Later ⟨(C.H i).next, F⟩ μ' → ObjR μ' 0 sz o o') (hv : ∀ μ', Later ⟨(C.H i).next, F⟩ μ' → μ' (C.H i).next = .at_ w.heap.size 0 sz ∧ (C.H i).next < μ'.n → VR μ' (C.R i).v v') :
    ∃ μ' F', InvAt C N μ0 h0 w0 e (fun x => S x ∨ x = i) (a.put (C.R i).o.dst v') w' μ' F' := by
  have hnx : (C.H (i + 1)).next = (C.H i).next + 1 := by rw [C.new_next hn, AH.next_alloc]
  have hps := h.post.size
  have hFi : F (C.H i).next = .no := by
    rcases Nat.lt_or_ge i e with h1 | h1
    · rw [h.agree _ (C.new_lt hn h1 h.le)]; exact h.late i o h1 hn hS
    · cases hf : F (C.H i).next with
      | no => rfl
      | _ =>
        obtain ⟨q, o2, k1, k2, k3, k4⟩ := h.fno (C.H i).next (C.mono e i h1 (Nat.le_of_lt hi)) (by rw [hf]; intro h; cases h)
        exfalso
        rcases Nat.lt_trichotomy q i with h2 | h2 | h2
        · have := C.new_lt k2 h2 (Nat.le_of_lt hi); omega
        · subst h2; exact hS k3
        · have := C.new_lt hn h2 (Nat.le_of_lt k2.1); omega
  have hrange : ∀ b ro s, F b ≠ .at_ w.heap.size ro s := by
    intro b ro s hf
    rcases Nat.lt_or_ge b (C.H e).next with h1 | h1
    · rw [h.agree b h1] at hf; have := (h.post.rel.lt hf).2; omega
    · obtain ⟨q, o2, k1, k2, k3, k4⟩ := h.fno b h1 (by rw [hf]; intro h; cases h)
      obtain ⟨r, sz2, o3, g1, g2, g3, _⟩ := h.pend q o2 k1 k2 k3
      rw [k4, g1] at hf
      simp at hf
      have := (Array.getElem?_eq_some_iff.1 g3).1
      omega
  have hF' : ∀ n m, n ≤ m → Later ⟨n, F⟩ ⟨m, ⟨fun c => if c = (C.H i).next then .at_ w.heap.size 0 sz else F c, F.im⟩⟩ := fun n m hnm => pl_later hnm (fun _ _ _ h => h) fun b _ hb => by
    have : b ≠ (C.H i).next := by rintro rfl; exact hb hFi
    left; simp [this]
  have hvv : VR ⟨(C.H (i + 1)).next, ⟨fun c => if c = (C.H i).next then .at_ w.heap.size 0 sz else F c, F.im⟩⟩ (C.R i).v v' := hv _ (hF' _ _ (by omega)) ⟨by simp, by simp; omega⟩
  have hdist : ∀ b c r ro s ro' s', (if b = (C.H i).next then Pl.at_ w.heap.size 0 sz else F b) = .at_ r ro s → (if c = (C.H i).next then Pl.at_ w.heap.size 0 sz else F c) = .at_ r ro' s' → b = c := by
    intro b c r ro s ro' s' e1 e2
    split at e1 <;> split at e2
    · omega
    · simp at e1; obtain ⟨rfl, _, _⟩ := e1; exact absurd e2 (hrange _ _ _)
    · simp at e2; obtain ⟨rfl, _, _⟩ := e2; exact absurd e1 (hrange _ _ _)
    · exact h.dist _ _ _ _ _ _ _ e1 e2
  have hord : ∀ x, C.eff x → ((S x ∨ x = i) ↔ x < e) := fun x hx => by
    rw [← h.order x hx]
    have : x ≠ i := by rintro rfl; exact hne hx
    simp [this]
  have hpend : ∀ q o2, e ≤ q → C.isNew q o2 → S q → ∃ r sz2 o3, (if (C.H q).next = (C.H i).next then Pl.at_ w.heap.size 0 sz else F (C.H q).next) = .at_ r 0 sz2 ∧ w0.heap.size ≤ r ∧ w'.heap[r]? = some o3 ∧ (∀ b ro' s', μ b ≠ .at_ r ro' s') ∧ (∀ i v, ¬ μ.f.im r i v) ∧ r < w.heap.size ∧
      ObjR ⟨(C.H q).next, ⟨fun c => if c = (C.H i).next then .at_ w.heap.size 0 sz else F c, F.im⟩⟩ 0 sz2 o2 o3 := by
    intro q o2 hq hqn hqS
    obtain ⟨r, sz2, o3, g1, g2, g3, g4, g7, g5⟩ := h.pend q o2 hq hqn hqS
    have hlt := (Array.getElem?_eq_some_iff.1 g3).1
    have hqi : (C.H q).next ≠ (C.H i).next := by intro hh; rw [hh, hFi] at g1; cases g1
    exact ⟨r, sz2, o3, by rw [if_neg hqi]; exact g1, g2, by rw [hw, getElem?_push_lt _ _ _ hlt]; exact g3, g4, g7, hlt, g5.later (hF' _ _ (Nat.le_refl _))⟩
  have htm := h.tm_put C hi hS hdlt hvv (fun n => hF' n n (Nat.le_refl _))
  have hsz : (a.put (C.R i).o.dst v').tmps.size = N := by cases (C.R i).o.dst <;> simp [Act.put, h.size]
  have hdf : (a.put (C.R i).o.dst v').defers = [] := by cases (C.R i).o.dst <;> exact h.defers
  rcases Nat.lt_or_ge i e with hie | hie
  · -- it is told of already
    have hμi : μ (C.H i).next = .no := h.late i o hie hn hS
    have hfl : Later ⟨(C.H i).next, F⟩ μ := ⟨⟨by rw [h.post.rel.nx]; exact C.mono i e (by omega) h.le, fun r i v hv => by have hv : F.im r i v := hv; rw [h.ims] at hv; exact hv⟩, fun b hb => .inl (h.agree b (by have := hb.1; have := C.mono i e (by omega) h.le; simp at *; omega)).symm⟩
    obtain ⟨q1, q2⟩ := Post.adoptLate (w' := w') (o := o) (o' := o') (sz := sz) h.post hh0 (C.new_lt hn hie h.le) hμi (hlate hie) hw hs (fun μ' hl => ho μ' (hfl.trans hl))
    refine ⟨_, ⟨fun c => if c = (C.H i).next then .at_ w.heap.size 0 sz else F c, F.im⟩, ⟨h.le, hord, closed_add C h hi hb, q1, h.glob.later q2, fun b hb' => ?_, h.ims, fun q o2 hq hqn hs => ?_, fun q o2 hq hqn hs => ?_, hdist, fun b hb' hf => ?_, htm, hsz, hdf⟩⟩
    · try simp only
      split
      · rfl
      · exact h.agree b hb'
    · have hqi : q ≠ i := fun e => hs (.inr e)
      have : (C.H q).next ≠ (C.H i).next := by
        rcases Nat.lt_or_gt_of_ne hqi with h2 | h2
        · have := C.new_lt hqn h2 (Nat.le_of_lt hi); omega
        · have := C.new_lt hn h2 (Nat.le_of_lt hqn.1); omega
      simp only [this, if_false]
      exact h.late q o2 hq hqn fun hs' => hs (.inl hs')
    · rcases hs with hs | rfl
      · obtain ⟨r, sz2, o3, g1, g2, g3, g4, g7, g6, g5⟩ := hpend q o2 hq hqn hs
        refine ⟨r, sz2, o3, g1, g2, g3, fun b ro' s' he => ?_, g7, g5⟩
        simp only at he
        split at he
        · simp at he; omega
        · exact g4 _ _ _ he
      · omega
    · try simp only at hf
      split at hf
      · have := C.new_lt hn hie h.le; omega
      · obtain ⟨q, o2, k1, k2, k3, k4⟩ := h.fno b hb' hf
        exact ⟨q, o2, k1, k2, .inl k3, k4⟩
  · -- it is not yet told of
    have hsame : w'.heap.size = w.heap.size + 1 := by rw [hw]; simp
    have hpost : Post μ0 h0 w0 μ (C.H e) w' := by
      refine ⟨h.post.later, h.post.next, h.post.low, by omega, h.post.range, fun r hr hnr => ?_, fun b hs => ?_, ⟨h.post.rel.nx, h.post.rel.inj, h.post.rel.low, h.post.rel.dead, fun b r ro s hm => ?_, h.post.rel.top, h.post.rel.imm.keep (.refl _) (fun _ _ _ h => h) (fun r hr _ => by rw [hw, getElem?_push_lt _ _ _ hr]) (fun b r ro sz e => .inr ⟨b, ro, sz, e⟩)⟩, h.post.imr, ⟨hs.1.trans h.post.still.1, hs.2.trans h.post.still.2⟩⟩
      · rw [hw, getElem?_push_lt _ _ _ (by omega)]; exact h.post.frame r hr hnr
      · obtain ⟨e1, h1⟩ := h.post.stone b hs
        refine ⟨e1, fun r ro s hm => ?_⟩
        obtain ⟨h2, h3⟩ := h1 r ro s hm
        have := (h.post.rel.lt (h2.trans hm)).2
        exact ⟨h2, by rw [hw, getElem?_push_lt _ _ _ this]; exact h3⟩
      · obtain ⟨q, q', g1, g2, g3⟩ := h.post.rel.dom b r ro s hm
        have := (h.post.rel.lt hm).2
        exact ⟨q, q', g1, by rw [hw, getElem?_push_lt _ _ _ this]; exact g2, g3⟩
    refine ⟨μ, ⟨fun c => if c = (C.H i).next then .at_ w.heap.size 0 sz else F c, F.im⟩, ⟨h.le, hord, closed_add C h hi hb, hpost, h.glob, fun b hb' => ?_, h.ims, fun q o2 hq hqn hs => h.late q o2 hq hqn fun hs' => hs (.inl hs'), fun q o2 hq hqn hs => ?_, hdist, fun b hb' hf => ?_, htm, hsz, hdf⟩⟩
    · have : b ≠ (C.H i).next := by have := C.mono e i hie (Nat.le_of_lt hi); omega
      simp only [this, if_false]; exact h.agree b hb'
    · by_cases hqi : q = i
      · subst hqi
        have hoo : o2 = o := by
          obtain ⟨_, _, v1, e1⟩ := hqn
          obtain ⟨_, _, v2, e2⟩ := hn
          rw [e1] at e2; cases e2; rfl
        subst hoo
        refine ⟨w.heap.size, sz, o', by simp, by omega, by rw [hw]; simp, fun b ro' s' he => ?_, fun i v hv => ?_, ho _ (hF' _ _ (Nat.le_refl _))⟩
        · have := (h.post.rel.lt he).2; omega
        · obtain ⟨_, _, _, _, _, _, h3, _⟩ := h.post.rel.imm _ _ _ hv
          have := (Array.getElem?_eq_some_iff.1 h3).1; omega
      · rcases hs with hs | hs
        · obtain ⟨r, sz2, o3, g1, g2, g3, g4, g7, g6, g5⟩ := hpend q o2 hq hqn hs
          exact ⟨r, sz2, o3, g1, g2, g3, g4, g7, g5⟩
        · exact absurd hs hqi
    · try simp only at hf
      split at hf
      · rename_i hbi; exact ⟨i, o, hie, hn, .inr rfl, hbi⟩
      · obtain ⟨q, o2, k1, k2, k3, k4⟩ := h.fno b hb' hf
        exact ⟨q, o2, k1, k2, .inl k3, k4⟩

/-- the next effect -/
theorem InvAt.acts {N : Nat} {μ0 : Mu} {h0 : AH} {w0 : World} {e : Nat} {S : Nat → Prop} {a : Act} {w w' : World} {μ μ1 : Mu} {F : MF} (h : InvAt C N μ0 h0 w0 e S a w μ F)
    (he : C.eff e) (hb : ∀ m, bit (befOf ops.toList) e m = true → S m) (hdlt : ∀ d, (C.R e).o.dst = some d → d < N) {v' : Value} (p : Post μ (C.H e) w μ1 (C.H (e + 1)) w') (hv : VR μ1 (C.R e).v v') :
    ∃ F', InvAt C N μ0 h0 w0 (e + 1) (fun x => S x ∨ x = e) (a.put (C.R e).o.dst v') w' μ1 F' := by
  have hS : ¬ S e := fun hs => by have := (h.order e he).1 hs; omega
  have hlt := he.1
  have hnn : ∀ o, ¬ C.isNew e o := fun o hn => by
    obtain ⟨_, _, v, har⟩ := hn
    have := he.2.2
    rw [har] at this; cases this
  have hmono := C.mono e (e + 1) (by omega) hlt
  let F' : MF := ⟨fun b => if b < (C.H (e + 1)).next then μ1 b else F b, μ1.f.im⟩
  have hFF : ∀ n, Later ⟨n, F⟩ ⟨n, F'⟩ := fun n => pl_later (Nat.le_refl _) (fun r i v hv => by rw [h.ims] at hv; exact p.later.1.2 _ _ _ hv) fun b _ hbF => by
    simp only [F']
    split
    · rename_i hb1
      rcases Nat.lt_or_ge b (C.H e).next with h1 | h1
      · rw [h.agree b h1] at hbF ⊢
        exact p.later.2 b ⟨by rw [h.post.rel.nx]; exact h1, hbF⟩
      · exfalso
        obtain ⟨q, o2, k1, k2, k3, k4⟩ := h.fno b h1 hbF
        have hqe : q ≠ e := by rintro rfl; exact hnn o2 k2
        have := C.mono (e + 1) q (by omega) (Nat.le_of_lt k2.1)
        omega
    · exact .inl rfl
  refine ⟨F', ⟨hlt, fun x hx => ?_, closed_add C h hlt hb, h.post.trans p, h.glob.later p.later, fun b hb' => by simp only [F', hb', if_true], rfl, fun i o hi hn hs => ?_, fun i o hi hn hs => ?_, ?_, fun b hb' hf => ?_, ?_, ?_, ?_⟩⟩
  · rcases Nat.lt_trichotomy x e with h1 | h1 | h1
    · have := (h.order x hx).2 h1; simp [this]; omega
    · subst h1; simp
    · have h2 : ¬ S x := fun hs => by have := (h.order x hx).1 hs; omega
      have h3 : x ≠ e := by omega
      simp [h2, h3]; omega
  · have hie : i ≠ e := by rintro rfl; exact hnn o hn
    have hi' : i < e := by omega
    exact p.low _ (C.new_lt hn hi' h.le) (h.late i o hi' hn fun hs' => hs (.inl hs'))
  · rcases hs with hs | rfl
    · obtain ⟨r, sz, o', g1, g2, g3, g4, g7, g5⟩ := h.pend i o (by omega) hn hs
      have hlt' := (Array.getElem?_eq_some_iff.1 g3).1
      have hge : ¬ (C.H i).next < (C.H (e + 1)).next := by have := C.mono (e + 1) i hi (Nat.le_of_lt hn.1); omega
      refine ⟨r, sz, o', by simp only [F', hge, if_false]; exact g1, g2, by rw [p.frame r hlt' g4]; exact g3, fun b ro' s' hm => ?_, fun i v hv => ?_, g5.later (hFF _)⟩
      · rcases p.range _ _ _ _ hm with h1 | ⟨c, ro2, s2, h1⟩
        · omega
        · exact g4 _ _ _ h1
      · rcases p.imr _ _ _ hv with h1 | h1 | ⟨c, ro2, s2, h1⟩
        · exact g7 _ _ h1
        · omega
        · exact g4 _ _ _ h1
    · omega
  · intro b c r ro s ro' s' e1 e2
    simp only [F'] at e1 e2
    have cross : ∀ b c, b < (C.H (e + 1)).next → ¬ c < (C.H (e + 1)).next → μ1 b = .at_ r ro s → F c = .at_ r ro' s' → False := by
      intro b c hb1 hc1 h1 h2
      obtain ⟨q, o2, k1, k2, k3, k4⟩ := h.fno c (by omega) (by rw [h2]; intro h; cases h)
      obtain ⟨r2, sz2, o3, g1, g2, g3, g4, _⟩ := h.pend q o2 k1 k2 k3
      rw [k4, g1] at h2
      simp at h2
      obtain ⟨rfl, _, _⟩ := h2
      have hlt2 := (Array.getElem?_eq_some_iff.1 g3).1
      rcases p.range _ _ _ _ h1 with h3 | ⟨d, ro2, s2, h3⟩
      · omega
      · exact g4 _ _ _ h3
    have cross' : ∀ b c, b < (C.H (e + 1)).next → ¬ c < (C.H (e + 1)).next → μ1 b = .at_ r ro' s' → F c = .at_ r ro s → False := by
      intro b c hb1 hc1 h1 h2
      obtain ⟨q, o2, k1, k2, k3, k4⟩ := h.fno c (by omega) (by rw [h2]; intro h; cases h)
      obtain ⟨r2, sz2, o3, g1, g2, g3, g4, _⟩ := h.pend q o2 k1 k2 k3
      rw [k4, g1] at h2
      simp at h2
      obtain ⟨rfl, _, _⟩ := h2
      have hlt2 := (Array.getElem?_eq_some_iff.1 g3).1
      rcases p.range _ _ _ _ h1 with h3 | ⟨d, ro2, s2, h3⟩
      · omega
      · exact g4 _ _ _ h3
    split at e1 <;> split at e2
    · exact p.rel.inj _ _ _ _ _ _ _ e1 e2
    · rename_i h1 h2; exact (cross _ _ h1 h2 e1 e2).elim
    · rename_i h1 h2; exact (cross' _ _ h2 h1 e2 e1).elim
    · exact h.dist _ _ _ _ _ _ _ e1 e2
  · simp only [F'] at hf
    rw [if_neg (by omega)] at hf
    obtain ⟨q, o2, k1, k2, k3, k4⟩ := h.fno b (by omega) hf
    have hqe : q ≠ e := by rintro rfl; exact hnn o2 k2
    exact ⟨q, o2, by omega, k2, .inl k3, k4⟩
  · refine h.tm_put C hlt hS hdlt ?_ hFF
    exact VR.later (μ := μ1) (μ' := ⟨(C.H (e + 1)).next, F'⟩) ⟨⟨by rw [p.rel.nx]; exact Nat.le_refl _, fun _ _ _ h => h⟩, fun b hb' => by
      left
      have : b < (C.H (e + 1)).next := by have := hb'.1; rw [p.rel.nx] at this; exact this
      simp only [F', this, if_true]⟩ hv
  · cases (C.R e).o.dst <;> simp [Act.put, h.size]
  · cases (C.R e).o.dst <;> exact h.defers
end
end Go.Ev
end
section
namespace Go.Ev
section
variable {P : Program} {E : Env} {G : Nat → Bool} {ops : Array Oper} (C : Ctx P G E ops)

theorem binds_any {md : Region.Mode} {e : Edge} (h : Region.binds .any e = true) : Region.binds md e = true := by
  unfold Region.binds at *
  cases hg : e.ground <;> rw [hg] at h <;> simp_all

def Listed (l : Array Bool) (i : Nat) : Prop := l.getD i false = true

theorem ready_spec {md : Region.Mode} {listed : Array Bool} {i : Nat} (h : i ∈ Region.ready md ops listed) (hl : listed.size = ops.size) :
    i < ops.size ∧ ¬ Listed listed i ∧ ∀ o, ops[i]? = some o → ∀ e ∈ o.after.toList, Region.binds md e = true → Listed listed e.on := by
  unfold Region.ready at h
  rw [List.mem_filter] at h
  obtain ⟨h1, h2⟩ := h
  have hi : i < ops.size := by simpa using h1
  simp only [Bool.and_eq_true] at h2
  refine ⟨hi, ?_, fun o ho e he hb => ?_⟩
  · have hlt : i < listed.size := by omega
    have h3 := h2.1
    simp only [Array.getD, hlt, dif_pos] at h3
    simp only [Listed, Array.getD, hlt, dif_pos]
    simpa using h3
  · have h3 := h2.2
    rw [ho] at h3
    simp only [Option.map_some, Option.getD_some] at h3
    rw [← Array.all_toList, List.all_eq_true] at h3
    have := h3 e he
    rw [hb] at this
    simpa [Listed] using this

theorem topoFrom_spec {md : Region.Mode} {L : List Oper} {S : Nat → Prop} (hS : ∀ i, i < L.length → (∀ o, L[i]? = some o → ∀ e ∈ o.after.toList, Region.binds md e = true → S e.on) → S i) :
    ∀ (l done : List Nat), topoFrom md L l done = true → (∀ i ∈ done, S i) → (∀ i ∈ l, i < L.length → S i)
  | [], _, _, _ => by simp
  | i :: l, done, h, hd => by
    unfold topoFrom at h
    simp only [Bool.and_eq_true] at h
    obtain ⟨h1, h2⟩ := h
    have hi : i < L.length → S i := fun hlt => hS i hlt fun o ho e he hb => by
      rw [ho] at h1
      simp only [List.all_eq_true] at h1
      have := h1 e he
      rw [hb] at this
      simp at this
      exact hd _ this
    intro j hj hlt
    rcases List.mem_cons.1 hj with rfl | hj
    · exact hi hlt
    · refine topoFrom_spec hS l (i :: done) h2 (fun k hk => ?_) j hj hlt
      rcases List.mem_cons.1 hk with rfl | hk
      · rcases Nat.lt_or_ge k L.length with h3 | h3
        · exact hi h3
        · exfalso
          split at h1
          · rename_i o ho; rw [List.getElem?_eq_none h3] at ho; cases ho
          · cases h1
      · exact hd k hk

/-- if nothing is ready, all has come up -/
theorem all_listed {md : Region.Mode} {l : List Nat} (ht : topoOk md ops.toList l = true) {listed : Array Bool} (hl : listed.size = ops.size) (hr : Region.ready md ops listed = []) : ∀ i, i < ops.size → Listed listed i := by
  unfold topoOk at ht
  simp only [Bool.and_eq_true, List.all_eq_true] at ht
  obtain ⟨h1, h2⟩ := ht
  have key := topoFrom_spec (md := md) (L := ops.toList) (S := Listed listed) (fun i hi hS => by
    cases hli : listed.getD i false with
    | true => exact hli
    | false =>
      exfalso
      have hi' : i < ops.size := by simpa using hi
      have : i ∈ Region.ready md ops listed := by
        unfold Region.ready
        rw [List.mem_filter]
        refine ⟨by simpa using hi', ?_⟩
        have hlt : i < listed.size := by omega
        have ho : ops[i]? = some ops[i] := by simp [hi']
        rw [ho]
        simp only [Bool.and_eq_true, Option.map_some, Option.getD_some]
        constructor
        · simp only [Array.getD, hlt, dif_pos] at hli ⊢
          simpa using hli
        · rw [← Array.all_toList, List.all_eq_true]
          intro e he
          cases hb : Region.binds md e with
          | false => rfl
          | true =>
            have := hS ops[i] (by simp [hi']) e he hb
            simpa [Listed] using this
      rw [hr] at this; cases this) l [] h1 (by simp)
  intro i hi
  have := h2 i (by simpa using hi)
  exact key i (by simpa using this) (by simpa using hi)

theorem count_set {l : List Bool} : ∀ {i : Nat}, i < l.length → l[i]? = some false → (l.set i true).countP id = l.countP id + 1 := by
  induction l with
  | nil => intro i h; simp at h
  | cons b l ih =>
    intro i hi h
    cases i with
    | zero => simp at h; subst h; simp
    | succ i =>
      have := ih (i := i) (by simpa using hi) (by simpa using h)
      simp only [List.set_cons_succ, List.countP_cons]
      omega
theorem count_full {l : List Bool} : l.countP id = l.length → ∀ i, i < l.length → l[i]? = some true := by
  intro h i hi
  have := List.countP_eq_length.1 h (l[i]) (List.getElem_mem hi)
  rw [List.getElem?_eq_getElem hi]
  simpa using this

theorem Listed_set {listed : Array Bool} {i j : Nat} (hi : i < listed.size) : Listed (listed.setIfInBounds i true) j ↔ (Listed listed j ∨ j = i) := by
  unfold Listed
  rw [Array.getD_eq_getD_getElem?, Array.getD_eq_getD_getElem?]
  by_cases h : j = i
  · subst h; simp [hi]
  · rw [Array.getElem?_setIfInBounds_ne (fun e => h e.symm)]; simp [h]

theorem InvAt.congr {N : Nat} {μ0 : Mu} {h0 : AH} {w0 : World} {p : Nat} {S S' : Nat → Prop} {a : Act} {w : World} {μ : Mu} {F : MF} (h : InvAt C N μ0 h0 w0 p S a w μ F) (hs : ∀ i, S' i ↔ S i) : InvAt C N μ0 h0 w0 p S' a w μ F := by
  have : S' = S := funext fun i => propext (hs i)
  rw [this]; exact h

theorem yielded_eq' {tm : Tr Value} {tmps : Array Value} (ops : Array Oper) (j : Nat) (h : ∀ o d, ops[j]? = some o → o.dst = some d → ∃ μ, VR μ (ev tm (.tmp d)) (tmps.getD d undef)) (hk : ∀ o d, ops[j]? = some o → o.dst = some d → ∃ v, tm.get d = some v ∧ kn v = true) : yieldedA ops.toList tm j = yielded ops tmps j := by
  unfold yieldedA yielded
  have e : ops.toList[j]? = ops[j]? := by simp
  rw [e]
  cases ho : ops[j]? with
  | none => rfl
  | some o =>
    simp only [Option.bind_some]
    cases hd0 : o.dst with
    | none => rfl
    | some d =>
      simp only [Option.bind_some]
      obtain ⟨μ, ht⟩ := h o d ho hd0
      simp only [ev] at ht
      rw [Array.getD_eq_getD_getElem?] at ht
      obtain ⟨v0, hg0, hk0⟩ := hk _ _ ho hd0
      cases hg : tm.get d with
      | none => rw [hg] at hg0; cases hg0
      | some v =>
        rw [hg] at hg0
        obtain rfl : v = v0 := by simpa using hg0
        rw [hg] at ht
        simp only at ht
        cases hd : tmps[d]? with
        | none =>
          rw [hd] at ht
          simp at ht
          cases v with
          | bool b => cases ht.bool
          | _ => rfl
        | some u =>
          rw [hd] at ht
          simp at ht
          cases v with
          | bool b => rw [ht.bool]
          | _ => cases u with
            | bool b => have := ht.toBool hk0; cases this
            | _ => rfl
theorem mem_names_guard {L : List Oper} {o p : Oper} {g : Nat} {b : Bool} {d : Tmp} (h : o.guard = some (g, b)) (hp : L[g]? = some p) (hd : p.dst = some d) : d ∈ namesOf L o := by
  unfold namesOf
  rw [h]
  simp only [hp, hd, List.mem_append]
  right; simp

/-- the whole walk, in whatever order -/
theorem draw_any (hE : EnvOk P G E) {N : Nat} {md : Region.Mode} {l : List Nat} (ht : topoOk md ops.toList l = true) (hok : ∀ i, i < ops.size → operOk G N (C.R i).o = true)
    {μ0 : Mu} {h0 : AH} {w0 : World} (hG : ∀ g, G g = true → g < h0.next) (hh0 : ∀ i, i ≤ ops.size → h0.next ≤ (C.H i).next) {Q : Exit → Act → World → Prop}
    (hq : ∀ a w μ, Post μ0 h0 w0 μ (C.H ops.size) w → SR' G N μ ⟨C.T ops.size, C.H ops.size⟩ a w → Q .normal a w) :
    ∀ (fuel : Nat) (listed : Array Bool) (a : Act) (w : World) (e : Nat) (μ : Mu) (F : MF), listed.size = ops.size → listed.toList.countP id + fuel = ops.size → (e = ops.size ∨ C.eff e) →
      InvAt C N μ0 h0 w0 e (Listed listed) a w μ F → wpAny P md ops Q fuel listed a w := by
  have fin : ∀ (listed : Array Bool) (a : Act) (w : World) (e : Nat) (μ : Mu) (F : MF), (∀ i, i < ops.size → Listed listed i) → (e = ops.size ∨ C.eff e) → InvAt C N μ0 h0 w0 e (Listed listed) a w μ F → Q .normal a w := by
    intro listed a w e μ F hall he h
    have hen : e = ops.size := by
      rcases he with he | he
      · exact he
      · have := (h.order e he).1 (hall e he.1); omega
    subst hen
    refine hq a w μ h.post ⟨h.post.rel, h.glob, fun t => ?_, h.size, h.defers⟩
    have := h.tm ops.size t (Nat.le_refl _) (fun i hi _ => hall i hi) (fun i h1 h2 => by omega)
    refine VR.later (μ := ⟨(C.H ops.size).next, F⟩) (μ' := μ) ⟨⟨by rw [h.post.rel.nx]; exact Nat.le_refl _, fun r i v hv => by have hv : F.im r i v := hv; rw [h.ims] at hv; exact hv⟩, fun b hb => .inl (h.agree b hb.1).symm⟩ this
  intro fuel
  induction fuel with
  | zero =>
    intro listed a w e μ F hl hcnt he h
    have hall : ∀ i, i < ops.size → Listed listed i := fun i hi => by
      have := count_full (l := listed.toList) (by simpa [hl] using hcnt) i (by simpa [hl] using hi)
      unfold Listed
      rw [Array.getD_eq_getD_getElem?]
      have e2 : listed[i]? = some true := by simpa using this
      rw [e2]; rfl
    refine ⟨?_, fin listed a w e μ F hall he h⟩
    rw [List.eq_nil_iff_forall_not_mem]
    intro i hi
    obtain ⟨h1, h2, _⟩ := ready_spec hi hl
    exact h2 (hall i h1)
  | succ fuel ih =>
    intro listed a w e μ F hl hcnt he h
    refine ⟨fun hr => fin listed a w e μ F (all_listed ht hl hr) he h, fun i hi => ?_⟩
    obtain ⟨hin, hSi, hpre⟩ := ready_spec hi hl
    obtain ⟨hoi, hRi, hTi, hHi, hst⟩ := C.row i hin
    have hb : ∀ m, bit (befOf ops.toList) i m = true → Listed listed m := by
      intro m hm
      obtain ⟨o, ho, ed, hed, hbd, h1⟩ := bef_spec hm
      have ho' : ops[i]? = some o := by simpa using ho
      have hle := hpre o ho' ed hed (binds_any hbd)
      rcases h1 with rfl | h1
      · exact hle
      · exact (h.closed _ hle).2 m h1
    have hdlt := dst_lt (hok i hin)
    have hcnt' : (listed.setIfInBounds i true).toList.countP id + fuel = ops.size := by
      have hlt : i < listed.toList.length := by simpa [hl] using hin
      have hf : listed.toList[i]? = some false := by
        unfold Listed at hSi
        rw [Array.getD_eq_getD_getElem?] at hSi
        have hlt' : i < listed.size := by omega
        have e1 : listed[i]? = some listed[i] := by simp [hlt']
        rw [e1] at hSi
        rw [Array.getElem?_toList, e1]
        cases hb2 : listed[i] with
        | true => rw [hb2] at hSi; exact absurd rfl hSi
        | false => rfl
      have := count_set hlt hf
      simp only [Array.toList_setIfInBounds]
      omega
    have hl' : (listed.setIfInBounds i true).size = ops.size := by simpa using hl
    have hlset : ∀ j, Listed (listed.setIfInBounds i true) j ↔ (Listed listed j ∨ j = i) := fun j => Listed_set (by omega)
    have hopd : ∀ {ν : Mu}, (∀ t, Operand.tmp t ∈ (C.R i).o.op.operands.toList → VR ν (ev (C.T i) (.tmp t)) (a.tmps.getD t undef)) → GR G ν → OpsR ν (C.T i) a.eval (C.R i).o.op.operands.toList := by
      intro ν h1 h2 x hx
      have hopdOk : opdOk G x = true := by
        have := hok i hin
        simp only [operOk, Bool.and_eq_true, List.all_eq_true] at this
        exact this.1 x hx
      cases x with
      | tmp t => exact h1 t hx
      | const v => exact constV_R hopdOk
      | global g =>
        obtain ⟨g1, g2⟩ := h2 g hopdOk
        exact .ptr _ _ ⟨rfl, g1, fun r ro sz e => by obtain ⟨rfl, rfl⟩ := g2 r ro sz e; rfl⟩
      | func f => exact .func _ _ _ _ _ .nil .nil
    have hnames := fun t (ht : t ∈ namesOf ops.toList (C.R i).o) => h.names C hin hSi hb ht
    have hGi : ∀ n, h0.next ≤ n → GR G ⟨n, F⟩ := by
      intro n hn g hg
      have h1 := hG g hg
      obtain ⟨h2, h3⟩ := h.glob g hg
      have h4 : F g = μ g := h.agree g (by have := hh0 e h.le; omega)
      exact ⟨⟨by simp only; omega, by simp only; rw [h4]; exact h2.2⟩, fun r ro sz e => h3 r ro sz (by rw [← h4]; exact e)⟩
    unfold wpOp
    rw [hoi]
    simp only
    have hwanted : wantedA ops.toList (C.T i) (C.R i).o = Region.wanted (C.R i).o (yielded ops a.tmps) := by
      unfold wantedA Region.wanted
      cases hgd : (C.R i).o.guard with
      | none => rfl
      | some p =>
        obtain ⟨j, b⟩ := p
        simp only
        rw [yielded_eq' (tmps := a.tmps) ops j (fun o d ho hd => ⟨_, hnames d (mem_names_guard hgd (by simpa using ho) hd)⟩) (by have := hst.gk; rw [hTi] at this; exact guardKn_spec this hgd)]
        cases yielded ops a.tmps j with
        | none => rfl
        | some c => cases b <;> cases c <;> rfl
    rw [← hwanted, ← hTi, ← hst.run]
    have hF : Later ⟨(C.H e).next, F⟩ μ := ⟨⟨by rw [h.post.rel.nx]; exact Nat.le_refl _, fun r i v hv => by have hv : F.im r i v := hv; rw [h.ims] at hv; exact hv⟩, fun b hb => .inl (h.agree b hb.1).symm⟩
    cases hrun : (C.R i).run with
    | false =>
      obtain ⟨hv, hHn⟩ := hst.no hrun
      simp only [Bool.false_eq_true, if_false]
      have hne : ¬ C.eff i := fun he => by have := he.2.1; rw [hrun] at this; cases this
      have hno : ∀ o, ¬ C.isNew i o := fun o hn => by have := hn.2.1; rw [hrun] at this; cases this
      exact ih _ _ w e μ F hl' hcnt' he ((h.quiet C hin hSi hne hno hb hdlt (v' := undef) (by rw [hv]; exact VR.undef)).congr C hlset)
    | true =>
      obtain ⟨hA, hD⟩ := hst.yes hrun
      rw [hTi, hHi] at hA
      rw [hHi] at hD
      simp only [if_true]
      have hopi : OpsR ⟨(C.H i).next, F⟩ (C.T i) a.eval (C.R i).o.op.operands.toList := hopd (fun t ht => hnames t (mem_names_opd ht)) (hGi _ (hh0 i (Nat.le_of_lt hin)))
      have hs := aop_sound (P := P) (μ := ⟨(C.H i).next, F⟩) (h := C.H i) (w := w) hE.ti hE.places hA hopi
      cases har : (C.R i).ar with
      | pur u =>
        rw [har] at hs hD
        simp only [Does, does, Option.some.injEq, Prod.mk.injEq] at hD
        have hne : ¬ C.eff i := fun he => by have := he.2.2; rw [har] at this; cases this
        have hno : ∀ o, ¬ C.isNew i o := fun o hn => by obtain ⟨_, _, _, h3⟩ := hn; rw [har] at h3; cases h3
        obtain ⟨v', h1, h2⟩ := hs w
        refine .inl ?_
        unfold Oper.wp
        simp only at h1; rw [h1]
        exact ih _ _ w e μ F hl' hcnt' he ((h.quiet C hin hSi hne hno hb hdlt (v' := v') (by rw [← hD.1, ← hD.2]; exact h2)).congr C hlset)
      | read u =>
        rw [har] at hD
        simp only [Does, does, Option.some.injEq, Prod.mk.injEq] at hD
        have hne : ¬ C.eff i := fun he => by have := he.2.2; rw [har] at this; cases this
        have hno : ∀ o, ¬ C.isNew i o := fun o hn => by obtain ⟨_, _, _, h3⟩ := hn; rw [har] at h3; cases h3
        have hck := C.check i hin hrun (by rw [har]; rfl) e h.le (he.imp id (·.2)) (fun x hx1 hx2 hx3 => ⟨fun hbx => (h.order x ⟨hx1, hx2, hx3⟩).1 (hb x hbx), fun hlt => by
          have hSx := (h.order x ⟨hx1, hx2, hx3⟩).2 hlt
          cases hbi : bit (befOf ops.toList) x i with
          | false => rfl
          | true => exact absurd ((h.closed x hSx).2 i hbi) hSi⟩)
        unfold HoldsP at hck
        rw [har] at hck
        simp only at hck
        obtain ⟨hA2, hq2, hq3⟩ := hck
        rw [List.all_eq_true] at hq3
        rw [hTi] at hA2 hq3
        rw [hHi] at hq2
        have hres : ∀ {x x' : Value}, VR ⟨(C.H i).next, F⟩ x x' → vb (C.H e).next x = true → VR μ x x' := fun hx hb' =>
          hx.restrict (ν := μ) (fun r i v hv => by have hv : F.im r i v := hv; rw [h.ims] at hv; exact hv) (fun b hb1 _ => (h.agree b (by rw [← h.post.rel.nx]; exact hb1)).symm) (by rw [h.post.rel.nx]; exact hb')
        have hop2 : OpsR μ (C.T i) a.eval (C.R i).o.op.operands.toList := fun x hx => hres (hopi x hx) (by
          have : ∀ (l : List Operand), x ∈ l → ev (C.T i) x ∈ evs (C.T i) l := by
            intro l
            induction l with
            | nil => intro h; cases h
            | cons y l ih2 =>
              intro h
              rcases List.mem_cons.1 h with rfl | h
              · simp [evs]
              · simp [evs, ih2 h]
          exact hq3 _ (this _ hx))
        have hs2 := aop_sound (P := P) (μ := μ) (h := C.H e) (w := w) hE.ti hE.places hA2 hop2
        obtain ⟨v', h1, h2⟩ := hs2 h.post.rel
        refine .inl ?_
        unfold Oper.wp
        simp only at h1; rw [h1]
        refine ih _ _ w e μ F hl' hcnt' he ((h.quiet C hin hSi hne hno hb hdlt (v' := v') ?_).congr C hlset)
        rw [← hD.1, ← hD.2]
        refine h2.restrict (fun r i v hv => by show F.im r i v; rw [h.ims]; exact hv) (fun b hb1 hb2 => ?_) hq2
        have : b < (C.H e).next := by rw [← h.post.rel.nx]; exact hb2.1
        exact h.agree b this
      | new u o2 =>
        rw [har] at hs hD
        simp only [Does, does, Option.some.injEq, Prod.mk.injEq] at hD
        have hn : C.isNew i o2 := ⟨hin, hrun, u, har⟩
        have hne : ¬ C.eff i := fun he => by have := he.2.2; rw [har] at this; cases this
        have hlate : i < e → (C.H e).get (C.H i).next = some o2 := fun hie => by
          have hck := C.check i hin hrun (by rw [har]; rfl) e h.le (he.imp id (·.2)) (fun x hx1 hx2 hx3 => ⟨fun hbx => (h.order x ⟨hx1, hx2, hx3⟩).1 (hb x hbx), fun hlt => by
            have hSx := (h.order x ⟨hx1, hx2, hx3⟩).2 hlt
            cases hbi : bit (befOf ops.toList) x i with
            | false => rfl
            | true => exact absurd ((h.closed x hSx).2 i hbi) hSi⟩)
          unfold HoldsP at hck
          rw [har] at hck
          simp only at hck
          have hIi : (C.R i).i = i := by assumption
          rw [hIi] at hck
          rcases hck with h1 | h1
          · omega
          · rw [hHi] at h1; exact h1
        obtain ⟨v', w', o', sz, h1, h2, h3, h4⟩ := hs
        refine .inl ?_
        unfold Oper.wp
        simp only at h1; rw [h1]
        obtain ⟨μ', F', hi'⟩ := h.makes C hin hSi hne hb hdlt hn (hh0 i (Nat.le_of_lt hin)) hlate h2.1 h2.2 h3 (v' := v') (fun μ' hl hm => by rw [← hD.1]; exact h4 μ' hl hm)
        exact ih _ _ w' e μ' F' hl' hcnt' he (hi'.congr C hlset)
      | _ =>
        have heff : C.eff i := ⟨hin, hrun, by rw [har]; rfl⟩
        have hei : i = e := by
          rcases Nat.lt_trichotomy i e with h1 | h1 | h1
          · exact absurd ((h.order i heff).2 h1) hSi
          · exact h1
          · exfalso
            rcases he with he | he
            · omega
            · have := C.effs e i h1 hin he.2.1 he.2.2 hrun heff.2.2
              have := (h.order e he).1 (hb e this)
              omega
        subst hei
        refine .inl (step_soundD hE hA hD h.post.rel h.glob (fun x hx => (hopi x hx).later hF) fun v' w' μ1 p hv => ?_)
        obtain ⟨F', h'⟩ := h.acts C heff hb hdlt p hv
        obtain ⟨e2, μ2, _, he2, h2⟩ := InvAt.settle C _ _ _ rfl h'
        exact ih _ _ w' e2 μ2 F' hl' hcnt' he2 (h2.congr C hlset)
end
end Go.Ev
end
section
namespace Go.Ev
/-! a region that draws its order: from the checks -/

theorem nextsOk_spec : ∀ (rows : List TRow) (s' : ES), NextsP rows s'.h.next → ∀ j, j < rows.length → (hAt rows s' j).next ≤ (hAt rows s' (j + 1)).next
  | [], _, _, j, hj => by simp at hj
  | [r], s', h, j, hj => by
    obtain rfl : j = 0 := by simpa using hj
    simp only [NextsP] at h
    simpa [hAt] using h
  | r :: q :: l, s', h, j, hj => by
    simp only [NextsP] at h
    cases j with
    | zero => simpa [hAt] using h.1
    | succ j =>
      have := nextsOk_spec (q :: l) s' h.2 j (by simpa using hj)
      simpa [hAt] using this

theorem effsOk_spec {bef : List Nat} : ∀ (rows : List TRow), effsOk bef ((spine rows).map (·.1)) = true → ∀ (x y : Nat) (rx ry : TRow), x < y → rows[x]? = some rx → rows[y]? = some ry →
    rx.run = true → isEff rx.ar = true → ry.run = true → isEff ry.ar = true → bit bef ry.i rx.i = true
  | [], _, x, y, rx, ry, _, hx, _, _, _, _, _ => by simp at hx
  | r :: l, h, x, y, rx, ry, hxy, hx, hy, h1, h2, h3, h4 => by
    obtain ⟨y, rfl⟩ : ∃ y', y = y' + 1 := ⟨y - 1, by omega⟩
    have hy' : l[y]? = some ry := by simpa using hy
    unfold spine at h
    cases x with
    | zero =>
      simp at hx; subst hx
      rw [h1, h2] at h
      simp only [Bool.and_self, List.map_cons, effsOk, Bool.and_eq_true, List.all_eq_true] at h
      have hm : ∀ (l : List TRow), ry ∈ l → (ry.i, ry.h) ∈ spine l := by
        intro l
        induction l with
        | nil => intro h; cases h
        | cons q l ih =>
          intro h
          unfold spine
          rcases List.mem_cons.1 h with rfl | h
          · rw [h3, h4]; simp
          · have := ih h
            split
            · simp [this]
            · exact this
      exact h.1 _ (List.mem_map.2 ⟨_, hm l (List.mem_of_getElem? hy'), rfl⟩)
    | succ x =>
      have hx' : l[x]? = some rx := by simpa using hx
      refine effsOk_spec l ?_ x y rx ry (by omega) hx' hy' h1 h2 h3 h4
      split at h
      · simp only [List.map_cons, effsOk, Bool.and_eq_true] at h; exact h.2
      · exact h

theorem mem_spine {r : TRow} (h1 : r.run = true) (h2 : isEff r.ar = true) : ∀ {l : List TRow}, r ∈ l → (r.i, r.h) ∈ spine l
  | [], h => by cases h
  | q :: l, h => by
    unfold spine
    rcases List.mem_cons.1 h with rfl | h
    · rw [h1, h2]; simp
    · have := mem_spine h1 h2 h
      split
      · simp [this]
      · exact this
theorem spine_mem {p : Nat × AH} : ∀ {l : List TRow}, p ∈ spine l → ∃ r ∈ l, r.run = true ∧ isEff r.ar = true ∧ p = (r.i, r.h)
  | [], h => by cases h
  | q :: l, h => by
    unfold spine at h
    split at h
    · rename_i hc
      simp only [Bool.and_eq_true] at hc
      rcases List.mem_cons.1 h with rfl | h
      · exact ⟨q, by simp, hc.1, hc.2, rfl⟩
      · obtain ⟨r, h1, h2⟩ := spine_mem h; exact ⟨r, by simp [h1], h2⟩
    · obtain ⟨r, h1, h2⟩ := spine_mem h; exact ⟨r, by simp [h1], h2⟩

theorem pairsOk_spec {ops : List Oper} {bef : List Nat} : ∀ (l : List Oper) (j : Nat), ops.drop j = l → pairsOk ops bef l j = true → ∀ (m k : Nat) (p o : Oper), j ≤ k → m < k → ops[m]? = some p → ops[k]? = some o → clash ops p o = true → bit bef k m = true
  | [], j, hl, _, m, k, p, o, hjk, _, _, hk, _ => by
    have : (ops.drop j)[k - j]? = some o := by rw [List.getElem?_drop]; rw [show j + (k - j) = k by omega]; exact hk
    rw [hl] at this; cases this
  | q :: l, j, hl, h, m, k, p, o, hjk, hmk, hm, hk, hc => by
    unfold pairsOk at h
    simp only [Bool.and_eq_true, List.all_eq_true] at h
    have hq : ops[j]? = some q := by
      have : (ops.drop j)[0]? = some q := by rw [hl]; rfl
      simpa using this
    by_cases e : k = j
    · subst e
      have h1 := h.1 (p, m) (by
        rw [List.mk_mem_zipIdx_iff_getElem?]
        rw [List.getElem?_take, if_pos hmk, hm])
      rw [hk] at hq; cases hq
      simp only at h1
      rw [hc] at h1
      simpa using h1
    · refine pairsOk_spec l (j + 1) ?_ h.2 m k p o (by omega) hmk hm hk hc
      have : (ops.drop j).drop 1 = l := by rw [hl]; rfl
      simpa using this

theorem holdsAt_P {E : Env} {r : TRow} {e : Nat} {h : AH} (hh : holdsAt E r e h = true) : HoldsP E r e h := by
  unfold holdsAt at hh
  unfold HoldsP
  split at hh
  · rename_i v hv
    split at hh <;> try (cases hh; done)
    rename_i v2 ha
    simp only [Bool.and_eq_true] at hh
    obtain ⟨⟨h1, h2⟩, h3⟩ := hh
    rw [ha, veq_eq h1]
    exact ⟨rfl, by rw [← veq_eq h1]; exact h2, h3⟩
  · rename_i v o hv
    split at hh
    · rename_i hb; exact .inl (Nat.le_of_ble_eq_true hb)
    · split at hh <;> try (cases hh; done)
      rename_i o2 ho2
      right
      rw [ho2, objEq_eq hh]
  · rename_i h1 h2
    cases har : r.ar with
    | read v => exact absurd har (h1 v)
    | new v o => exact absurd har (h2 v o)
    | _ => trivial
theorem nextsOk_P : ∀ {rows : List TRow} {n : Nat}, nextsOk rows n = true → NextsP rows n
  | [], _, _ => trivial
  | [r], _, h => Nat.le_of_ble_eq_true h
  | r :: q :: l, _, h => by
    simp only [nextsOk, Bool.and_eq_true] at h
    exact ⟨Nat.le_of_ble_eq_true h.1, nextsOk_P h.2⟩
theorem drawOk_P {E : Env} {ops : List Oper} {bef : List Nat} {rows : List TRow} {h : AH} (hd : drawOk E ops bef rows h = true) : DrawP E ops bef rows h := by
  unfold drawOk at hd
  simp only [Bool.and_eq_true] at hd
  obtain ⟨⟨⟨hst, hnx⟩, hef⟩, htr⟩ := hd
  refine ⟨hst, nextsOk_P hnx, hef, fun r hr hrun hn p hp hw => ?_⟩
  unfold traceOk at htr
  have := List.all_eq_true.1 htr r hr
  rw [hrun, hn] at this
  simp only [Bool.and_self, List.all_eq_true] at this
  have h2 := this p hp
  obtain ⟨e, h'⟩ := p
  simp only [Bool.or_eq_true] at h2
  rcases h2 with h2 | h2
  · rw [hw] at h2; cases h2
  · exact holdsAt_P h2
theorem drawEither {E : Env} {ops : List Oper} {bef : List Nat} {rows : List TRow} {h : AH} (hd : (drawOk E ops bef rows h || pdec (DrawP E ops bef rows h)) = true) : DrawP E ops bef rows h := by
  simp only [Bool.or_eq_true] at hd
  rcases hd with hd | hd
  · exact drawOk_P hd
  · unfold pdec at hd
    exact @of_decide_eq_true _ (Classical.propDecidable _) hd
theorem either_of {E : Env} {ops : List Oper} {bef : List Nat} {rows : List TRow} {h : AH} (hd : DrawP E ops bef rows h) : (drawOk E ops bef rows h || pdec (DrawP E ops bef rows h)) = true := by
  have : pdec (DrawP E ops bef rows h) = true := by unfold pdec; exact @decide_eq_true _ (Classical.propDecidable _) hd
  rw [this, Bool.or_true]

theorem traceR_ctx {P : Program} {G : Nat → Bool} {E : Env} {ops : Array Oper} {s s' : ES} {rows : List TRow} (ht : TraceR P G E ops.toList ops.toList 0 s s' rows) (hdr : DrawP E ops.toList (befOf ops.toList) rows s'.h) :
    ∃ C : Ctx P G E ops, C.T 0 = s.tm ∧ C.H 0 = s.h ∧ C.T ops.size = s'.tm ∧ C.H ops.size = s'.h ∧ staticOk ops.toList (befOf ops.toList) = true := by
  obtain ⟨hlen, hT0, hH0, hrow⟩ := trace_spec ops.toList 0 s s' rows ht
  obtain ⟨hst, hnx, hef, htr⟩ := hdr
  have hlen' : rows.length = ops.size := by simpa using hlen
  let R : Nat → TRow := fun i => (rows[i]?).getD ⟨0, default, false, .pur undef, undef, .leaf, s.h⟩
  have hR : ∀ {i r}, rows[i]? = some r → R i = r := fun h => by simp [R, h]
  have hrow' : ∀ i, i < ops.size → ∃ r, rows[i]? = some r ∧ R i = r ∧ ops[i]? = some r.o ∧ r.i = i ∧ r.tm = tAt rows s' i ∧ r.h = hAt rows s' i ∧ StepOk P G E ops.toList r (tAt rows s' (i + 1)) (hAt rows s' (i + 1)) := by
    intro i hi
    obtain ⟨r, h1, h2, h3, h4⟩ := hrow i ops[i] (by simp [hi])
    exact ⟨r, h1, hR h1, by rw [h3]; simp [hi], by omega, by simp [tAt, h1], by simp [hAt, h1], h4⟩
  have hmono : ∀ i j, i ≤ j → j ≤ ops.size → (hAt rows s' i).next ≤ (hAt rows s' j).next := by
    intro i j hij
    induction hij with
    | refl => intro _; exact Nat.le_refl _
    | step h1 ih =>
      intro h2
      exact Nat.le_trans (ih (by omega)) (nextsOk_spec rows s' hnx _ (by omega))
  have hend : ∀ {α : Type} (f : TRow → α) (d : α), (match rows[ops.size]? with | some r => f r | none => d) = d := by
    intro α f d
    rw [List.getElem?_eq_none (by omega)]
  refine ⟨⟨R, hAt rows s', tAt rows s', ?_, hmono, ?_, ?_, ?_⟩, hT0, hH0, ?_, ?_, hst⟩
  · intro i hi
    obtain ⟨r, h1, h2, h3, h4, h5, h6, h7⟩ := hrow' i hi
    rw [h2]
    exact ⟨h3, h4, h5, h6, h7⟩
  · intro i j hij hj hc
    obtain ⟨r, h1, h2, h3, h4, _⟩ := hrow' i (by omega)
    obtain ⟨q, k1, k2, k3, k4, _⟩ := hrow' j hj
    rw [h2, k2] at hc
    have h0 := hst
    unfold staticOk at h0
    simp only [Bool.and_eq_true] at h0
    exact pairsOk_spec ops.toList 0 rfl h0.1.1.1 i j r.o q.o (Nat.zero_le _) hij (by simpa using h3) (by simpa using k3) hc
  · intro x y hxy hy e1 e2 e3 e4
    obtain ⟨r, h1, h2, h3, h4, _⟩ := hrow' x (by omega)
    obtain ⟨q, k1, k2, k3, k4, _⟩ := hrow' y hy
    rw [h2] at e1 e2
    rw [k2] at e3 e4
    have := effsOk_spec rows hef x y r q hxy h1 k1 e1 e2 e3 e4
    rw [h4, k4] at this; exact this
  · intro i hi e1 e2 e he hee hwin
    obtain ⟨r, h1, h2, h3, h4, h5, h6, _⟩ := hrow' i hi
    rw [h2] at e1 e2
    rw [h2]
    have hmem : (e, hAt rows s' e) ∈ spine rows ++ [(ops.toList.length, s'.h)] := by
      rw [List.mem_append]
      rcases hee with rfl | ⟨g1, g2⟩
      · right
        have : hAt rows s' ops.size = s'.h := hend _ _
        rw [this]; simp
      · rcases Nat.lt_or_ge e ops.size with hlt | hge
        · left
          obtain ⟨q, k1, k2, k3, k4, _, k6, _⟩ := hrow' e hlt
          rw [k2] at g1 g2
          have := mem_spine g1 g2 (List.mem_of_getElem? k1)
          rw [k4, k6] at this; exact this
        · right
          obtain rfl : e = ops.size := by omega
          have : hAt rows s' ops.size = s'.h := hend _ _
          rw [this]; simp
    have : inWin (befOf ops.toList) ((spine rows).map (·.1)) r.i e = true := by
      unfold inWin
      rw [List.all_eq_true]
      intro x hx
      obtain ⟨p, hp, rfl⟩ := List.mem_map.1 hx
      obtain ⟨q, g1, g2, g3, rfl⟩ := spine_mem hp
      obtain ⟨x, g4⟩ := List.getElem?_of_mem g1
      have hxl : x < ops.size := by have := (List.getElem?_eq_some_iff.1 g4).1; omega
      obtain ⟨q', k1, k2, k3, k4, _⟩ := hrow' x hxl
      rw [g4] at k1; cases k1
      simp only
      rw [k4, h4]
      have := hwin x hxl (by rw [k2]; exact g2) (by rw [k2]; exact g3)
      simp only [Bool.and_eq_true, Bool.or_eq_true, Bool.not_eq_true', Nat.blt_eq]
      constructor
      · cases hb : bit (befOf ops.toList) i x with
        | false => left; rfl
        | true => right; exact this.1 hb
      · rcases Nat.lt_or_ge x e with hlt | hge
        · right; exact this.2 hlt
        · left
          cases hb : Nat.blt x e with
          | false => rfl
          | true => rw [Nat.blt_eq] at hb; omega
    exact htr r (List.mem_of_getElem? h1) e1 e2 _ hmem this
  · exact hend _ _
  · exact hend _ _

section
variable {P : Program} {E : Env} {G : Nat → Bool} {ops : Array Oper}

theorem traceR_sound (hE : EnvOk P G E) {N id : Nat} (hall : ops.toList.all (operOk G N) = true) {Q : Exit → Act → World → Prop} {s s' : ES} {μ : Mu} {a : Act} {w : World}
    {rows : List TRow} (ht : TraceR P G E ops.toList ops.toList 0 s s' rows) (hdr : DrawP E ops.toList (befOf ops.toList) rows s'.h) (hs : SR' G N μ s a w) (hq : ∀ a' w' μ', Post μ s.h w μ' s'.h w' → SR' G N μ' s' a' w' → Q .normal a' w') : (Code.region id ops true).wp P Q a w := by
  obtain ⟨C, hT0, hH0, hTn, hHn, hst⟩ := traceR_ctx ht hdr
  unfold staticOk at hst
  simp only [Bool.and_eq_true] at hst
  obtain ⟨⟨⟨_, ht1⟩, ht2⟩, ht3⟩ := hst
  let w0 : World := { w with drawn := w.drawn + 1 }
  have hp0 : Post μ s.h w μ s.h w0 := Post.same hs.rel rfl
  have hG : ∀ g, G g = true → g < s.h.next := fun g hg => by have := (hs.glob g hg).1.1; rw [hs.rel.nx] at this; exact this
  have hop : ∀ i, i < ops.size → operOk G N (C.R i).o = true := fun i hi => by
    have := (C.row i hi).1
    exact List.all_eq_true.1 hall _ (by rw [Array.mem_toList_iff]; exact Array.mem_of_getElem? this)
  have hl0 : ∀ i, ¬ Listed (Array.replicate ops.size false) i := fun i => by
    unfold Listed
    rw [Array.getD_eq_getD_getElem?]
    rcases Nat.lt_or_ge i ops.size with hlt | hge
    · simp [hlt]
    · rw [Array.getElem?_eq_none (by simpa using hge)]; simp
  have hlow : ∀ b, s.h.next ≤ b → μ b = .no := fun b hb => by
    cases e : μ b with
    | no => rfl
    | _ => have := hp0.rel.low b (by rw [e]; intro h; cases h); omega
  have hinit : InvAt C N μ s.h w0 0 (Listed (Array.replicate ops.size false)) a w0 μ μ.f := by
    refine ⟨Nat.zero_le _, fun x _ => by simp [hl0], fun j hj => absurd hj (hl0 j), by rw [hH0]; exact Post.refl hp0.rel, hs.glob, fun b _ => rfl, rfl, fun i o hi => by omega, fun i o _ _ hS => absurd hS (hl0 i),
      hp0.rel.inj, fun b hb hF => ?_, fun j t hj h1 h2 => ?_, hs.size, hs.defers⟩
    · rw [hH0] at hb; exact absurd (hlow b hb) hF
    · have key : ∀ j, j ≤ ops.size → (∀ i, i < j → (C.R i).o.dst = some t → Listed (Array.replicate ops.size false) i) → ev (C.T j) (.tmp t) = ev s.tm (.tmp t) := by
        intro j
        induction j with
        | zero => intro _ _; rw [hT0]
        | succ j ih =>
          intro hj h1
          obtain ⟨_, _, hT, _, h5⟩ := C.row j (by omega)
          have hih := ih (by omega) (fun i hi => h1 i (by omega))
          rw [h5.tm, hT]
          cases hd : (C.R j).o.dst with
          | none => exact hih
          | some d =>
            simp only [putT]
            rw [ev_put, if_neg (fun e => hl0 j (h1 j (by omega) (by rw [hd, e])))]
            exact hih
      rw [key j hj h1]
      refine VR.later (μ := μ) (μ' := ⟨(C.H j).next, μ.f⟩) ⟨⟨by have := C.mono 0 j (Nat.zero_le _) hj; rw [hH0] at this; rw [hs.rel.nx]; exact this, fun _ _ _ h => h⟩, fun b _ => .inl rfl⟩ (hs.tmps t)
  have hall2 : ∀ md l, topoOk md ops.toList l = true → wpAny P md ops Q ops.size (Array.replicate ops.size false) a w0 := by
    intro md l ht
    obtain ⟨e, μ', _, he, hi⟩ := InvAt.settle C _ 0 μ rfl hinit
    refine draw_any C hE ht hop hG (fun i hi => by rw [← hH0]; exact C.mono 0 i (Nat.zero_le _) hi) (fun a' w' μ' p hs' => ?_) ops.size _ a w0 e μ' μ.f (by simp) (by simp) he hi
    rw [hHn] at p
    refine hq a' w' μ' (hp0.trans p) ?_
    have : (⟨C.T ops.size, C.H ops.size⟩ : ES) = s' := by rw [hTn, hHn]
    rw [this] at hs'; exact hs'
  refine wp_region_draw fun t => ?_
  unfold Region.schedule
  split
  · exact wpAny_sound ops.size t _ a w0 (hall2 _ _ ht1)
  · split
    · exact wpAny_sound ops.size _ _ a w0 (hall2 _ _ ht2)
    · exact wpAny_sound ops.size _ _ a w0 (hall2 _ _ ht3)

theorem evDraw_sound (hE : EnvOk P G E) {call : Caller} (hc : CallerOk P G call) {N id : Nat} (hall : ops.toList.all (operOk G N) = true) {Q : Exit → Act → World → Prop} {s s' : ES} {μ : Mu} {a : Act} {w : World}
    (h : evDraw E call ops.toList s = some s') (hs : SR' G N μ s a w) (hq : ∀ a' w' μ', Post μ s.h w μ' s'.h w' → SR' G N μ' s' a' w' → Q .normal a' w') : (Code.region id ops true).wp P Q a w := by
  unfold evDraw at h
  split at h <;> try (cases h; done)
  rename_i s1 rows ht
  split at h <;> cases h
  rename_i hd
  exact traceR_sound hE hall (evTrace_R hc _ _ _ _ _ ht) (drawEither hd) hs hq
end
end Go.Ev
end
section
namespace Go.Ev
/-! code -/
section
variable {P : Program} {E : Env} {G : Nat → Bool} {call : Caller}

def Ex.exit' : Ex → Exit
  | .normal => .normal
  | .exit i => .exit i
  | .ret => .ret

/-- what a piece of code promises -/
def CodeS (_P : Program) (G : Nat → Bool) (N : Nat) (s : ES) (ex : Ex) (s' : ES) (Q : Exit → Act → World → Prop) : Act → World → Mu → Prop := fun _ w μ =>
  ∀ a' w' μ', Post μ s.h w μ' s'.h w' → SR' G N μ' s' a' w' → Q ex.exit' a' w'

theorem evRegion_sound (hE : EnvOk P G E) (hc : CallerOk P G call) {N id : Nat} {ops : Array Oper} {draw : Bool} (hall : ops.toList.all (operOk G N) = true) {Q : Exit → Act → World → Prop} {s s' : ES} {ex : Ex} {μ : Mu} {a : Act} {w : World}
    (h : evRegion E call ops.toList draw s = some (ex, s')) (hs : SR' G N μ s a w) (hq : CodeS P G N s ex s' Q a w μ) : (Code.region id ops draw).wp P Q a w := by
  unfold evRegion at h
  split at h <;> cases h
  rename_i s1 h1
  cases draw with
  | false =>
    refine wp_region ?_
    have := evOps_sound hE hc (ops := ops) ops.toList 0 (by simp) hall h1 hs (Q := Q) hq
    rw [List.range_eq_range']
    simpa using this
  | true => exact evDraw_sound hE hc hall h1 hs hq

theorem evCode_sound (hE : EnvOk P G E) (hc : CallerOk P G call) {N : Nat} : ∀ (n : Nat), (∀ {c : Code} {s s' : ES} {ex : Ex}, evCode E call n c s = some (ex, s') → codeOk G N c = true → ∀ {Q : Exit → Act → World → Prop} {μ : Mu} {a : Act} {w : World},
      SR' G N μ s a w → CodeS P G N s ex s' Q a w μ → c.wp P Q a w) ∧
    (∀ {b : Code} {s s' : ES} {ex : Ex}, evCode E call n (.loop b) s = some (ex, s') → codeOk G N b = true → ∀ {Q : Exit → Act → World → Prop} {μ : Mu} {a : Act} {w : World},
      SR' G N μ s a w → CodeS P G N s ex s' Q a w μ → Code.rounds P b Q n a w)
  | 0 => ⟨fun h => by simp [evCode] at h, fun h => by simp [evCode] at h⟩
  | n + 1 => by
    obtain ⟨ih1, ih2⟩ := evCode_sound hE hc (N := N) n
    have loop : ∀ {b : Code} {s s' : ES} {ex : Ex}, evCode E call (n + 1) (.loop b) s = some (ex, s') → codeOk G N b = true → ∀ {Q : Exit → Act → World → Prop} {μ : Mu} {a : Act} {w : World},
        SR' G N μ s a w → CodeS P G N s ex s' Q a w μ → Code.rounds P b Q (n + 1) a w := by
      intro b s s' ex h hok Q μ a w hs hq
      simp only [evCode] at h
      rw [rounds_succ]
      unfold seqA at h
      split at h
      · rename_i s1 h1
        exact ih1 h1 hok hs fun a1 w1 μ1 p1 hs1 => ih2 h hok hs1 fun a2 w2 μ2 p2 hs2 => hq a2 w2 μ2 (p1.trans p2) hs2
      · rename_i hne
        refine ih1 h hok hs fun a1 w1 μ1 p1 hs1 => ?_
        have := hq a1 w1 μ1 p1 hs1
        cases ex with
        | normal => exact absurd h (hne s')
        | exit i => exact this
        | ret => exact this
    refine ⟨?_, loop⟩
    intro c s s' ex h hok Q μ a w hs hq
    cases c with
    | loop b => exact wp_loop_rounds (n + 1) (loop h (by simpa [codeOk] using hok) hs hq)
    | skip => simp only [evCode] at h; cases h; exact wp_skip (hq a w μ (Post.refl hs.rel) hs)
    | label l => simp only [evCode] at h; cases h; exact wp_label (hq a w μ (Post.refl hs.rel) hs)
    | exit i => simp only [evCode] at h; cases h; exact wp_exit (hq a w μ (Post.refl hs.rel) hs)
    | ret => simp only [evCode] at h; cases h; exact wp_ret (hq a w μ (Post.refl hs.rel) hs)
    | region id ops draw => simp only [evCode] at h; exact evRegion_sound hE hc (by simpa [codeOk] using hok) h hs hq
    | seq x y =>
      simp only [evCode] at h
      simp only [codeOk, Bool.and_eq_true] at hok
      refine wp_seq ?_
      unfold seqA at h
      split at h
      · rename_i s1 h1
        exact ih1 h1 hok.1 hs fun a1 w1 μ1 p1 hs1 => ih1 h hok.2 hs1 fun a2 w2 μ2 p2 hs2 => hq a2 w2 μ2 (p1.trans p2) hs2
      · rename_i hne
        refine ih1 h hok.1 hs fun a1 w1 μ1 p1 hs1 => ?_
        have := hq a1 w1 μ1 p1 hs1
        cases ex with
        | normal => exact absurd h (hne s')
        | exit i => exact this
        | ret => exact this
    | cond c x y =>
      simp only [evCode] at h
      simp only [codeOk, Bool.and_eq_true] at hok
      have hv := hs.tmps.opd hs.glob hok.1.1
      unfold condA at h
      split at h <;> try (cases h; done)
      · rename_i e; rw [e] at hv; exact wp_cond_true hv.bool (ih1 h hok.1.2 hs hq)
      · rename_i e; rw [e] at hv; exact wp_cond_false hv.bool (ih1 h hok.2 hs hq)
    | block id b =>
      simp only [evCode] at h
      refine wp_block ?_
      unfold blockA at h
      split at h
      · rename_i i s1 h1
        refine ih1 h1 (by simpa [codeOk] using hok) hs fun a1 w1 μ1 p1 hs1 => ?_
        split at h
        · rename_i hi
          cases h
          obtain rfl := Nat.eq_of_beq_eq_true hi
          have := hq a1 w1 μ1 p1 hs1
          simpa [Ex.exit', Exit.inBlock] using this
        · rename_i hi
          cases h
          have hne : i ≠ id := by rintro rfl; simp at hi
          have := hq a1 w1 μ1 p1 hs1
          simpa [Ex.exit', Exit.inBlock, hne] using this
      · rename_i hne
        refine ih1 h (by simpa [codeOk] using hok) hs fun a1 w1 μ1 p1 hs1 => ?_
        have := hq a1 w1 μ1 p1 hs1
        cases ex with
        | normal => exact this
        | exit i => exact absurd h (hne i s')
        | ret => exact this
    | scope b =>
      simp only [evCode] at h
      refine wp_scope_straight (ih1 h (by simpa [codeOk] using hok) hs fun a1 w1 μ1 p1 hs1 => ?_)
      have := hq a1 w1 μ1 p1 hs1
      cases ex <;> exact this
    | _ => simp [evCode] at h
end
end Go.Ev
end
section
namespace Go.Ev
/-! calls -/
section
variable {P : Program} {E : Env} {G : Nat → Bool}

theorem loadVar_sound (hE : TIs P E) {μ : Mu} {h : AH} {w : World} (hr : Rel μ h w) {t : TypeId} {p : Addr} {a' v : Value} (hl : aload E t h p = some v) (ha : VR μ (.pointer (some p)) a') :
    ∃ v', (do loadVar t (← asAddr a') : Sem Value).run P w = .ok v' w ∧ VR μ v v' := by
  obtain ⟨v1, v', h1, h2, h3⟩ := load_sound (r := .read v) hE hr (t := t) (a := .pointer (some p)) (by simp [loadA, hl]) ha
  cases h1
  obtain ⟨p', rfl, _⟩ := ha.pointer
  exact ⟨v', by simpa [Instr.loadAt, Instr.sureAddr, asAddr] using h2, h3⟩

def resM (tmps : Array Value) : ResultVar → Sem Value
  | .tmp t => pure (tmps.getD t undef)
  | .cell x t => do loadVar t (← asAddr (tmps.getD x undef))
theorem results_eq (fn : Func) (tmps : Array Value) : results fn tmps = (do let vs ← fn.results.mapM (resM tmps); pure (if h : vs.size = 1 then vs[0] else .tuple vs)) := by
  unfold results
  have : (fun | .tmp t => pure (tmps.getD t undef) | .cell a t => do loadVar t (← asAddr (tmps.getD a undef)) : ResultVar → Sem Value) = resM tmps := by
    funext r; cases r <;> rfl
  rw [← this]
  rfl

theorem results_sound (hE : TIs P E) {N : Nat} {μ : Mu} {s : ES} {a : Act} {w : World} (hs : SR' G N μ s a w) : ∀ {l : List ResultVar} {vs : List Value}, resultsA E s.tm s.h l = some vs →
    ∃ vs', (l.mapM (resM a.tmps)).run P w = .ok vs' w ∧ VRs μ vs vs'
  | [], vs, h => by simp [resultsA] at h; subst h; exact ⟨[], rfl, .nil⟩
  | r :: l, vs, h => by
    unfold resultsA at h
    split at h <;> try (cases h; done)
    rename_i v hv
    split at h <;> cases h
    rename_i us hus
    obtain ⟨us', h1, h2⟩ := results_sound hE hs hus
    have key : ∃ v', (resM a.tmps r).run P w = .ok v' w ∧ VR μ v v' := by
      cases r with
      | tmp t =>
        unfold resultA at hv
        simp only [Option.some.injEq] at hv
        have := hs.tmps t
        simp only [ev] at this
        rw [hv] at this
        exact ⟨_, rfl, this⟩
      | cell x t =>
        unfold resultA at hv
        simp only at hv
        split at hv <;> try (cases hv; done)
        rename_i p hp
        have := hs.tmps x
        simp only [ev] at this
        rw [hp] at this
        exact loadVar_sound hE hs.rel hv this
    obtain ⟨v', g1, g2⟩ := key
    refine ⟨v' :: us', ?_, .cons _ _ _ _ g2 h2⟩
    rw [List.mapM_cons, Sem.run_bind, g1, Result.andThen_ok, Sem.run_bind, h1]
    rfl

theorem outA_sound (hE : TIs P E) {N : Nat} {fn : Func} {μ : Mu} {ex : Ex} {s : ES} {a : Act} {w : World} {v : Value} {h' : AH} (hs : SR' G N μ s a w) (ho : outA E fn (some (ex, s)) = some (v, h')) :
    (ex = .normal ∨ ex = .ret) ∧ h' = s.h ∧ ∃ v', (results fn a.tmps).run P w = .ok v' w ∧ VR μ v v' := by
  have hmain : ∀ {vs}, resultsA E s.tm s.h fn.results.toList = some vs → ∃ vs', VRs μ vs vs' ∧ (results fn a.tmps).run P w = .ok (if h : vs'.length = 1 then vs'[0] else .tuple ⟨vs'⟩) w := by
    intro vs hvs
    obtain ⟨vs', h1, h2⟩ := results_sound (P := P) hE hs hvs
    refine ⟨vs', h2, ?_⟩
    rw [results_eq]
    have hfr : fn.results = ⟨fn.results.toList⟩ := rfl
    rw [hfr, List.mapM_toArray]
    simp only [Sem.run_bind, Sem.run_map, h1, Result.andThen_ok]
    rfl
  have hx : ∀ {vs}, resultsA E s.tm s.h fn.results.toList = some vs → (match vs with | [v] => some (v, s.h) | vs => some (.tuple ⟨vs⟩, s.h)) = some (v, h') →
      h' = s.h ∧ ∃ v', (results fn a.tmps).run P w = .ok v' w ∧ VR μ v v' := by
    intro vs h1 h2
    obtain ⟨vs', g1, g2⟩ := hmain h1
    have hlen := g1.length
    split at h2
    · cases h2
      cases g1
      rename_i v' l' g3 g4
      cases g4
      exact ⟨rfl, v', by simpa using g2, g3⟩
    · rename_i hne
      cases h2
      refine ⟨rfl, .tuple ⟨vs'⟩, ?_, .tuple _ _ g1⟩
      rw [g2, dif_neg]
      rw [← hlen]
      intro h
      rcases vs with _ | ⟨x, _ | ⟨y, l⟩⟩ <;> simp at h
      exact hne x rfl
  unfold outA at ho
  cases ex with
  | exit i => simp at ho
  | normal =>
    simp only at ho
    cases hr : resultsA E s.tm s.h fn.results.toList with
    | none => rw [hr] at ho; cases ho
    | some vs =>
      rw [hr] at ho
      refine ⟨.inl rfl, hx hr ?_⟩
      rcases vs with _ | ⟨x, _ | ⟨y, l⟩⟩ <;> exact ho
  | ret =>
    simp only at ho
    cases hr : resultsA E s.tm s.h fn.results.toList with
    | none => rw [hr] at ho; cases ho
    | some vs =>
      rw [hr] at ho
      refine ⟨.inr rfl, hx hr ?_⟩
      rcases vs with _ | ⟨x, _ | ⟨y, l⟩⟩ <;> exact ho

/-- the same, of a function that is entered -/
def CallsOk (P : Program) (G : Nat → Bool) (f : FuncId) (args : List Value) (h : AH) (v : Value) (h' : AH) : Prop :=
  ∀ (μ : Mu) (w : World) (args' : List Value), Rel μ h w → GR G μ → VRs μ args args' →
    Calls P f ⟨args'⟩ w fun | .returned v', w' => ∃ μ', Post μ h w μ' h' w' ∧ VR μ' v v' | _, _ => False

structure EnvFull (P : Program) (G : Nat → Bool) (E : Env) : Prop extends EnvOk P G E where
  fns : ∀ f fn, E.fn f = some fn → P.funcs[f]? = some fn ∧ (fn.name == "runtime.NumGoroutine") = false ∧ ∀ c, fn.body = some c → codeOk G fn.ntmps c = true
  intr : ∀ f g, E.intr f = some g → ∀ args h v h', g args h = some (v, h') → CallOk P G f args h v h'

theorem run_callFunc {f : FuncId} {fn : Func} {c : Code} (hf : P.funcs[f]? = some fn) (hn : (fn.name == "runtime.NumGoroutine") = false) (hb : fn.body = some c) (args : Array Value) (w : World) :
    (callFunc f args).run P w = .ok (.enter f args) w := by
  have hn' : fn.name ≠ "runtime.NumGoroutine" := by simpa using hn
  simp [callFunc, hf, hn', hb]

theorem CallsOk.call {f : FuncId} {fn : Func} {c : Code} (hf : P.funcs[f]? = some fn) (hn : (fn.name == "runtime.NumGoroutine") = false) (hb : fn.body = some c) {args : List Value} {h h' : AH} {v : Value}
    (hc : CallsOk P G f args h v h') : CallOk P G f args h v h' := by
  intro μ w args' hr hg ha o a next Q hq
  rw [run_callFunc hf hn hb]
  refine (hc μ w args' hr hg ha).mono fun e w' he => ?_
  cases e with
  | returned v' => obtain ⟨μ', p, hv⟩ := he; exact hq v' w' μ' p hv
  | panicked _ => exact he.elim
  | outgrown => exact he.elim

theorem pad_get : ∀ (l : List Value) (n t : Nat), (pad l n)[t]? = if t < l.length then l[t]? else if t < n then some undef else none
  | [], 0, t => by simp [pad]
  | [], n + 1, 0 => by simp [pad]
  | [], n + 1, t + 1 => by
    have := pad_get [] n t
    simp only [List.length_nil, Nat.not_lt_zero, if_false] at this
    simp only [pad, List.getElem?_cons_succ, this, List.length_nil, Nat.not_lt_zero, if_false]
    by_cases h : t < n <;> simp [h]
  | x :: l, 0, t => by
    by_cases h : t < (x :: l).length
    · rw [if_pos h]; rfl
    · rw [if_neg h]; simp only [pad, Nat.not_lt_zero, if_false]; rw [List.getElem?_eq_none (by omega)]
  | x :: l, n + 1, 0 => by simp [pad]
  | x :: l, n + 1, t + 1 => by
    have := pad_get l n t
    simp only [pad, List.getElem?_cons_succ, this, List.length_cons]
    by_cases h : t < l.length <;> by_cases h2 : t < n <;> simp [h, h2]

theorem TR.fill {μ : Mu} {args args' : List Value} (h : VRs μ args args') (n m : Nat) : TR μ (Tr.fill (pad args m) 0 .leaf) ((⟨args'⟩ : Array Value) ++ Array.replicate n undef) := by
  intro (t : Nat)
  have hg : (Tr.fill (pad args m) 0 .leaf).get t = (pad args m)[t]? := by
    rw [Tr.get_fill]
    by_cases h : t < (pad args m).length
    · simp [h]
    · rw [if_neg (by omega), List.getElem?_eq_none (by omega)]; rfl
  simp only [ev, hg, pad_get]
  rw [Array.getD_eq_getD_getElem?]
  have hlen := h.length
  by_cases hlt : t < args.length
  · rw [if_pos hlt]
    obtain ⟨v', h1, h2⟩ := h.get (List.getElem?_eq_getElem hlt)
    rw [List.getElem?_eq_getElem hlt]
    rw [Array.getElem?_append_left (by simp; omega)]
    simp only [List.getElem?_toArray, h1, Option.getD_some]
    exact h2
  · rw [if_neg hlt]
    rw [Array.getElem?_append_right (by simp; omega)]
    have : ((Array.replicate n undef)[t - (⟨args'⟩ : Array Value).size]?).getD undef = undef := by
      rw [Array.getElem?_replicate]
      split <;> rfl
    rw [this]
    by_cases h2 : t < m
    · rw [if_pos h2]; exact VR.undef
    · rw [if_neg h2]; exact VR.any _

theorem bodyA_sound (hE : EnvFull P G E) {call : Caller} (hc : CallerOk P G call) {n : Nat} {f : FuncId} {fn : Func} (hf : E.fn f = some fn) {args : List Value} {h h' : AH} {v : Value}
    (hb : bodyA E (evCode E call n) fn args h = some (v, h')) : ∃ c, fn.body = some c ∧ CallsOk P G f args h v h' := by
  obtain ⟨hf1, hf2, hf3⟩ := hE.fns f fn hf
  unfold bodyA at hb
  split at hb <;> try (cases hb; done)
  rename_i c hbody hle
  refine ⟨c, hbody, fun μ w args' hr hg ha => ?_⟩
  have hlen := ha.length
  have hle' := Nat.le_of_ble_eq_true hle
  refine calls_of_wp hf1 hbody ?_
  cases hrun : evCode E call n c ⟨Tr.fill (pad args fn.ntmps) 0 .leaf, h⟩ with
  | none => rw [hrun] at hb; simp [outA] at hb
  | some r =>
    obtain ⟨ex, s'⟩ := r
    rw [hrun] at hb
    have hs : SR' G fn.ntmps μ ⟨Tr.fill (pad args fn.ntmps) 0 .leaf, h⟩ { tmps := (⟨args'⟩ : Array Value) ++ Array.replicate (fn.ntmps - (⟨args'⟩ : Array Value).size) undef, defers := [] } w :=
      ⟨hr, hg, TR.fill ha _ _, by simp; omega, rfl⟩
    refine (evCode_sound hE.toEnvOk hc n).1 hrun (hf3 c hbody) hs fun a' w' μ' p hs' => ?_
    obtain ⟨he, e2, v', g1, g2⟩ := outA_sound hE.ti hs' hb
    subst e2
    rcases he with rfl | rfl
    · exact ⟨hs'.defers, v', g1, μ', p, g2⟩
    · exact ⟨hs'.defers, v', g1, μ', p, g2⟩

theorem evCall_sound (hE : EnvFull P G E) : ∀ n, CallerOk P G (evCall E n)
  | 0 => fun f args h v h' μ w args' hc => by simp [evCall] at hc
  | n + 1 => by
    have ih := evCall_sound hE n
    intro f args h v h' μ w args' hc hr hg ha
    unfold evCall at hc
    split at hc
    · rename_i g hg'
      exact hE.intr f g hg' args h v h' hc μ w args' hr hg ha
    · split at hc <;> try (cases hc; done)
      rename_i fn hf
      obtain ⟨c, hb, hco⟩ := bodyA_sound hE ih hf hc
      obtain ⟨hf1, hf2, _⟩ := hE.fns f fn hf
      exact CallsOk.call hf1 hf2 hb hco μ w args' hr hg ha

/-- **what the evaluator answers, every run answers** -/
theorem evCall_calls (hE : EnvFull P G E) {n : Nat} {f : FuncId} (hi : E.intr f = none) {args : List Value} {h h' : AH} {v : Value} (hc : evCall E n f args h = some (v, h')) : CallsOk P G f args h v h' := by
  cases n with
  | zero => simp [evCall] at hc
  | succ n =>
    unfold evCall at hc
    rw [hi] at hc
    simp only at hc
    split at hc <;> try (cases hc; done)
    rename_i fn hf
    obtain ⟨c, hb, hco⟩ := bodyA_sound hE (evCall_sound hE n) hf hc
    exact hco
end
end Go.Ev
end
section
namespace Go.Ev
/-! what is new may be forgotten -/

mutual
def fg (n : Nat) : Value → Value
  | .pointer (some a) => match Nat.blt a.block n with
    | true => .pointer (some a)
    | false => .pointer (some ⟨n, 0, none⟩)
  | .slice (some a) l k => match Nat.blt a.block n with
    | true => .slice (some a) l k
    | false => .slice (some ⟨n, 0, none⟩) l k
  | .map (some r) => match Nat.blt r n with
    | true => .map (some r)
    | false => .map (some n)
  | .func (.yield m) a b => .func (.yield m) a b
  | .func f ⟨a⟩ ⟨b⟩ => .func f ⟨fgs n a⟩ ⟨fgs n b⟩
  | .iface t v => .iface t (fg n v)
  | .agg ⟨a⟩ => .agg ⟨fgs n a⟩
  | .tuple ⟨a⟩ => .tuple ⟨fgs n a⟩
  | v => v
def fgs (n : Nat) : List Value → List Value
  | [] => []
  | a :: l => fg n a :: fgs n l
end

/-- the places behind: new blocks are one, of which nothing is known -/
def Mu.forget (μ : Mu) (n : Nat) : Mu := ⟨n + 1, ⟨fun b => if b < n then μ b else if b = n then .dead else .no, μ.f.im⟩⟩

theorem forget_lt {μ : Mu} {n b : Nat} (h : b < n) : (μ.forget n) b = μ b := by simp [Mu.forget, h]
theorem forget_n (μ : Mu) (n : Nat) : (μ.forget n) n = .dead := by simp [Mu.forget]
theorem forget_has {μ : Mu} {n b : Nat} (h : b < n) (hb : μ.has b) : (μ.forget n).has b := ⟨by simp [Mu.forget]; omega, by have := forget_lt (μ := μ) h; rw [show (μ.forget n).f b = μ b from this]; exact hb.2⟩
theorem forget_hasn (μ : Mu) (n : Nat) : (μ.forget n).has n := ⟨by simp [Mu.forget], by rw [show (μ.forget n).f n = .dead from forget_n μ n]; intro h; cases h⟩

theorem blt_lt {a b : Nat} (h : Nat.blt a b = true) : a < b := by rw [Nat.blt_eq] at h; exact h

mutual
theorem VR.fg {μ : Mu} {n : Nat} : ∀ {v v' : Value}, VR μ v v' → VR (μ.forget n) (fg n v) v'
  | _, _, .lit v h => by
    have : Ev.fg n v = v := by
      cases v with
      | pointer a => cases a <;> simp [litV] at h <;> rfl
      | slice a l k => cases a <;> first | rfl | simp [litV] at h
      | map a => cases a <;> simp [litV] at h <;> rfl
      | _ => first | rfl | simp [litV] at h
    rw [this]; exact .lit v h
  | _, _, .ptr a a' h => by
    unfold Ev.fg
    cases hb : Nat.blt a.block n with
    | true =>
      have hlt := blt_lt hb
      exact .ptr a a' ⟨h.1, forget_has hlt h.2.1, fun r ro sz e => h.2.2 r ro sz (by rw [← forget_lt hlt]; exact e)⟩
    | false => exact .ptr _ a' ⟨rfl, forget_hasn μ n, fun r ro sz e => by rw [forget_n] at e; cases e⟩
  | _, _, .slice a a' l k c h => by
    unfold Ev.fg
    cases hb : Nat.blt a.block n with
    | true =>
      have hlt := blt_lt hb
      exact .slice a a' l k c ⟨h.1, forget_has hlt h.2.1, h.2.2.1, fun r ro sz e => h.2.2.2 r ro sz (by rw [← forget_lt hlt]; exact e)⟩
    | false => exact .slice _ a' l k c ⟨rfl, forget_hasn μ n, h.2.2.1, fun r ro sz e => by rw [forget_n] at e; cases e⟩
  | _, _, .map b r h => by
    unfold Ev.fg
    cases hb : Nat.blt b n with
    | true =>
      have hlt := blt_lt hb
      exact .map b r ⟨forget_has hlt h.1, fun r' ro' sz' e => h.2 r' ro' sz' (by rw [← forget_lt hlt]; exact e)⟩
    | false => exact .map n r ⟨forget_hasn μ n, fun r' ro' sz' e => by rw [forget_n] at e; cases e⟩
  | _, _, .func f x y x' y' hx hy => .func f _ _ x' y' (VRs.fgs hx) (VRs.fgs hy)
  | _, _, .iface t v v' h => .iface t _ v' (VR.fg h)
  | _, _, .agg x x' h => .agg _ x' (VRs.fgs h)
  | _, _, .tuple x x' h => .tuple _ x' (VRs.fgs h)
  | _, _, .imm l n k v' h => .imm l n k v' h
  | _, _, .immp l v' h => .immp l v' h
  | _, _, .any v' => .any v'
theorem VRs.fgs {μ : Mu} {n : Nat} : ∀ {l l' : List Value}, VRs μ l l' → VRs (μ.forget n) (fgs n l) l'
  | _, _, .nil => .nil
  | _, _, .cons v v' l l' h hl => .cons _ _ _ _ (VR.fg h) (VRs.fgs hl)
end

mutual
theorem VR.vbound {μ : Mu} : ∀ {v v' : Value}, VR μ v v' → vb μ.n v = true
  | _, _, .lit v h => by
    cases v with
    | pointer a => cases a <;> simp [litV] at h <;> rfl
    | slice a l k => cases a <;> first | rfl | simp [litV] at h
    | map a => cases a <;> simp [litV] at h <;> rfl
    | _ => first | rfl | simp [litV] at h
  | _, _, .ptr a a' h => by simp [vb, Nat.blt_eq]; exact h.2.1.1
  | _, _, .slice a a' l k c h => by simp [vb, Nat.blt_eq]; exact h.2.1.1
  | _, _, .map b r h => by simp [vb, Nat.blt_eq]; exact h.1.1
  | _, _, .func f x y x' y' hx hy => by simp [vb]; exact ⟨VRs.vbound hx, VRs.vbound hy⟩
  | _, _, .iface t v v' h => by simp [vb]; exact VR.vbound h
  | _, _, .agg x x' h => by simp [vb]; exact VRs.vbound h
  | _, _, .tuple x x' h => by simp [vb]; exact VRs.vbound h
  | _, _, .imm l n k v' h => rfl
  | _, _, .immp l v' h => rfl
  | _, _, .any v' => rfl
theorem VRs.vbound {μ : Mu} : ∀ {l l' : List Value}, VRs μ l l' → vbs μ.n l = true
  | _, _, .nil => rfl
  | _, _, .cons v v' l l' h hl => by simp [vbs]; exact ⟨VR.vbound h, VRs.vbound hl⟩
end

mutual
theorem fg_id {n : Nat} : ∀ {v : Value}, vb n v = true → fg n v = v
  | .pointer none, _ => rfl
  | .pointer (some a), h => by simp only [vb] at h; unfold fg; rw [h]
  | .slice none _ _, _ => rfl
  | .slice (some a) _ _, h => by simp only [vb] at h; unfold fg; rw [h]
  | .map none, _ => rfl
  | .map (some r), h => by simp only [vb] at h; unfold fg; rw [h]
  | .func (.yield m) a b, _ => rfl
  | .func (.func f) ⟨a⟩ ⟨b⟩, h => by simp only [vb, Bool.and_eq_true] at h; unfold fg; rw [fgs_id h.1, fgs_id h.2]
  | .func (.method f) ⟨a⟩ ⟨b⟩, h => by simp only [vb, Bool.and_eq_true] at h; unfold fg; rw [fgs_id h.1, fgs_id h.2]
  | .func (.methodOf t f) ⟨a⟩ ⟨b⟩, h => by simp only [vb, Bool.and_eq_true] at h; unfold fg; rw [fgs_id h.1, fgs_id h.2]
  | .func (.via t p f q) ⟨a⟩ ⟨b⟩, h => by simp only [vb, Bool.and_eq_true] at h; unfold fg; rw [fgs_id h.1, fgs_id h.2]
  | .iface t v, h => by simp only [vb] at h; unfold fg; rw [fg_id h]
  | .agg ⟨a⟩, h => by simp only [vb] at h; unfold fg; rw [fgs_id h]
  | .tuple ⟨a⟩, h => by simp only [vb] at h; unfold fg; rw [fgs_id h]
  | .bool _, _ => rfl
  | .int _ _, _ => rfl
  | .float _ _, _ => rfl
  | .complex _ _ _, _ => rfl
  | .string _, _ => rfl
  | .chan _, _ => rfl
  | .nilFunc, _ => rfl
  | .nilIface, _ => rfl
theorem fgs_id {n : Nat} : ∀ {l : List Value}, vbs n l = true → fgs n l = l
  | [], _ => rfl
  | a :: l, h => by simp only [vbs, Bool.and_eq_true] at h; unfold fgs; rw [fg_id h.1, fgs_id h.2]
end

theorem cl_vb {n : Nat} {v : Value} (h : cl v = true) : vb n v = true := by
  unfold cl at h
  split at h
  · rfl
  · cases v with
    | pointer a => cases a <;> simp [litV] at h <;> rfl
    | slice a l k => cases a <;> first | rfl | simp [litV] at h
    | map a => cases a <;> simp [litV] at h <;> rfl
    | _ => first | rfl | simp [litV] at h
theorem cl_fg {n : Nat} {v : Value} (h : cl v = true) : fg n v = v := by
  unfold cl at h
  split at h
  · rfl
  · cases v with
    | pointer a => cases a <;> simp [litV] at h <;> rfl
    | slice a l k => cases a <;> first | rfl | simp [litV] at h
    | map a => cases a <;> simp [litV] at h <;> rfl
    | _ => first | rfl | simp [litV] at h
def fgE (n : Nat) (e : MapEntry) : MapEntry := { e with val := fg n e.val }
def fgO (n : Nat) : AObj → AObj
  | .cells c e fz s => .cells (fgs n c) e fz s
  | .siter s p => .siter s p
  | .map es cl => .map (es.map (fgE n)) cl
  | .miter m since seen st => .miter (match m with | some b => (match Nat.blt b n with | true => some b | false => some n) | none => none) since seen st

theorem fgs_get {n : Nat} : ∀ {l : List Value} {i : Nat}, (fgs n l)[i]? = (l[i]?).map (fg n)
  | [], i => by simp [fgs]
  | a :: l, 0 => by simp [fgs]
  | a :: l, i + 1 => by simp [fgs, fgs_get]
theorem fgs_length {n : Nat} : ∀ {l : List Value}, (fgs n l).length = l.length
  | [] => rfl
  | a :: l => by simp [fgs, fgs_length]

theorem ObjR.fgO {μ : Mu} {n ro sz : Nat} {o : AObj} {o' : Obj} (h : ObjR μ ro sz o o') : ObjR (μ.forget n) ro sz (fgO n o) o' := by
  cases h with
  | cells c e fz s c' lo hi hsz hlen hc hf =>
    refine .cells _ e fz s c' lo hi hsz (by rw [fgs_length]; exact hlen) (fun i v hi => ?_) (by rw [fgs_length]; exact hf)
    rw [fgs_get] at hi
    cases hv : c[i]? with
    | none => rw [hv] at hi; cases hi
    | some u =>
      rw [hv] at hi
      simp at hi
      subst hi
      obtain ⟨v', h1, h2⟩ := hc i u hv
      exact ⟨v', h1, h2.fg⟩
  | siter s pos h => exact .siter s pos h
  | map es clock es' hro hl he =>
    refine .map _ clock es' hro (by simpa using hl) fun i e hi => ?_
    rw [List.getElem?_map] at hi
    cases hv : es[i]? with
    | none => rw [hv] at hi; cases hi
    | some u =>
      rw [hv] at hi
      simp at hi
      subst hi
      obtain ⟨e', h1, h2, h3, h4, h5⟩ := he i u hv
      exact ⟨e', h1, h2, h3, h4.fg, h5⟩
  | miterNil a b c h => exact .miterNil a b c h
  | miter b r since seen st hro h =>
    have hm : ∀ m, (match Nat.blt b n with | true => some b | false => some n) = some m → BR (μ.forget n) m r := by
      intro m hm
      cases hb : Nat.blt b n with
      | true =>
        rw [hb] at hm; cases hm
        have hlt := blt_lt hb
        exact ⟨forget_has hlt h.1, fun r' ro' sz' e => h.2 r' ro' sz' (by rw [← forget_lt hlt]; exact e)⟩
      | false =>
        rw [hb] at hm; cases hm
        exact ⟨forget_hasn μ n, fun r' ro' sz' e => by rw [forget_n] at e; cases e⟩
    show ObjR (μ.forget n) ro sz (.miter (match Nat.blt b n with | true => some b | false => some n) since seen st) (.mapIter (some r) since ⟨seen⟩ st)
    cases hb : Nat.blt b n with
    | true => exact .miter _ r since seen st hro (hm _ (by rw [hb]))
    | false => exact .miter _ r since seen st hro (hm _ (by rw [hb]))

theorem ObjR.fgO_id {μ : Mu} {ro sz : Nat} {o : AObj} {o' : Obj} (h : ObjR μ ro sz o o') : Ev.fgO μ.n o = o := by
  cases h with
  | cells c e fz s c' lo hi hsz hlen hc hf =>
    have : vbs μ.n c = true := by
      have : ∀ (l : List Value), (∀ v ∈ l, ∃ v', VR μ v v') → vbs μ.n l = true := by
        intro l
        induction l with
        | nil => intro _; rfl
        | cons a l ih =>
          intro h
          simp only [vbs, Bool.and_eq_true]
          obtain ⟨v', h1⟩ := h a (by simp)
          exact ⟨h1.vbound, ih fun v hv => h v (by simp [hv])⟩
      refine this c fun v hv => ?_
      obtain ⟨i, hi⟩ := List.getElem?_of_mem hv
      obtain ⟨v', _, h2⟩ := hc i v hi
      exact ⟨v', h2⟩
    simp only [Ev.fgO, fgs_id this]
  | siter s pos h => rfl
  | map es clock es' hro hl he =>
    simp only [Ev.fgO]
    congr 1
    have : ∀ e ∈ es, fgE μ.n e = e := by
      intro e he'
      obtain ⟨i, hi⟩ := List.getElem?_of_mem he'
      obtain ⟨e', _, _, _, h4, _⟩ := he i e hi
      unfold fgE
      rw [fg_id h4.vbound]
    calc es.map (fgE μ.n) = es.map id := List.map_congr_left this
      _ = es := List.map_id es
  | miterNil a b c h => rfl
  | miter b r since seen st hro h =>
    simp only [Ev.fgO]
    have : Nat.blt b μ.n = true := by rw [Nat.blt_eq]; exact h.1.1
    rw [this]

/-- what is behind a call, but for the new blocks -/
theorem Post.forget {μ μ' : Mu} {h h' h2 : AH} {w w' : World} (hr : Rel μ h w) (p : Post μ h w μ' h' w') (hn : h2.next = h.next + 1)
    (hlt : ∀ b, b < h.next → (h'.get b = h.get b ∧ h2.get b = h.get b) ∨ (h2.get b = (h'.get b).map (fgO h.next) ∧ ¬ Stone h b)) (hge : ∀ b, h.next ≤ b → h2.get b = none) :
    Post μ h w (μ'.forget h.next) h2 w' := by
  refine ⟨⟨⟨by rw [hr.nx]; simp [Mu.forget], p.later.1.2⟩, fun b hb => ?_⟩, by omega, fun b hb e => ?_, p.size, fun b r ro sz e => ?_, p.frame, fun b hs => ?_, ⟨by simp [Mu.forget, hn], fun b c r ro sz ro' sz' e e' => ?_, fun b hb => ?_, fun b hb => ?_, fun b r ro sz e => ?_, fun b hb => ?_, ?_⟩, p.imr, p.still⟩
  rotate_right
  · intro r i v hv
    obtain ⟨h1, h2, c', e, z, v', h3, h4, h5⟩ := p.rel.imm r i v hv
    refine ⟨fun b ro sz hb => ?_, h2, c', e, z, v', h3, h4, ?_⟩
    · by_cases hbn : b < h.next
      · rw [forget_lt hbn] at hb; exact h1 _ _ _ hb
      · simp only [Mu.forget, hbn, if_false] at hb; split at hb <;> cases hb
    · have := h5.fg (n := h.next)
      rw [cl_fg h2] at this; exact this
  · have hlt' : b < h.next := by have := hb.1; rw [hr.nx] at this; exact this
    rw [forget_lt hlt']; exact p.later.2 b hb
  · rw [forget_lt hb]; exact p.low b hb e
  · by_cases hb : b < h.next
    · rw [forget_lt hb] at e; exact p.range _ _ _ _ e
    · simp only [Mu.forget, hb, if_false] at e
      split at e <;> cases e
  · obtain ⟨e1, h1⟩ := p.stone b hs
    have hb : b < h.next := hs.lt hr
    refine ⟨?_, fun r ro sz e => ?_⟩
    · rcases hlt b hb with ⟨_, h4⟩ | ⟨_, h4⟩
      · exact h4
      · exact absurd hs h4
    · obtain ⟨h2, h3⟩ := h1 r ro sz e
      exact ⟨by rw [forget_lt hb]; exact h2, h3⟩
  · by_cases hb : b < h.next <;> by_cases hc : c < h.next
    · rw [forget_lt hb] at e; rw [forget_lt hc] at e'; exact p.rel.inj _ _ _ _ _ _ _ e e'
    · simp only [Mu.forget, hc, if_false] at e'; split at e' <;> cases e'
    · simp only [Mu.forget, hb, if_false] at e; split at e <;> cases e
    · simp only [Mu.forget, hb, if_false] at e; split at e <;> cases e
  · rw [hn]
    by_cases hb' : b < h.next
    · omega
    · simp only [Mu.forget, hb', if_false] at hb
      split at hb
      · omega
      · exact absurd rfl hb
  · by_cases hb' : b < h.next
    · rw [forget_lt hb'] at hb
      have hd := p.rel.dead b hb
      rcases hlt b hb' with ⟨h3, h4⟩ | ⟨h3, _⟩
      · rw [h4, ← h3, hd]
      · rw [h3, hd]; rfl
    · exact hge b (by omega)
  · by_cases hb' : b < h.next
    · rw [forget_lt hb'] at e
      obtain ⟨o, o', h1, h2, h3⟩ := p.rel.dom b r ro sz e
      rcases hlt b hb' with ⟨h4, h5⟩ | ⟨h4, _⟩
      · refine ⟨o, o', by rw [h5, ← h4, h1], h2, ?_⟩
        have hno : μ b ≠ .no := fun hno => by have := p.low b hb' hno; rw [this] at e; cases e
        have he2 := p.later.at_ ⟨by rw [hr.nx]; exact hb', hno⟩ e
        obtain ⟨q, q', g1, _, g3⟩ := hr.dom b r ro sz he2
        rw [← h4, h1] at g1
        cases g1
        have hid := g3.fgO_id
        rw [hr.nx] at hid
        have := h3.fgO (n := h.next)
        rw [hid] at this; exact this
      · exact ⟨fgO h.next o, o', by rw [h4, h1]; rfl, h2, h3.fgO⟩
    · simp only [Mu.forget, hb', if_false] at e; split at e <;> cases e
  · exact hge b (by omega)

/-- a call's promise, of which the new blocks are forgotten -/
theorem CallsOk.forget {P : Program} {G : Nat → Bool} {f : FuncId} {args : List Value} {h h' : AH} {v : Value} (hc : CallsOk P G f args h v h') (h2 : AH) (hn : h2.next = h.next + 1)
    (hlt : ∀ b, b < h.next → (h'.get b = h.get b ∧ h2.get b = h.get b) ∨ (h2.get b = (h'.get b).map (fgO h.next) ∧ ¬ Stone h b)) (hge : ∀ b, h.next ≤ b → h2.get b = none) :
    CallsOk P G f args h (fg h.next v) h2 := by
  intro μ w args' hr hg ha
  refine (hc μ w args' hr hg ha).mono fun e w' he => ?_
  cases e with
  | returned v' =>
    obtain ⟨μ', p, hv⟩ := he
    exact ⟨μ'.forget h.next, p.forget hr hn hlt hge, hv.fg⟩
  | panicked _ => exact he
  | outgrown => exact he

/-- nothing that is new is named: all of it is forgotten -/
theorem CallsOk.drop {P : Program} {G : Nat → Bool} {f : FuncId} {args : List Value} {h h' : AH} {v : Value} (hc : CallsOk P G f args h v h')
    (same : ∀ b, b < h.next → h'.get b = h.get b) (hv : vb h.next v = true) : CallsOk P G f args h v h := by
  intro μ w args' hr hg ha
  refine (hc μ w args' hr hg ha).mono fun e w' he => ?_
  cases e with
  | panicked _ => exact he
  | outgrown => exact he
  | returned v' =>
    obtain ⟨μ', p, hvr⟩ := he
    let μ2 : Mu := ⟨h.next, ⟨fun b => if b < h.next then μ' b else .no, μ'.f.im⟩⟩
    have k2 : ∀ b, b < h.next → μ2 b = μ' b := fun b hb => by show (if b < h.next then _ else _) = _; rw [if_pos hb]
    have n2 : ∀ b, h.next ≤ b → μ2 b = .no := fun b hb => by show (if b < h.next then _ else _) = _; rw [if_neg (by omega)]
    have lt2 : ∀ b, μ2 b ≠ .no → b < h.next := fun b hb => by
      rcases Nat.lt_or_ge b h.next with h1 | h1
      · exact h1
      · exact absurd (n2 b h1) hb
    have hres : ∀ {x x' : Value}, VR μ' x x' → vb h.next x = true → VR μ2 x x' := fun hx hb => hx.restrict (μ := μ') (ν := μ2) (fun _ _ _ h => h) (fun b hb1 _ => k2 b hb1) hb
    refine ⟨μ2, ⟨⟨⟨by rw [hr.nx]; exact Nat.le_refl _, p.later.1.2⟩, fun b hb => ?_⟩, Nat.le_refl _, fun b hb e => ?_, p.size, fun b r ro sz e => ?_, p.frame, fun b hs => ?_, ⟨rfl, fun b c r ro sz ro' sz' e e' => ?_, lt2, fun b hb => ?_, fun b r ro sz e => ?_, fun b hb => hr.top b hb, ?_⟩, p.imr, p.still⟩, hres hvr hv⟩
    rotate_right
    · intro r i v hv
      obtain ⟨h1, h2, c', e, z, v', h3, h4, h5⟩ := p.rel.imm r i v hv
      refine ⟨fun b ro sz hb => ?_, h2, c', e, z, v', h3, h4, hres h5 (cl_vb h2)⟩
      have hbl := lt2 b (by rw [hb]; intro h; cases h)
      rw [k2 b hbl] at hb; exact h1 _ _ _ hb
    · have hlt : b < h.next := by have := hb.1; rw [hr.nx] at this; exact this
      rw [k2 b hlt]; exact p.later.2 b hb
    · rw [k2 b hb]; exact p.low b hb e
    · have hb := lt2 b (by rw [e]; intro h; cases h)
      rw [k2 b hb] at e; exact p.range _ _ _ _ e
    · obtain ⟨e1, h1⟩ := p.stone b hs
      refine ⟨rfl, fun r ro sz e => ?_⟩
      obtain ⟨h2, h3⟩ := h1 r ro sz e
      exact ⟨by rw [k2 b (hs.lt hr)]; exact h2, h3⟩
    · have hb := lt2 b (by rw [e]; intro h; cases h)
      have hc := lt2 c (by rw [e']; intro h; cases h)
      rw [k2 b hb] at e; rw [k2 c hc] at e'
      exact p.rel.inj _ _ _ _ _ _ _ e e'
    · have hb' := lt2 b (by rw [hb]; intro h; cases h)
      rw [k2 b hb'] at hb
      rw [← same b hb']; exact p.rel.dead b hb
    · have hb := lt2 b (by rw [e]; intro h; cases h)
      rw [k2 b hb] at e
      obtain ⟨o, o', h1, h2, h3⟩ := p.rel.dom b r ro sz e
      rw [same b hb] at h1
      refine ⟨o, o', h1, h2, ?_⟩
      have hno : μ b ≠ .no := fun hno => by have := p.low b hb hno; rw [this] at e; cases e
      have he2 := p.later.at_ ⟨by rw [hr.nx]; exact hb, hno⟩ e
      obtain ⟨q, q', g1, _, g3⟩ := hr.dom b r ro sz he2
      rw [h1] at g1; cases g1
      cases h3 with
      | cells c e fz s c' lo hi hsz hlen hcc hf =>
        refine .cells c e fz s c' lo hi hsz hlen (fun i v hi => ?_) hf
        obtain ⟨v1, g4, g5⟩ := hcc i v hi
        refine ⟨v1, g4, hres g5 ?_⟩
        cases g3 with
        | cells _ _ _ _ c2 lo2 hi2 _ _ hcc2 _ =>
          obtain ⟨v2, _, g6⟩ := hcc2 i v hi
          have := g6.vbound
          rw [hr.nx] at this; exact this
      | siter s pos h => exact .siter s pos h
      | map es clock es' hro hl he =>
        refine .map es clock es' hro hl fun i e hi => ?_
        obtain ⟨e', q1, q2, q3, q4, q5⟩ := he i e hi
        refine ⟨e', q1, q2, q3, hres q4 ?_, q5⟩
        cases g3 with
        | map _ _ es2 _ _ he2 =>
          obtain ⟨e2, _, _, _, g6, _⟩ := he2 i e hi
          have := g6.vbound
          rw [hr.nx] at this; exact this
      | miterNil a b c h => exact .miterNil a b c h
      | miter m r since seen st hro hbm =>
        refine .miter m r since seen st hro ?_
        cases g3 with
        | miter _ r2 _ _ _ _ hbr =>
          have hmlt : m < h.next := by have := hbr.1.1; rw [hr.nx] at this; exact this
          exact ⟨⟨hmlt, by rw [show μ2.f m = μ2 m from rfl, k2 m hmlt]; exact hbm.1.2⟩, fun r' ro' sz' e => hbm.2 r' ro' sz' (by rw [← k2 m hmlt]; exact e)⟩
end Go.Ev
end
