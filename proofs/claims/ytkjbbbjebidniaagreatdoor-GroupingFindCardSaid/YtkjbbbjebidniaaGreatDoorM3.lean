/- The soundness of the reckoner: regions (in order, and drawn), code, calls. -/
import Derived.Test.YtkjbbbjebidniaaGreatDoorM2
/- A run of closed code reckoned over a heap of its own: regions; what is known of a region whose order is drawn. -/

namespace Go.Proofs.YtkjbbbjebidniaaGreatDoor
open Go
set_option linter.unusedSimpArgs false
set_option linter.unusedVariables false

theorem cnt_set : ∀ (L : List Bool) (i : Nat), L[i]? = some false → (L.set i true).count false + 1 = L.count false
  | [], i, h => by simp at h
  | b :: L, 0, h => by
    simp at h
    subst h
    simp [List.count_cons]
  | b :: L, i + 1, h => by
    have h2 : L[i]? = some false := by simpa using h
    have := cnt_set L i h2
    simp only [List.set_cons_succ, List.count_cons]
    omega
theorem getD_some {L : Array Bool} {i : Nat} (h : L.getD i true = false) : L.toList[i]? = some false := by
  rw [Array.getElem?_toList]
  cases he : L[i]? with
  | none => rw [Array.getD_eq_getD_getElem?, he] at h; simp at h
  | some b => rw [Array.getD_eq_getD_getElem?, he] at h; simp at h; rw [h]

section
variable {P : Program} {ops : Array Oper} {Q : Exit → Act → World → Prop} {md : Region.Mode}
theorem wpAny_free (R : Array Bool → Act → World → Prop)
    (step : ∀ L a w i, L.size = ops.size → R L a w → i ∈ Region.ready md ops L → wpOp P ops Q i (fun a' w' => R (L.setIfInBounds i true) a' w') a w)
    (fin : ∀ L a w, L.size = ops.size → R L a w → Region.ready md ops L = [] → Q .normal a w) :
    ∀ (fuel : Nat) (L : Array Bool) (a : Act) (w : World), L.size = ops.size → L.toList.count false ≤ fuel → R L a w → wpAny P md ops Q fuel L a w
  | 0, L, a, w, hs, hc, hR => by
    have hr : Region.ready md ops L = [] := by
      cases hl : Region.ready md ops L with
      | nil => rfl
      | cons i r =>
        have hi : i ∈ Region.ready md ops L := by rw [hl]; simp
        have := cnt_set L.toList i (getD_some (mem_ready.1 hi).1)
        omega
    exact ⟨hr, fin L a w hs hR hr⟩
  | fuel + 1, L, a, w, hs, hc, hR => ⟨fun hr => fin L a w hs hR hr, fun i hi => wpOp_mono (fun a' w' h' => wpAny_free R step fin fuel _ a' w' (by simpa using hs) (by
      have := cnt_set L.toList i (getD_some (mem_ready.1 hi).1)
      rw [Array.toList_setIfInBounds]
      omega) h') (step L a w i hs hR hi)⟩
theorem wp_region_free (R : Array Bool → Act → World → Prop) {id : Nat} {a : Act} {w : World} (hm : P.follows .mixedOrders = true) (h0 : R (Array.replicate ops.size false) a w.drew)
    (step : ∀ L a w i, L.size = ops.size → R L a w → i ∈ Region.ready .any ops L → wpOp P ops Q i (fun a' w' => R (L.setIfInBounds i true) a' w') a w)
    (fin : ∀ L a w, L.size = ops.size → R L a w → Region.ready .any ops L = [] → Q .normal a w) : (Code.region id ops true).wp P Q a w :=
  wp_region_any hm (wpAny_free R step fin ops.size _ a _ (by simp) (by
    rw [Array.toList_replicate]
    exact Nat.le_trans List.count_le_length (by simp)) h0)
theorem ready_of {k : Nat} {o : Oper} {L : Array Bool} (hr : Region.ready md ops L = []) (hs : L.size = ops.size) (ho : ops[k]? = some o) (hd : ∀ e ∈ o.after, Region.binds md e = true → L.getD e.on false = true) : L.getD k false = true := by
  by_cases h : L.getD k true = false
  · have hm : k ∈ Region.ready md ops L := mem_ready.2 ⟨h, o, ho, hd⟩
    rw [hr] at hm
    cases hm
  · have hk : k < L.size := by rw [hs]; exact (Array.getElem?_eq_some_iff.1 ho).1
    rw [Array.getD_eq_getD_getElem?, Array.getElem?_eq_getElem hk] at h ⊢
    simpa using h
end

/-- k comes up ahead of j. -/
inductive Bef (ops : Array Oper) : Nat → Nat → Prop
  | direct {j : Nat} {o : Oper} {e : Edge} (ho : ops[j]? = some o) (he : e ∈ o.after) (hb : Region.binds .any e = true) : Bef ops e.on j
  | step {k j : Nat} {o : Oper} {e : Edge} (ho : ops[j]? = some o) (he : e ∈ o.after) (hb : Region.binds .any e = true) (h : Bef ops k e.on) : Bef ops k j

theorem predsGo_bef (ops : Array Oper) : ∀ (rest : List Oper) (acc : List (List Nat)), (∀ i, rest[i]? = ops[acc.length + i]?) → (∀ j, ∀ k ∈ acc.getD j [], Bef ops k j) → ∀ j, ∀ k ∈ (predsGo rest acc).getD j [], Bef ops k j
  | [], acc, _, h => h
  | o :: rest, acc, hr, h => by
    simp only [predsGo]
    refine predsGo_bef ops rest _ (fun i => ?_) ?_
    · have := hr (i + 1)
      simp only [List.getElem?_cons_succ] at this
      rw [this]; congr 1; simp; omega
    · intro j k hk
      have ho : ops[acc.length]? = some o := by have := hr 0; simpa using this.symm
      rcases Nat.lt_trichotomy j acc.length with hj | hj | hj
      · rw [List.getD_eq_getElem?_getD, List.getElem?_append_left hj, ← List.getD_eq_getElem?_getD] at hk
        exact h j k hk
      · subst hj
        rw [List.getD_eq_getElem?_getD, List.getElem?_append_right (Nat.le_refl _)] at hk
        simp only [Nat.sub_self, List.getElem?_cons_zero, Option.getD_some, List.mem_flatMap, List.mem_filter] at hk
        obtain ⟨e, ⟨he, hb⟩, hk⟩ := hk
        have he : e ∈ o.after := by simpa using he
        rcases List.mem_cons.1 hk with rfl | hk
        · exact .direct ho he hb
        · exact .step ho he hb (h _ _ hk)
      · rw [List.getD_eq_getElem?_getD, List.getElem?_eq_none (by simp; omega)] at hk
        simp at hk

theorem preds_bef {ops : Array Oper} {j k : Nat} (h : k ∈ (predsOf ops).getD j []) : Bef ops k j :=
  predsGo_bef ops ops.toList [] (fun i => by simp) (fun j k hk => by simp at hk) j k h

theorem allIdx_spec {n : Nat} {f : Nat → Bool} (h : allIdx n f = true) : ∀ i, i < n → f i = true := fun i hi => List.all_eq_true.1 h i (List.mem_range.2 hi)

/-- What 'okDraw' says. -/
structure Drawn (ops : Array Oper) : Prop where
  deps : ∀ (j : Nat) (o : Oper) (e : Edge), ops[j]? = some o → e ∈ o.after → Region.binds .any e = true → e.on < j
  dst : ∀ (j : Nat) (o : Oper) (k : Nat) (d : Tmp), ops[j]? = some o → k ≠ j → (ops[k]?).bind (·.dst) = some d → o.dst ≠ some d
  looks : ∀ (j : Nat) (o : Oper) (k : Nat) (d : Tmp), ops[j]? = some o → k ≠ j → (ops[k]?).bind (·.dst) = some d → d ∈ o.looksAt ops → Bef ops k j ∨ Bef ops j k

theorem okDraw_spec {ops : Array Oper} (h : okDraw ops = true) : Drawn ops := by
  unfold okDraw at h
  have main : ∀ j o, ops[j]? = some o → (o.after.toList.all (fun e => !Region.binds .any e || Nat.ble (e.on + 1) j) = true) ∧
      ∀ k, k < ops.size → (Nat.beq k j || (match (ops[k]?).bind (·.dst) with
        | none => true
        | some d => !(o.dst == some d) && (!(o.looksAt ops).contains d || ((predsOf ops).getD j []).contains k || ((predsOf ops).getD k []).contains j))) = true := by
    intro j o ho
    have hj := allIdx_spec h j (Array.getElem?_eq_some_iff.1 ho).1
    simp only [ho, Bool.and_eq_true] at hj
    exact ⟨hj.1, allIdx_spec hj.2⟩
  refine ⟨fun j o e ho he hb => ?_, fun j o k d ho hk hd => ?_, fun j o k d ho hk hd hl => ?_⟩
  · have := List.all_eq_true.1 (main j o ho).1 e (by simpa using he)
    rw [hb] at this
    exact Nat.lt_of_succ_le (by simpa using this)
  · have hlt : k < ops.size := by
      cases hq : ops[k]? with
      | none => rw [hq] at hd; simp at hd
      | some o2 => exact (Array.getElem?_eq_some_iff.1 hq).1
    have := (main j o ho).2 k hlt
    have hkj : Nat.beq k j = false := by rw [Bool.eq_false_iff]; intro e; exact hk (Nat.eq_of_beq_eq_true e)
    rw [hkj, hd] at this
    simp only [Bool.false_or, Bool.and_eq_true] at this
    intro e
    have h1 := this.1
    rw [e] at h1
    simp at h1
  · have hlt : k < ops.size := by
      cases hq : ops[k]? with
      | none => rw [hq] at hd; simp at hd
      | some o2 => exact (Array.getElem?_eq_some_iff.1 hq).1
    have := (main j o ho).2 k hlt
    have hkj : Nat.beq k j = false := by rw [Bool.eq_false_iff]; intro e; exact hk (Nat.eq_of_beq_eq_true e)
    rw [hkj, hd] at this
    simp only [Bool.false_or, Bool.and_eq_true] at this
    have h2 := this.2
    have hc : (o.looksAt ops).contains d = true := by simpa using hl
    rw [hc] at h2
    simp only [Bool.not_true, Bool.false_or, Bool.or_eq_true] at h2
    rcases h2 with h2 | h2
    · exact .inl (preds_bef (by simpa using h2))
    · exact .inr (preds_bef (by simpa using h2))

theorem solo_spec {ops : Array Oper} {i : Nat} (h : solo ops i = true) : ∀ k o, ops[k]? = some o → k ≠ i → memless o.op = false → Bef ops k i ∨ Bef ops i k := by
  intro k o ho hk hm
  have := allIdx_spec h k (Array.getElem?_eq_some_iff.1 ho).1
  have hki : Nat.beq k i = false := by rw [Bool.eq_false_iff]; intro e; exact hk (Nat.eq_of_beq_eq_true e)
  simp only [hki, Bool.false_or, ho, Option.map_some, Option.getD_some, hm, Bool.or_false, Bool.or_eq_true] at this
  rcases this with h2 | h2
  · exact .inl (preds_bef (by simpa using h2))
  · exact .inr (preds_bef (by simpa using h2))

theorem Bef.lt {ops : Array Oper} (D : Drawn ops) {k j : Nat} (h : Bef ops k j) : k < j := by
  induction h with
  | direct ho he hb => exact D.deps _ _ _ ho he hb
  | step ho he hb _ ih => have := D.deps _ _ _ ho he hb; omega

/-- Whoever comes ahead of one whose waits are over has come up. -/
theorem Bef.listed {ops : Array Oper} {L : Array Bool} (hcl : ∀ j o, L.getD j false = true → ops[j]? = some o → ∀ e ∈ o.after, Region.binds .any e = true → L.getD e.on false = true)
    {k j : Nat} (h : Bef ops k j) : (∀ o, ops[j]? = some o → ∀ e ∈ o.after, Region.binds .any e = true → L.getD e.on false = true) → L.getD k false = true := by
  induction h with
  | direct ho he hb => intro hd; exact hd _ ho _ he hb
  | step ho he hb _ ih => intro hd; exact ih fun o2 ho2 => hcl _ o2 (hd _ ho _ he hb) ho2

/-- What is known of a region's operations. -/
def OpsOk (gs : List Nat) (n : Nat) (ops : Array Oper) : Prop := n ≤ 1000000 ∧ ∀ (i : Nat) (o : Oper), ops[i]? = some o → opOk gs n o = true

theorem OpsOk.known {gs : List Nat} {n : Nat} {ops : Array Oper} (h : OpsOk gs n ops) {i : Nat} {o : Oper} (ho : ops[i]? = some o) : ∀ x ∈ o.op.operands, AS.known gs x = true := by
  have := h.2 i o ho
  simp only [opOk, Bool.and_eq_true] at this
  exact Array.all_eq_true_iff_forall_mem.1 this.1

theorem OpsOk.dst {gs : List Nat} {n : Nat} {ops : Array Oper} (h : OpsOk gs n ops) {i : Nat} {o : Oper} (ho : ops[i]? = some o) : ∀ t, o.dst = some t → t < n := by
  have := h.2 i o ho
  simp only [opOk, Bool.and_eq_true] at this
  intro t ht
  have h2 := this.2
  rw [ht] at h2
  exact Nat.lt_of_succ_le (Nat.le_of_ble_eq_true h2)

structure AR (ρ : Rho) (n : Nat) (s : AS) (a : Act) : Prop where
  tmps : ∀ t, VR ρ ((s.tmps.get t).getD undef) (a.tmps.getD t undef)
  size : a.tmps.size = n
  defers : a.defers = []

theorem AR.mono {ρ ρ' : Rho} {n : Nat} {s : AS} {a : Act} (h : Le ρ ρ') (k : AR ρ n s a) : AR ρ' n s a := ⟨fun t => (k.tmps t).mono h, k.size, k.defers⟩

theorem put_spec {s s' : AS} {d : Option Tmp} {v : Value} (h : AS.put s d v = .ok s') {n : Nat} (hn : n ≤ 1000000) (hd : ∀ t, d = some t → t < n) :
    s'.w = s.w ∧ ∀ t, (s'.tmps.get t).getD undef = if d = some t then v else (s.tmps.get t).getD undef := by
  unfold AS.put at h
  split at h
  · simp only [Except.ok.injEq] at h; subst h; exact ⟨rfl, fun t => by simp⟩
  · rename_i t0
    have h0 : t0 < n := hd t0 rfl
    have hg := fun j => Tb.get_set 32 s.tmps t0 v j (Nat.lt_of_le_of_lt (Nat.succ_le_of_lt h0) (Nat.lt_of_le_of_lt hn (by decide)))
    dsimp only at h
    split at h
    · simp only [Except.ok.injEq] at h; subst h
      refine ⟨rfl, fun t => ?_⟩
      rw [hg]
      by_cases e : t = t0
      · subst e; simp
      · have : ¬ (some t0 = some t) := fun h => e (by cases h; rfl)
        rw [if_neg e, if_neg this]
    · simp at h

theorem act_put_get (a : Act) (d : Option Tmp) (v : Value) (t : Nat) (hlt : ∀ t, d = some t → t < a.tmps.size) : (a.put d v).tmps.getD t undef = if d = some t then v else a.tmps.getD t undef := by
  cases d with
  | none => simp [Act.put]
  | some t0 =>
    have := hlt t0 rfl
    simp only [Act.put, Array.getD_eq_getD_getElem?, Array.getElem?_setIfInBounds, Option.some.injEq]
    by_cases e : t0 = t
    · subst e; simp [this]
    · simp [e]

theorem act_put_size (a : Act) (d : Option Tmp) (v : Value) : (a.put d v).tmps.size = a.tmps.size := by cases d <;> simp [Act.put]
theorem act_put_defers (a : Act) (d : Option Tmp) (v : Value) : (a.put d v).defers = a.defers := by cases d <;> rfl

theorem AR.put {ρ : Rho} {n : Nat} {s s' : AS} {a : Act} {d : Option Tmp} {v v' : Value} (k : AR ρ n s a) (hn : n ≤ 1000000) (hd : ∀ t, d = some t → t < n) (h : AS.put s d v = .ok s') (hv : VR ρ v v') : AR ρ n s' (a.put d v') := by
  obtain ⟨h1, h3⟩ := put_spec h hn hd
  refine ⟨fun t => ?_, by rw [act_put_size]; exact k.size, by rw [act_put_defers]; exact k.defers⟩
  rw [h3, act_put_get a d v' t (fun t ht => by rw [k.size]; exact hd t ht)]
  split
  · exact hv
  · exact k.tmps t

theorem AR.reads {ρ : Rho} {gs : List Nat} {n : Nat} {s : AS} {a : Act} (k : AR ρ n s a) (hglob : ∀ g ∈ gs, ρ g = some ⟨g, none⟩) {o : Oper} (hk : ∀ x ∈ o.op.operands, AS.known gs x = true) : ∀ x ∈ o.op.operands, VR ρ (s.eval x) (a.eval x) :=
  fun x hx => eval_ok hglob (hk x hx) fun t _ => k.tmps t

theorem AR.wanted {ρ : Rho} {n : Nat} {ops : Array Oper} {s : AS} {a : Act} (k : AR ρ n s a) (o : Oper) : Region.wanted o (yieldedA ops s) = Region.wanted o (yielded ops a.tmps) :=
  wanted_eq fun j b _ => yielded_eq fun t _ => k.tmps t

section
variable {P : Program}

/-- One operation in its turn. -/
theorem stepA_ok {gs : List Nat} {n : Nat} {call : CallA} (hng : NoCount P) (hcall : CallOk gs P call) {ops : Array Oper} (hops : OpsOk gs n ops) {i : Nat} {o : Oper} (ho : ops[i]? = some o) {ρ : Rho} {s s' : AS} {a : Act} {w : World} (S : Sat P ρ s.w w)
    (A : AR ρ n s a) (hglob : ∀ g ∈ gs, ρ g = some ⟨g, none⟩) (h : stepA P call ops o s = .ok s') {Q : Exit → Act → World → Prop} {K : Act → World → Prop}
    (hK : ∀ ρ' a' w', AR ρ' n s' a' → Sat P ρ' s'.w w' → Mv ρ ρ' s.w s'.w w w' → K a' w') : wpOp P ops Q i K a w := by
  unfold stepA at h
  split at h
  · rename_i v wa hres
    have hput := put_spec h hops.1 (hops.dst ho)
    refine resA_ok hng hcall ho S hglob (A.reads hglob (hops.known ho)) (A.wanted o) hres fun ρ' v' w' hv hs hm => ?_
    have A' : AR ρ' n { s with w := wa } a := ⟨fun t => (A.tmps t).mono hm.ext, A.size, A.defers⟩
    refine hK ρ' _ w' (A'.put hops.1 (hops.dst ho) h hv) ?_ ?_
    · rw [hput.1]; exact hs
    · rw [hput.1]; exact hm
  · simp at h

/-- A region whose order is fixed. -/
theorem opsA_ok {gs : List Nat} {n : Nat} {call : CallA} (hng : NoCount P) (hcall : CallOk gs P call) {ops : Array Oper} (hops : OpsOk gs n ops) {Q : Exit → Act → World → Prop} : ∀ (rest : List Oper) (i : Nat) {ρ : Rho} {s s' : AS} {a : Act} {w : World},
    (∀ j, rest[j]? = ops[i + j]?) → Sat P ρ s.w w → AR ρ n s a → (∀ g ∈ gs, ρ g = some ⟨g, none⟩) → opsA P call ops false i rest s = .ok s' →
    (∀ ρ' a' w', AR ρ' n s' a' → Sat P ρ' s'.w w' → Mv ρ ρ' s.w s'.w w w' → Q .normal a' w') → wpOps P ops Q (List.range' i rest.length) a w
  | [], i, ρ, s, s', a, w, hr, S, A, hg, h, hQ => by
    simp only [opsA, Except.ok.injEq] at h; subst h
    simp only [List.length_nil, List.range'_zero, wpOps]
    exact hQ ρ a w A S (Mv.refl _ _ _)
  | o :: rest, i, ρ, s, s', a, w, hr, S, A, hg, h, hQ => by
    have ho : ops[i]? = some o := by have := hr 0; simpa using this.symm
    simp only [opsA, cond_false] at h
    simp only [List.length_cons, List.range'_succ, wpOps_cons]
    split at h
    · simp at h
    · rename_i s1 hs1
      refine stepA_ok hng hcall hops ho S A hg hs1 fun ρ' a' w' A' S' M' => ?_
      refine opsA_ok hng hcall hops rest (i + 1) (fun j => ?_) S' A' (fun g hgg => M'.ext _ _ (hg g hgg)) h fun ρ2 a2 w2 A2 S2 M2 => hQ ρ2 a2 w2 A2 S2 (M'.trans S M2)
      have := hr (j + 1)
      simp only [List.getElem?_cons_succ] at this
      rw [this]; congr 1; omega
end

end Go.Proofs.YtkjbbbjebidniaaGreatDoor
/- A run of closed code reckoned over a heap of its own: the reckoned steps of a region whose order is drawn. -/

namespace Go.Proofs.YtkjbbbjebidniaaGreatDoor
open Go
set_option linter.unusedSimpArgs false
set_option linter.unusedVariables false

structure Trace (P : Program) (call : CallA) (ops : Array Oper) (st : Nat → AS) (val : Nat → Value) (ww : Nat → AW) (i : Nat) : Prop where
  step : ∀ k o, i ≤ k → ops[k]? = some o → resA P call ops o (st k).reset = .ok (val k, ww k) ∧
    (∃ s1, AS.put { (st k).reset with w := ww k } o.dst (val k) = .ok s1 ∧ st (k + 1) = s1.lower (st k).w.low) ∧ ((st k).w.size ≤ (ww k).low ∨ solo ops k = true)

theorem put_w {s s' : AS} {d : Option Tmp} {v : Value} (h : AS.put s d v = .ok s') : s'.w = s.w := by
  unfold AS.put at h
  split at h
  · simp only [Except.ok.injEq] at h; subst h; rfl
  · dsimp only at h
    split at h
    · simp only [Except.ok.injEq] at h; subst h; rfl
    · simp at h

theorem trace_of {P : Program} {call : CallA} {ops : Array Oper} : ∀ (rest : List Oper) (i : Nat) {s s' : AS}, (∀ j, rest[j]? = ops[i + j]?) → opsA P call ops true i rest s = .ok s' →
    ∃ st val ww, Trace P call ops st val ww i ∧ st i = s ∧ st (i + rest.length) = s'
  | [], i, s, s', hr, h => by
    simp only [opsA, Except.ok.injEq] at h; subst h
    refine ⟨fun _ => s, fun _ => undef, fun _ => s.w, ⟨fun k o hk ho => ?_⟩, rfl, rfl⟩
    have := hr (k - i)
    rw [show i + (k - i) = k by omega, ho] at this
    simp at this
  | o :: rest, i, s, s', hr, h => by
    have ho : ops[i]? = some o := by have := hr 0; simpa using this.symm
    simp only [opsA, cond_true] at h
    split at h
    · simp at h
    rename_i s1 hs1
    cases hc : (Nat.ble s.w.size s1.w.low || solo ops i) with
    | false => rw [hc] at h; simp at h
    | true =>
      rw [hc] at h; simp only [cond_true] at h
      obtain ⟨st, val, ww, T, t1, t2⟩ := trace_of rest (i + 1) (fun j => by
        have := hr (j + 1)
        simp only [List.getElem?_cons_succ] at this
        rw [this]; congr 1; omega) h
      unfold stepA at hs1
      split at hs1
      case h_2 => simp at hs1
      rename_i v wa hres
      refine ⟨fun k => if k = i then s else st k, fun k => if k = i then v else val k, fun k => if k = i then wa else ww k, ⟨fun k o2 hk ho2 => ?_⟩, by simp, ?_⟩
      · by_cases e : k = i
        · subst e
          rw [ho] at ho2; cases ho2
          simp only [if_true]
          refine ⟨hres, ⟨s1, hs1, ?_⟩, ?_⟩
          · rw [if_neg (by omega)]; exact t1
          · rw [Bool.or_eq_true] at hc
            have hw := put_w hs1
            rcases hc with hc | hc
            · left; have := Nat.le_of_ble_eq_true hc; rw [hw] at this; exact this
            · exact .inr hc
        · have := T.step k o2 (by omega) ho2
          simp only [if_neg e, if_neg (show ¬ k + 1 = i by omega)]
          exact this
      · show (if i + (o :: rest).length = i then s else st (i + (o :: rest).length)) = s'
        rw [if_neg (by simp), ← t2]; congr 1; simp; omega

section
variable {P : Program}

theorem Sat.low {ρ : Rho} {wa wb : AW} {w : World} (S : Sat P ρ wa w) (h1 : wb.heap = wa.heap) (h2 : wb.size = wa.size) : Sat P ρ wb w :=
  ⟨fun i img h => by rw [h2]; exact S.dom i img h, fun i img h => by rw [h1]; exact S.obj i img h, fun i j im jm a b c l1 l2 nr => S.inj i j im jm a b c (by rw [← h1]; exact l1) (by rw [← h1]; exact l2) (fun ⟨c, e, h⟩ => nr ⟨c, e, by rw [h1]; exact h⟩)⟩

theorem Mv.relow {ρ ρ' : Rho} {wa wa' wb wb' : AW} {w w' : World} (h : Mv ρ ρ' wa wa' w w') (h1 : wb.heap = wa.heap) (h2 : wb.size = wa.size) (h3 : wb'.heap = wa'.heap) (h4 : wb'.size = wa'.size)
    (l1 : wb'.low ≤ wb.low) (l2 : wb'.low ≤ wa'.low) : Mv ρ ρ' wb wb' w w' where
  ext := h.ext
  new := fun i img a b => by
    obtain ⟨c, d⟩ := h.new i img a b
    refine ⟨by rw [h2]; exact c, d.imp id ?_⟩
    rintro ⟨j, jm, q1, q2, q3, q4, q5⟩
    exact ⟨j, jm, q1, q2, by rw [h1]; exact q3, fun ⟨x, y, z⟩ => q4 ⟨x, y, by rw [← h1]; exact z⟩, Nat.le_trans l2 q5⟩
  full := fun i a b => h.full i (by omega) (by omega)
  size := by rw [h2, h4]; exact h.size
  wsize := h.wsize
  low := l1
  same := fun i a b => by rw [h1, h3]; exact h.same i (by omega) (by omega)
  ro := fun i c e a b => by rw [h3]; rw [h1] at b; exact h.ro i c e (by omega) b
  dead := fun i a b => by rw [h3]; rw [h1] at b; exact h.dead i (by omega) b
  frame := fun b hb hall => h.frame b hb fun i img a c d => by
    rcases hall i img a c (by rw [h1]; exact d) with ⟨x, y, z⟩ | hl
    · exact .inl ⟨x, y, by rw [← h1]; exact z⟩
    · exact .inr (by omega)
  os := h.os
  tape := h.tape
  output := h.output

theorem wpOp_exists {ops : Array Oper} {i : Nat} {K : Act → World → Prop} {a : Act} {w : World} (h : wpOp P ops (fun _ _ _ => False) i K a w) : ∃ a' w', K a' w' := by
  unfold wpOp at h
  split at h
  · exact ⟨_, _, h⟩
  · split at h
    · rcases h with h | ⟨_, _, _, h⟩
      · unfold Oper.wp at h
        generalize (execOp a.eval _).run P w = r at h
        cases r with
        | ok n w' =>
          cases n <;> simp only [Oper.upon] at h
          case value v => exact ⟨_, _, h⟩
          case skip => exact ⟨_, _, h⟩
          case defer d => exact ⟨_, _, h⟩
          case enter f args =>
            obtain ⟨e, w2, fr, hR, _⟩ := h []
            cases e with
            | returned v => exact ⟨_, _, hR⟩
            | panicked c => exact hR.elim
            | outgrown => obtain ⟨_, _, hf⟩ := hR; exact hf.elim
          case row row args =>
            obtain ⟨v, w2, hR, _⟩ := h default []
            exact ⟨_, _, hR⟩
        | halt x w' => cases x <;> simp only [Oper.upon] at h
      · exact h.elim
    · exact ⟨_, _, h⟩

/-- What a reckoned step does to the reckoned heap. -/
structure SF (st : Nat → AS) (ww : Nat → AW) (k : Nat) : Prop where
  size : (st k).w.size ≤ (st (k + 1)).w.size
  same : (st k).w.size ≤ (ww k).low → ∀ i, i < (st k).w.size → (st (k + 1)).w.heap.get i = (st k).w.heap.get i
  low1 : (st (k + 1)).w.low ≤ (st k).w.low
  low2 : (st (k + 1)).w.low ≤ (ww k).low
  heap : (st (k + 1)).w.heap = (ww k).heap
  wsize : (st (k + 1)).w.size = (ww k).size

theorem canon {gs : List Nat} {n : Nat} {call : CallA} (hng : NoCount P) (hcall : CallOk gs P call) {ops : Array Oper} (hops : OpsOk gs n ops) {st : Nat → AS} {val : Nat → Value} {ww : Nat → AW} (T : Trace P call ops st val ww 0)
    {ρ0 : Rho} {a0 : Act} {w0 : World} (S : Sat P ρ0 (st 0).w w0) (A : AR ρ0 n (st 0) a0) (hglob : ∀ g ∈ gs, ρ0 g = some ⟨g, none⟩) :
    ∀ k, k ≤ ops.size → (∃ ρ a w, AR ρ n (st k) a ∧ Sat P ρ (st k).w w ∧ Mv ρ0 ρ (st 0).w (st k).w w0 w) ∧ ∀ j, j < k → SF st ww j
  | 0, _ => ⟨⟨ρ0, a0, w0, A, S, Mv.refl _ _ _⟩, fun j hj => by omega⟩
  | k + 1, hk => by
    obtain ⟨⟨ρ, a, w, A1, S1, M1⟩, F⟩ := canon hng hcall hops T S A hglob k (by omega)
    have ho : ops[k]? = some ops[k] := by simp
    obtain ⟨hres, ⟨s1, hput, hst⟩, _⟩ := T.step k _ (Nat.zero_le _) ho
    have hp := put_w hput
    have A2 : AR ρ n (st k).reset a := ⟨A1.tmps, A1.size, A1.defers⟩
    have S2 : Sat P ρ (st k).reset.w w := S1.low rfl rfl
    have hg1 : ∀ g ∈ gs, ρ g = some ⟨g, none⟩ := fun g hg => M1.ext _ _ (hglob g hg)
    have hw : (st (k + 1)).w.heap = (ww k).heap ∧ (st (k + 1)).w.size = (ww k).size ∧ (st (k + 1)).w.low ≤ (st k).w.low ∧ (st (k + 1)).w.low ≤ (ww k).low := by
      rw [hst]
      refine ⟨by rw [show (s1.lower (st k).w.low).w.heap = s1.w.heap from rfl, hp], by rw [show (s1.lower (st k).w.low).w.size = s1.w.size from rfl, hp], ?_⟩
      have e : (s1.lower (st k).w.low).w.low = (bif Nat.ble (st k).w.low s1.w.low then (st k).w.low else s1.w.low) := rfl
      rw [e, hp]
      show (bif Nat.ble (st k).w.low (ww k).low then (st k).w.low else (ww k).low) ≤ (st k).w.low ∧ (bif Nat.ble (st k).w.low (ww k).low then (st k).w.low else (ww k).low) ≤ (ww k).low
      cases hb : Nat.ble (st k).w.low (ww k).low with
      | true => have := Nat.le_of_ble_eq_true hb; simp only [cond_true]; omega
      | false =>
        have : ¬ (st k).w.low ≤ (ww k).low := fun hh => by rw [Nat.ble_eq_true_of_le hh] at hb; cases hb
        simp only [cond_false]; omega
    have hex := wpOp_exists (P := P) (K := fun a' w' => ∃ ρ', AR ρ' n (st (k + 1)) a' ∧ Sat P ρ' (st (k + 1)).w w' ∧ Mv ρ ρ' (st k).reset.w (ww k) w w')
      (resA_ok hng hcall ho S2 hg1 (A2.reads hg1 (hops.known ho)) (A2.wanted _) hres fun ρ' v' w' hv hs hm => by
        have A' : AR ρ' n { (st k).reset with w := ww k } a := ⟨fun t => (A2.tmps t).mono hm.ext, A2.size, A2.defers⟩
        have A3 := A'.put hops.1 (hops.dst ho) hput hv
        refine ⟨ρ', ?_, hs.low hw.1 hw.2.1, hm⟩
        rw [hst]
        exact ⟨A3.tmps, A3.size, A3.defers⟩)
    obtain ⟨a', w', ρ', A3, S3, M3⟩ := hex
    have M4 : Mv ρ ρ' (st k).w (st (k + 1)).w w w' := M3.relow rfl rfl hw.1 hw.2.1 hw.2.2.1 hw.2.2.2
    refine ⟨⟨ρ', a', w', A3, S3, M1.trans S M4⟩, fun j hj => ?_⟩
    by_cases e : j = k
    · subst e
      exact ⟨M4.size, fun hl i hi => by rw [hw.1]; exact M3.same i hi (Nat.lt_of_lt_of_le hi hl), hw.2.2.1, hw.2.2.2, hw.1, hw.2.1⟩
    · exact F j (by omega)

/-- Names below a bound. -/
def Rho.cut (ρ : Rho) (n : Nat) : Rho := fun i => if i < n then ρ i else none

theorem Rho.cut_le (ρ : Rho) (n : Nat) : Le (ρ.cut n) ρ := fun i img h => by unfold Rho.cut at h; split at h; exact h; cases h
theorem Rho.cut_lt {ρ : Rho} {n i : Nat} (h : i < n) : ρ.cut n i = ρ i := by simp [Rho.cut, h]

mutual
theorem VR.cut {ρ ρc : Rho} {n : Nat} (hN : ∀ i img, ρc i = some img → i < n) : ∀ {a b c : Value}, VR ρ a b → VR ρc a c → VR (ρ.cut n) a b
  | _, _, _, .bool b, _ => .bool b
  | _, _, _, .int k m, _ => .int k m
  | _, _, _, .string s, _ => .string s
  | _, _, _, .nilptr, _ => .nilptr
  | _, _, _, .ptr e, .ptr e' => .ptr (by rw [Rho.cut_lt (hN _ _ e')]; exact e)
  | _, _, _, .nilslice l c, _ => .nilslice l c
  | _, _, _, .slice e hc, .slice e' _ => .slice (by rw [Rho.cut_lt (hN _ _ e')]; exact e) hc
  | _, _, _, .slice e hc, .slice0 e' _ _ => .slice (by rw [Rho.cut_lt (hN _ _ e')]; exact e) hc
  | _, _, _, .slice0 e hm hc, .slice e' _ => .slice0 (by rw [Rho.cut_lt (hN _ _ e')]; exact e) hm hc
  | _, _, _, .slice0 e hm hc, .slice0 e' _ _ => .slice0 (by rw [Rho.cut_lt (hN _ _ e')]; exact e) hm hc
  | _, _, _, .slice e hc, .wild e' _ => .slice (by rw [Rho.cut_lt (hN _ _ e')]; exact e) hc
  | _, _, _, .slice0 e hm hc, .wild e' _ => .slice0 (by rw [Rho.cut_lt (hN _ _ e')]; exact e) hm hc
  | _, _, _, .wild e a, .slice e' _ => .wild (by rw [Rho.cut_lt (hN _ _ e')]; exact e) a
  | _, _, _, .wild e a, .slice0 e' _ _ => .wild (by rw [Rho.cut_lt (hN _ _ e')]; exact e) a
  | _, _, _, .wild e a, .wild e' _ => .wild (by rw [Rho.cut_lt (hN _ _ e')]; exact e) a
  | _, _, _, .nilmap, _ => .nilmap
  | _, _, _, .map e, .map e' => .map (by rw [Rho.cut_lt (hN _ _ e')]; exact e)
  | _, _, _, .func hx hy, .func hx' hy' => .func (VRs.cut hN hx hx') (VRs.cut hN hy hy')
  | _, _, _, .nilfunc, _ => .nilfunc
  | _, _, _, .niliface, _ => .niliface
  | _, _, _, .agg hx, .agg hx' => .agg (VRs.cut hN hx hx')
  | _, _, _, .tuple hx, .tuple hx' => .tuple (VRs.cut hN hx hx')
  | _, _, _, .poison v hv, _ => .poison v hv
theorem VRs.cut {ρ ρc : Rho} {n : Nat} (hN : ∀ i img, ρc i = some img → i < n) : ∀ {a b c : List Value}, VRs ρ a b → VRs ρc a c → VRs (ρ.cut n) a b
  | _, _, _, .nil, _ => .nil
  | _, _, _, .cons hx hs, .cons hx' hs' => .cons (VR.cut hN hx hx') (VRs.cut hN hs hs')
end

theorem ERs.cut {ρ ρc : Rho} {n : Nat} (hN : ∀ i img, ρc i = some img → i < n) : ∀ {a b c : List MapEntry}, ERs ρ a b → ERs ρc a c → ERs (ρ.cut n) a b
  | _, _, _, .nil, _ => .nil
  | _, _, _, .cons hk hv hb hs, .cons hk' hv' _ hs' => .cons (hk.cut hN hk') (hv.cut hN hv') hb (ERs.cut hN hs hs')

theorem OR.cut {ρ ρc : Rho} {n : Nat} (hN : ∀ i img, ρc i = some img → i < n) {img imgc : Img} {oa : AObj} {o oc : Obj} (h : OR P ρ img oa o) (hc : OR P ρc imgc oa oc) : OR P (ρ.cut n) img oa o := by
  cases h with
  | row hx hk hm =>
    cases hc with
    | row hx' _ _ => exact .row (hx.cut hN hx') hk hm
    | grown _ _ _ _ => rcases hk with ⟨hk, _⟩ | hk <;> cases hk
  | grown hx hi hm hs =>
    cases hc with
    | row _ hk _ => rcases hk with ⟨hk, _⟩ | hk <;> cases hk
    | grown hx' _ _ _ => exact .grown (hx.cut hN hx') hi hm hs
  | map hx hm =>
    cases hc with
    | map hx' _ => exact .map (hx.cut hN hx') hm

/-- A world that bears later blocks too bears the earlier ones. -/
theorem Sat.cut {ρ ρc : Rho} {wa wc : AW} {w wcw : World} (S : Sat P ρ wa w) (Sc : Sat P ρc wc wcw) (hsz : wc.size ≤ wa.size) (hsame : ∀ i, i < wc.size → wa.heap.get i = wc.heap.get i)
    (hdom : ∀ i img, ρ i = some img → i < wc.size → ∃ imgc, ρc i = some imgc) : Sat P (ρ.cut wc.size) wc w where
  dom := fun i img h => by
    have h2 := Rho.cut_le _ _ i img h
    unfold Rho.cut at h
    split at h
    · exact ⟨by assumption, (S.dom i img h2).2⟩
    · cases h
  obj := fun i img h => by
    have h2 := Rho.cut_le _ _ i img h
    have hlt : i < wc.size := by unfold Rho.cut at h; split at h; assumption; cases h
    obtain ⟨oa, q1, q2⟩ := S.obj i img h2
    refine ⟨oa, by rw [← hsame i hlt]; exact q1, ?_⟩
    rcases q2 with q2 | ⟨o, q2, q3⟩
    · exact .inl q2
    · by_cases hd : oa = .dead
      · exact .inl hd
      · obtain ⟨imgc, hc⟩ := hdom i img h2 hlt
        obtain ⟨oc, c1, c2⟩ := Sc.obj i imgc hc
        rw [← hsame i hlt, q1] at c1; cases c1
        rcases c2 with c2 | ⟨o2, c2, c3⟩
        · exact absurd c2 hd
        · exact .inr ⟨o, q2, q3.cut (fun j jm hj => (Sc.dom j jm hj).1) c3⟩
  inj := fun i j im jm hi hj hb l1 l2 nr => by
    have h1 := Rho.cut_le _ _ i im hi
    have h2 := Rho.cut_le _ _ j jm hj
    have k1 : i < wc.size := by unfold Rho.cut at hi; split at hi; assumption; cases hi
    have k2 : j < wc.size := by unfold Rho.cut at hj; split at hj; assumption; cases hj
    exact S.inj i j im jm h1 h2 hb (by rw [hsame i k1]; exact l1) (by rw [hsame j k2]; exact l2) (fun ⟨c, e, h⟩ => nr ⟨c, e, by rw [← hsame i k1]; exact h⟩)

end

end Go.Proofs.YtkjbbbjebidniaaGreatDoor
/- A run of closed code reckoned over a heap of its own: a region whose order is drawn comes to what its text's order comes to. -/

namespace Go.Proofs.YtkjbbbjebidniaaGreatDoor
open Go
set_option linter.unusedSimpArgs false
set_option linter.unusedVariables false

section
variable {P : Program}

/-- What holds between a region's operations. 'lo', 'hi': the stretch between two operations that write. -/
structure DI (P : Program) (ops : Array Oper) (st : Nat → AS) (val : Nat → Value) (ww : Nat → AW) (ρ0 : Rho) (w0 : World) (n0 : Nat) (L : Array Bool) (lo hi : Nat) (ρ : Rho) (a : Act) (w : World) : Prop where
  closed : ∀ j o, L.getD j false = true → ops[j]? = some o → ∀ e ∈ o.after, Region.binds .any e = true → L.getD e.on false = true
  seg : lo ≤ hi ∧ hi ≤ ops.size
  mono : ∀ k, lo ≤ k → k < hi → (st k).w.size ≤ (ww k).low
  wr : hi < ops.size → ¬ (st hi).w.size ≤ (ww hi).low
  below : ∀ j o, j < lo → ops[j]? = some o → memless o.op = false → L.getD j false = true
  above : ∀ j o, hi ≤ j → ops[j]? = some o → memless o.op = false → L.getD j false = false
  dom : ∀ i img, ρ i = some img → i < (st lo).w.size ∨ ∃ j, lo ≤ j ∧ j < hi ∧ L.getD j false = true ∧ (st j).w.size ≤ i ∧ i < (st (j + 1)).w.size
  dom2 : ∀ j, j < ops.size → L.getD j false = true → ∀ i, (st j).w.size ≤ i → i < (st (j + 1)).w.size → ∃ img, ρ i = some img
  le : Le ρ0 ρ
  sat : Sat P ρ (st hi).w w
  tm1 : ∀ t k o, ops[k]? = some o → o.dst = some t → L.getD k false = true → VR ρ (val k) (a.tmps.getD t undef)
  tm2 : ∀ t, (∀ k o, ops[k]? = some o → o.dst = some t → L.getD k false = false) → VR ρ (((st 0).tmps.get t).getD undef) (a.tmps.getD t undef)
  size : a.tmps.size = n0
  defers : a.defers = []
  mnew : ∀ i img, ρ0 i = none → ρ i = some img → (st 0).w.size ≤ i ∧ (w0.heap.size ≤ img.blk ∨ ∃ j jm, ρ0 j = some jm ∧ jm.blk = img.blk ∧ (st 0).w.heap.get j ≠ some .dead ∧ ¬ Ro (st 0).w j ∧ (st hi).w.low ≤ j)
  mframe : ∀ b, b < w0.heap.size → (∀ i img, ρ0 i = some img → img.blk = b → (st 0).w.heap.get i ≠ some .dead → Ro (st 0).w i ∨ i < (st hi).w.low) → w.heap[b]? = w0.heap[b]?
  wsize : w0.heap.size ≤ w.heap.size
  os : w.os = w0.os
  tape : w.tape = w0.tape
  output : w.output = w0.output

/-- The next operation that writes. -/
theorem next_writer (ops : Array Oper) (st : Nat → AS) (ww : Nat → AW) : ∀ (m lo : Nat), lo + m = ops.size → ∃ hi, lo ≤ hi ∧ hi ≤ ops.size ∧ (∀ k, lo ≤ k → k < hi → (st k).w.size ≤ (ww k).low) ∧ (hi < ops.size → ¬ (st hi).w.size ≤ (ww hi).low)
  | 0, lo, h => ⟨lo, Nat.le_refl _, by omega, fun k h1 h2 => by omega, fun h1 => by omega⟩
  | m + 1, lo, h => by
    by_cases hw : (st lo).w.size ≤ (ww lo).low
    · obtain ⟨hi, h1, h2, h3, h4⟩ := next_writer ops st ww m (lo + 1) (by omega)
      refine ⟨hi, by omega, h2, fun k k1 k2 => ?_, h4⟩
      by_cases e : k = lo
      · subst e; exact hw
      · exact h3 k (by omega) k2
    · exact ⟨lo, Nat.le_refl _, by omega, fun k h1 h2 => by omega, fun _ => hw⟩

theorem size_mono {st : Nat → AS} {ww : Nat → AW} {n : Nat} (F : ∀ j, j < n → SF st ww j) : ∀ (d i : Nat), i + d ≤ n → (st i).w.size ≤ (st (i + d)).w.size
  | 0, i, _ => Nat.le_refl _
  | d + 1, i, h => Nat.le_trans (size_mono F d i (by omega)) (by have := (F (i + d) (by omega)).size; exact this)

theorem size_mono' {st : Nat → AS} {ww : Nat → AW} {n : Nat} (F : ∀ j, j < n → SF st ww j) {i j : Nat} (h : i ≤ j) (hj : j ≤ n) : (st i).w.size ≤ (st j).w.size := by
  have := size_mono F (j - i) i (by omega)
  rwa [show i + (j - i) = j by omega] at this

theorem low_mono {st : Nat → AS} {ww : Nat → AW} {n : Nat} (F : ∀ j, j < n → SF st ww j) : ∀ (d i : Nat), i + d ≤ n → (st (i + d)).w.low ≤ (st i).w.low
  | 0, i, _ => Nat.le_refl _
  | d + 1, i, h => Nat.le_trans (by have := (F (i + d) (by omega)).low1; exact this) (low_mono F d i (by omega))

theorem low_mono' {st : Nat → AS} {ww : Nat → AW} {n : Nat} (F : ∀ j, j < n → SF st ww j) {i j : Nat} (h : i ≤ j) (hj : j ≤ n) : (st j).w.low ≤ (st i).w.low := by
  have := low_mono F (j - i) i (by omega)
  rwa [show i + (j - i) = j by omega] at this

theorem seg_same {st : Nat → AS} {ww : Nat → AW} {n : Nat} (F : ∀ j, j < n → SF st ww j) : ∀ (d i : Nat), i + d ≤ n → (∀ k, i ≤ k → k < i + d → (st k).w.size ≤ (ww k).low) → ∀ x, x < (st i).w.size → (st (i + d)).w.heap.get x = (st i).w.heap.get x
  | 0, i, _, _, x, _ => rfl
  | d + 1, i, h, hm, x, hx => by
    have h1 := seg_same F d i (by omega) (fun k k1 k2 => hm k k1 (by omega)) x hx
    have h2 := (F (i + d) (by omega)).same (hm (i + d) (by omega) (by omega)) x (Nat.lt_of_lt_of_le hx (size_mono F d i (by omega)))
    exact h2.trans h1

theorem seg_same' {st : Nat → AS} {ww : Nat → AW} {n : Nat} (F : ∀ j, j < n → SF st ww j) {i j : Nat} (h : i ≤ j) (hj : j ≤ n) (hm : ∀ k, i ≤ k → k < j → (st k).w.size ≤ (ww k).low) {x : Nat} (hx : x < (st i).w.size) :
    (st j).w.heap.get x = (st i).w.heap.get x := by
  have := seg_same F (j - i) i (by omega) (fun k k1 k2 => hm k k1 (by omega)) x hx
  rwa [show i + (j - i) = j by omega] at this

/-- What the reckoned slots hold before step j. -/
theorem st_tmps {gs : List Nat} {n : Nat} {call : CallA} {ops : Array Oper} {st : Nat → AS} {val : Nat → Value} {ww : Nat → AW} (hops : OpsOk gs n ops) (T : Trace P call ops st val ww 0) (D : Drawn ops) (t : Nat) : ∀ j, j ≤ ops.size →
    (∀ k o, k < j → ops[k]? = some o → o.dst = some t → ((st j).tmps.get t).getD undef = val k) ∧
    ((∀ k o, k < j → ops[k]? = some o → o.dst ≠ some t) → ((st j).tmps.get t).getD undef = ((st 0).tmps.get t).getD undef)
  | 0, _ => ⟨fun k o hk => by omega, fun _ => rfl⟩
  | j + 1, hj => by
    obtain ⟨i1, i2⟩ := st_tmps hops T D t j (by omega)
    have ho : ops[j]? = some ops[j] := by simp
    obtain ⟨_, ⟨s1, hput, hst⟩, _⟩ := T.step j _ (Nat.zero_le _) ho
    obtain ⟨p1, p3⟩ := put_spec hput hops.1 (hops.dst ho)
    have hget : ((st (j + 1)).tmps.get t).getD undef = if ops[j].dst = some t then val j else ((st j).tmps.get t).getD undef := by
      rw [hst]; exact p3 t
    refine ⟨fun k o hk hok hd => ?_, fun hno => ?_⟩
    · rw [hget]
      by_cases e : k = j
      · subst e; rw [ho] at hok; cases hok; rw [if_pos hd]
      · have : ops[j].dst ≠ some t := D.dst j _ k t ho e (by rw [hok]; exact hd)
        rw [if_neg this]; exact i1 k o (by omega) hok hd
    · rw [hget, if_neg (hno j _ (by omega) ho)]
      exact i2 fun k o hk hok => hno k o (by omega) hok

theorem setL {L : Array Bool} {j i : Nat} (hj : j < L.size) : (L.setIfInBounds j true).getD i false = if i = j then true else L.getD i false := by
  simp only [Array.getD_eq_getD_getElem?, Array.getElem?_setIfInBounds]
  by_cases e : j = i
  · subst e; simp [hj]
  · simp [e, Ne.symm e]

end

end Go.Proofs.YtkjbbbjebidniaaGreatDoor
/- A run of closed code reckoned over a heap of its own: one step of a region whose order is drawn. -/

namespace Go.Proofs.YtkjbbbjebidniaaGreatDoor
open Go
set_option linter.unusedSimpArgs false
set_option linter.unusedVariables false

section
variable {P : Program} {gs : List Nat} {call : CallA} {ops : Array Oper} {st : Nat → AS} {val : Nat → Value} {ww : Nat → AW} {ρ0 ρ : Rho} {w0 w : World} {n0 lo hi : Nat} {L : Array Bool} {a : Act}

/-- The slots that an operation looks at hold what they hold in the text's order. -/
theorem DI.looks (hops : OpsOk gs n0 ops) (T : Trace P call ops st val ww 0) (D : Drawn ops) (I : DI P ops st val ww ρ0 w0 n0 L lo hi ρ a w) {j : Nat} {o : Oper} (ho : ops[j]? = some o) (hready : j ∈ Region.ready .any ops L) {t : Tmp} (ht : t ∈ o.looksAt ops) :
    VR ρ (((st j).tmps.get t).getD undef) (a.tmps.getD t undef) := by
  obtain ⟨hnl, o2, ho2, hdeps⟩ := mem_ready.1 hready
  rw [ho] at ho2; cases ho2
  have hjlt := (Array.getElem?_eq_some_iff.1 ho).1
  obtain ⟨c1, c2⟩ := st_tmps hops T D t j (Nat.le_of_lt hjlt)
  have hnlf : L.getD j false = false := by
    simp only [Array.getD_eq_getD_getElem?] at hnl ⊢
    cases hq : L[j]? with
    | none => rfl
    | some b => rw [hq] at hnl; simpa using hnl
  by_cases hown : ∃ (k : Nat) (o' : Oper), ops[k]? = some o' ∧ o'.dst = some t
  · obtain ⟨k, o', hk, hd⟩ := hown
    have uniq : ∀ (k' : Nat) (o'' : Oper), ops[k']? = some o'' → o''.dst = some t → k' = k := fun k' o'' h1 h2 => by
      by_cases e : k' = k
      · exact e
      · exact absurd h2 (D.dst k' o'' k t h1 (Ne.symm e) (by rw [hk]; exact hd))
    by_cases e : k = j
    · subst e
      rw [c2 fun k' o'' hlt h1 h2 => by have := uniq k' o'' h1 h2; omega]
      exact I.tm2 t fun k' o'' h1 h2 => by rw [uniq k' o'' h1 h2]; exact hnlf
    · rcases D.looks j o k t ho e (by rw [hk]; exact hd) ht with hb | hb
      · have hlk := hb.listed I.closed fun o3 ho3 e3 he3 hb3 => by rw [ho] at ho3; cases ho3; exact hdeps e3 he3 hb3
        rw [c1 k o' (hb.lt D) hk hd]
        exact I.tm1 t k o' hk hd hlk
      · have hlk : L.getD k false = false := by
          cases hq : L.getD k false with
          | false => rfl
          | true =>
            have := hb.listed I.closed fun o3 ho3 => I.closed k o3 hq ho3
            rw [hnlf] at this; cases this
        have hjk := hb.lt D
        rw [c2 fun k' o'' hlt h1 h2 => by have := uniq k' o'' h1 h2; omega]
        exact I.tm2 t fun k' o'' h1 h2 => by rw [uniq k' o'' h1 h2]; exact hlk
  · rw [c2 fun k' o'' hlt h1 h2 => hown ⟨k', o'', h1, h2⟩]
    exact I.tm2 t fun k' o'' h1 h2 => absurd ⟨k', o'', h1, h2⟩ hown

theorem looks_op {o : Oper} {t : Tmp} (h : Operand.tmp t ∈ o.op.operands) : t ∈ o.looksAt ops :=
  List.mem_append_left _ (List.mem_filterMap.2 ⟨.tmp t, by simpa using h, rfl⟩)

theorem looks_guard {o : Oper} {g : Nat} {b : Bool} {t : Tmp} (h : o.guard = some (g, b)) (hd : (ops[g]?).bind (·.dst) = some t) : t ∈ o.looksAt ops := by
  refine List.mem_append_right _ ?_
  simp [h, hd]

/-- The slots behind a step. -/
theorem DI.slots (hops : OpsOk gs n0 ops) (T : Trace P call ops st val ww 0) (D : Drawn ops) (I : DI P ops st val ww ρ0 w0 n0 L lo hi ρ a w) {j : Nat} {o : Oper} (ho : ops[j]? = some o) (hL : L.size = ops.size)
    {ρ' : Rho} (hle : Le ρ ρ') {v' : Value} (hv : VR ρ' (val j) v') :
    (∀ t k o', ops[k]? = some o' → o'.dst = some t → (L.setIfInBounds j true).getD k false = true → VR ρ' (val k) ((a.put o.dst v').tmps.getD t undef)) ∧
    (∀ t, (∀ k o', ops[k]? = some o' → o'.dst = some t → (L.setIfInBounds j true).getD k false = false) → VR ρ' (((st 0).tmps.get t).getD undef) ((a.put o.dst v').tmps.getD t undef)) ∧
    (a.put o.dst v').tmps.size = n0 ∧ (a.put o.dst v').defers = [] := by
  have hjlt := (Array.getElem?_eq_some_iff.1 ho).1
  have hlt : ∀ t, o.dst = some t → t < a.tmps.size := fun t ht => by rw [I.size]; exact hops.dst ho t ht
  have hget := fun t => act_put_get a o.dst v' t hlt
  refine ⟨fun t k o' hk hd hl => ?_, fun t hno => ?_, by rw [act_put_size]; exact I.size, by rw [act_put_defers]; exact I.defers⟩
  · rw [hget]
    rw [setL (by omega)] at hl
    by_cases e : o.dst = some t
    · rw [if_pos e]
      by_cases ek : k = j
      · subst ek; exact hv
      · exact absurd e (D.dst j o k t ho ek (by rw [hk]; exact hd))
    · rw [if_neg e]
      have ek : k ≠ j := fun h => by subst h; rw [ho] at hk; cases hk; exact e hd
      rw [if_neg ek] at hl
      exact (I.tm1 t k o' hk hd hl).mono hle
  · have e : o.dst ≠ some t := fun h => by
      have := hno j o ho h
      rw [setL (by omega), if_pos rfl] at this; cases this
    rw [hget, if_neg e]
    refine (I.tm2 t fun k o' hk hd => ?_).mono hle
    have := hno k o' hk hd
    rw [setL (by omega)] at this
    split at this
    · cases this
    · exact this

theorem closed_set (I : DI P ops st val ww ρ0 w0 n0 L lo hi ρ a w) {j : Nat} (hready : j ∈ Region.ready .any ops L) (hL : L.size = ops.size) :
    ∀ i o, (L.setIfInBounds j true).getD i false = true → ops[i]? = some o → ∀ e ∈ o.after, Region.binds .any e = true → (L.setIfInBounds j true).getD e.on false = true := by
  obtain ⟨hnl, o2, ho2, hdeps⟩ := mem_ready.1 hready
  have hjlt := (Array.getElem?_eq_some_iff.1 ho2).1
  intro i o hi ho e he hb
  rw [setL (by omega)] at hi ⊢
  split
  · rfl
  · split at hi
    · rename_i e1; subst e1; rw [ho] at ho2; cases ho2; exact hdeps e he hb
    · exact I.closed i o hi ho e he hb

theorem listed_set {j i : Nat} (hj : j < L.size) (h : L.getD i false = true) : (L.setIfInBounds j true).getD i false = true := by rw [setL hj]; split <;> simp_all

end

end Go.Proofs.YtkjbbbjebidniaaGreatDoor
/- A run of closed code reckoned over a heap of its own: a region whose order is drawn, whole. -/

namespace Go.Proofs.YtkjbbbjebidniaaGreatDoor
open Go
set_option linter.unusedSimpArgs false
set_option linter.unusedVariables false

section
variable {P : Program} {gs : List Nat} {call : CallA} {ops : Array Oper} {st : Nat → AS} {val : Nat → Value} {ww : Nat → AW} {ρ0 ρ : Rho} {w0 w : World} {n0 lo hi : Nat} {L : Array Bool} {a : Act}

theorem DI.step (hng : NoCount P) (hcall : CallOk gs P call) (hops : OpsOk gs n0 ops) (T : Trace P call ops st val ww 0) (D : Drawn ops) {a0 : Act} (S0 : Sat P ρ0 (st 0).w w0) (A0 : AR ρ0 n0 (st 0) a0) (hglob : ∀ g ∈ gs, ρ0 g = some ⟨g, none⟩)
    (hL : L.size = ops.size) (I : DI P ops st val ww ρ0 w0 n0 L lo hi ρ a w) {j : Nat} (hready : j ∈ Region.ready .any ops L) {Q : Exit → Act → World → Prop} :
    wpOp P ops Q j (fun a' w' => ∃ lo hi ρ', DI P ops st val ww ρ0 w0 n0 (L.setIfInBounds j true) lo hi ρ' a' w') a w := by
  obtain ⟨hnl, o, ho, hdeps⟩ := mem_ready.1 hready
  have hjlt := (Array.getElem?_eq_some_iff.1 ho).1
  have hjL : j < L.size := by omega
  have hnlf : L.getD j false = false := by
    simp only [Array.getD_eq_getD_getElem?] at hnl ⊢
    cases hq : L[j]? with
    | none => rfl
    | some b => rw [hq] at hnl; simpa using hnl
  obtain ⟨hseg1, hseg2⟩ := I.seg
  have C := fun k hk => canon hng hcall hops T S0 A0 hglob k hk
  have F := (C ops.size (Nat.le_refl _)).2
  obtain ⟨⟨ρc, ac, wc, Ac, Sc, Mc⟩, _⟩ := C j (Nat.le_of_lt hjlt)
  obtain ⟨hres, hput, hsolo⟩ := T.step j o (Nat.zero_le _) ho
  have hlooks : ∀ t, t ∈ o.looksAt ops → VR ρ (((st j).tmps.get t).getD undef) (a.tmps.getD t undef) := fun t ht => I.looks hops T D ho hready ht
  have hcl := closed_set I hready hL
  cases hmem : memless o.op with
  | true =>
    -- no memory is touched
    have hg1 : ∀ g ∈ gs, ρ g = some ⟨g, none⟩ := fun g hg => I.le _ _ (hglob g hg)
    have hr : ∀ x ∈ o.op.operands, VR ρ ((st j).reset.eval x) (a.eval x) := fun x hx => eval_ok hg1 (hops.known ho x hx) fun t ht => hlooks t (looks_op (by subst ht; exact hx))
    have hw : Region.wanted o (yieldedA ops (st j).reset) = Region.wanted o (yielded ops a.tmps) := wanted_eq fun g b hgd => yielded_eq fun t ht => hlooks t (looks_guard hgd ht)
    obtain ⟨hwj, hrun⟩ := resA_memless (P := P) ho hmem hr hw hres
    refine hrun w fun v' hv => ⟨lo, hi, ρ, ?_⟩
    obtain ⟨t1, t2, t3, t4⟩ := I.slots hops T D ho hL (Le.refl ρ) hv
    have hsz : (st (j + 1)).w.size = (st j).w.size := by rw [(F j hjlt).wsize, hwj]; rfl
    refine ⟨hcl, I.seg, I.mono, I.wr, ?_, ?_, ?_, ?_, I.le, I.sat, t1, t2, t3, t4, I.mnew, I.mframe, I.wsize, I.os, I.tape, I.output⟩
    · exact fun i o' h1 h2 h3 => listed_set hjL (I.below i o' h1 h2 h3)
    · intro i o' h1 h2 h3
      rw [setL hjL, if_neg (fun e => by subst e; rw [ho] at h2; cases h2; rw [hmem] at h3; cases h3)]
      exact I.above i o' h1 h2 h3
    · intro i img hi'
      rcases I.dom i img hi' with h | ⟨k, k1, k2, k3, k4, k5⟩
      · exact .inl h
      · exact .inr ⟨k, k1, k2, listed_set hjL k3, k4, k5⟩
    · intro k hk hl i h1 h2
      rw [setL hjL] at hl
      split at hl
      · rename_i e; subst e; omega
      · exact I.dom2 k hk hl i h1 h2
  | false =>
    have hjlo : lo ≤ j := by
      rcases Nat.lt_or_ge j lo with h | h
      · have := I.below j o h ho hmem; rw [hnlf] at this; cases this
      · exact h
    -- the operation that writes knows its place
    have hwr : hi < ops.size → ∃ oh, ops[hi]? = some oh ∧ memless oh.op = false ∧ solo ops hi = true := by
      intro hlt
      have hoh : ops[hi]? = some ops[hi] := by simp
      obtain ⟨hres2, _, hs2⟩ := T.step hi _ (Nat.zero_le _) hoh
      have hno := I.wr hlt
      refine ⟨_, hoh, ?_, hs2.resolve_left hno⟩
      cases hq : memless ops[hi].op with
      | false => rfl
      | true =>
        exfalso
        obtain ⟨⟨ρh, ah, wh, Ah, Sh, Mh⟩, _⟩ := C hi hseg2
        have hg1 : ∀ g ∈ gs, ρh g = some ⟨g, none⟩ := fun g hg => Mh.ext _ _ (hglob g hg)
        have Ah2 : AR ρh n0 (st hi).reset ah := ⟨Ah.tmps, Ah.size, Ah.defers⟩
        obtain ⟨hwj, _⟩ := resA_memless (P := P) hoh hq (Ah2.reads hg1 (hops.known hoh)) (Ah2.wanted _) hres2
        apply hno
        rw [hwj]
        exact Nat.le_refl _
    have hjhi : j ≤ hi := by
      rcases Nat.lt_or_ge hi j with h | h
      · exfalso
        obtain ⟨oh, q1, q2, q3⟩ := hwr (by omega)
        rcases solo_spec q3 j o ho (by omega) hmem with hb | hb
        · have := hb.lt D; omega
        · have := hb.listed I.closed fun o3 ho3 e3 he3 hb3 => by rw [ho] at ho3; cases ho3; exact hdeps e3 he3 hb3
          rw [I.above hi oh (Nat.le_refl _) q1 q2] at this; cases this
      · exact h
    rcases Nat.lt_or_ge j hi with hlt | hge
    · -- a stretch without writes
      have hm := I.mono j hjlo hlt
      have hszlo : (st lo).w.size ≤ (st j).w.size := size_mono' F hjlo (by omega)
      have hsz1 : (st (j + 1)).w.size ≤ (st hi).w.size := size_mono' F (by omega) hseg2
      have hsz0 : (st j).w.size ≤ (st (j + 1)).w.size := (F j hjlt).size
      have hsame : ∀ i, i < (st j).w.size → (st hi).w.heap.get i = (st j).w.heap.get i := fun i hi' => seg_same' F (Nat.le_of_lt hlt) hseg2 (fun k k1 k2 => I.mono k (by omega) k2) hi'
      have hsame1 : ∀ i, i < (st (j + 1)).w.size → (st hi).w.heap.get i = (st (j + 1)).w.heap.get i := fun i hi' => seg_same' F (by omega) hseg2 (fun k k1 k2 => I.mono k (by omega) k2) hi'
      have hdomc : ∀ i img, ρ i = some img → i < (st j).w.size → ∃ imgc, ρc i = some imgc := by
        intro i img hi' hlt'
        rcases Nat.lt_or_ge i (st 0).w.size with h0 | h0
        · cases hq : ρ0 i with
          | some im => exact ⟨im, Mc.ext _ _ hq⟩
          | none => have := (I.mnew i img hq hi').1; omega
        · exact Mc.full i h0 hlt'
      have Sj : Sat P (ρ.cut (st j).w.size) (st j).w w := I.sat.cut Sc (by omega) hsame hdomc
      have hN : ∀ i img, ρc i = some img → i < (st j).w.size := fun i img h => (Sc.dom i img h).1
      have hg1 : ∀ g ∈ gs, ρ.cut (st j).w.size g = some ⟨g, none⟩ := fun g hg => by
        have := (S0.dom g _ (hglob g hg)).1
        rw [Rho.cut_lt (by have := size_mono' F (Nat.zero_le j) (Nat.le_of_lt hjlt); omega)]
        exact I.le _ _ (hglob g hg)
      have hlooks' : ∀ t, t ∈ o.looksAt ops → VR (ρ.cut (st j).w.size) (((st j).tmps.get t).getD undef) (a.tmps.getD t undef) := fun t ht => (hlooks t ht).cut hN (Ac.tmps t)
      have hr : ∀ x ∈ o.op.operands, VR (ρ.cut (st j).w.size) ((st j).reset.eval x) (a.eval x) := fun x hx => eval_ok hg1 (hops.known ho x hx) fun t ht => hlooks' t (looks_op (by subst ht; exact hx))
      have hw : Region.wanted o (yieldedA ops (st j).reset) = Region.wanted o (yielded ops a.tmps) := wanted_eq fun g b hgd => yielded_eq fun t ht => hlooks t (looks_guard hgd ht)
      refine resA_ok hng hcall ho (Sj.low rfl rfl : Sat P (ρ.cut (st j).w.size) (st j).reset.w w) hg1 hr hw hres fun ρ' v' w' hv S' M' => ?_
      -- names of both
      let ρ2 : Rho := fun i => match ρ' i with | some img => some img | none => ρ i
      have hwwsz : (ww j).size = (st (j + 1)).w.size := (F j hjlt).wsize.symm
      have hwwheap : (ww j).heap = (st (j + 1)).w.heap := (F j hjlt).heap.symm
      have old' : ∀ i, i < (st j).w.size → ρ' i = ρ i := by
        intro i hi'
        cases hq : ρ i with
        | some img => exact M'.ext _ _ (by rw [Rho.cut_lt hi']; exact hq)
        | none =>
          cases hq' : ρ' i with
          | none => rfl
          | some img =>
            have := (M'.new i img (by rw [Rho.cut_lt hi']; exact hq) hq').1
            have : (st j).w.size ≤ i := this
            omega
      have late : ∀ i, (st (j + 1)).w.size ≤ i → ρ' i = none := by
        intro i hi'
        cases hq' : ρ' i with
        | none => rfl
        | some img => have := (S'.dom i img hq').1; omega
      have mine : ∀ i, (st j).w.size ≤ i → i < (st (j + 1)).w.size → ρ i = none := by
        intro i h1 h2
        cases hq : ρ i with
        | none => rfl
        | some img =>
          rcases I.dom i img hq with h | ⟨k, k1, k2, k3, k4, k5⟩
          · omega
          · exfalso
            rcases Nat.lt_trichotomy k j with hk | hk | hk
            · have := size_mono' F (show k + 1 ≤ j by omega) (by omega); omega
            · subst hk; rw [hnlf] at k3; cases k3
            · have := size_mono' F (show j + 1 ≤ k by omega) (by omega); omega
      have le' : Le ρ' ρ2 := fun i img h => by show (match ρ' i with | some img => some img | none => ρ i) = some img; rw [h]
      have le2 : Le ρ ρ2 := fun i img h => by
        show (match ρ' i with | some img => some img | none => ρ i) = some img
        rcases Nat.lt_or_ge i (st j).w.size with h1 | h1
        · rw [old' i h1, h]
        · rcases Nat.lt_or_ge i (st (j + 1)).w.size with h2 | h2
          · rw [mine i h1 h2] at h; cases h
          · rw [late i h2]; exact h
      have from2 : ∀ i img, ρ2 i = some img → (ρ' i = some img ∧ i < (st (j + 1)).w.size) ∨ (ρ i = some img ∧ (st (j + 1)).w.size ≤ i) := by
        intro i img h
        have h : (match ρ' i with | some img => some img | none => ρ i) = some img := h
        cases hq : ρ' i with
        | some im => rw [hq] at h; cases h; exact .inl ⟨rfl, by have := (S'.dom i _ hq).1; omega⟩
        | none =>
          rw [hq] at h
          have h : ρ i = some img := h
          refine .inr ⟨h, ?_⟩
          rcases Nat.lt_or_ge i (st (j + 1)).w.size with h2 | h2
          · exfalso
            rcases Nat.lt_or_ge i (st j).w.size with h1 | h1
            · rw [old' i h1, h] at hq; cases hq
            · obtain ⟨im, him⟩ := M'.full i h1 (by omega); rw [him] at hq; cases hq
          · exact h2
      -- nothing that was there has changed
      have keep : ∀ b, b < w.heap.size → w'.heap[b]? = w.heap[b]? := fun b hb => M'.frame b hb fun i img h1 h2 h3 => .inr (by
        have : i < (st j).w.size := (Sj.dom i img h1).1
        omega)
      have fresh : ∀ i img, (st j).w.size ≤ i → ρ' i = some img → w.heap.size ≤ img.blk := fun i img h1 h2 => by
        have hcn : ρ.cut (st j).w.size i = none := by unfold Rho.cut; rw [if_neg (by omega)]
        rcases (M'.new i img hcn h2).2 with h | ⟨j2, jm, q1, _, _, _, q5⟩
        · exact h
        · have : j2 < (st j).w.size := (Sj.dom j2 jm q1).1
          omega
      refine ⟨lo, hi, ρ2, ?_⟩
      obtain ⟨t1, t2, t3, t4⟩ := I.slots hops T D ho hL le2 (hv.mono le')
      refine ⟨hcl, I.seg, I.mono, I.wr, ?_, ?_, ?_, ?_, I.le.trans le2, ⟨?_, ?_, ?_⟩, t1, t2, t3, t4, ?_, ?_, Nat.le_trans I.wsize M'.wsize, M'.os.trans I.os, M'.tape.trans I.tape, M'.output.trans I.output⟩
      · exact fun i o' h1 h2 h3 => listed_set hjL (I.below i o' h1 h2 h3)
      · intro i o' h1 h2 h3
        rw [setL hjL, if_neg (by omega)]
        exact I.above i o' h1 h2 h3
      · intro i img h
        rcases from2 i img h with ⟨h1, h2⟩ | ⟨h1, h2⟩
        · rcases Nat.lt_or_ge i (st j).w.size with h3 | h3
          · rw [old' i h3] at h1
            rcases I.dom i img h1 with h | ⟨k, k1, k2, k3, k4, k5⟩
            · exact .inl h
            · exact .inr ⟨k, k1, k2, listed_set hjL k3, k4, k5⟩
          · exact .inr ⟨j, hjlo, hlt, by rw [setL hjL, if_pos rfl], h3, h2⟩
        · rcases I.dom i img h1 with h | ⟨k, k1, k2, k3, k4, k5⟩
          · exact .inl h
          · exact .inr ⟨k, k1, k2, listed_set hjL k3, k4, k5⟩
      · intro k hk hl i h1 h2
        rw [setL hjL] at hl
        split at hl
        · rename_i e; subst e
          obtain ⟨im, him⟩ := M'.full i h1 (by omega)
          exact ⟨im, le' _ _ him⟩
        · obtain ⟨im, him⟩ := I.dom2 k hk hl i h1 h2
          exact ⟨im, le2 _ _ him⟩
      · intro i img h
        rcases from2 i img h with ⟨h1, h2⟩ | ⟨h1, h2⟩
        · exact ⟨by omega, (S'.dom i img h1).2⟩
        · have := I.sat.dom i img h1
          exact ⟨this.1, Nat.lt_of_lt_of_le this.2 M'.wsize⟩
      · intro i img h
        rcases from2 i img h with ⟨h1, h2⟩ | ⟨h1, h2⟩
        · obtain ⟨oa, q1, q2⟩ := S'.obj i img h1
          refine ⟨oa, by rw [hsame1 i h2, ← hwwheap]; exact q1, ?_⟩
          exact q2.imp id fun ⟨o2, q3, q4⟩ => ⟨o2, q3, q4.mono le'⟩
        · obtain ⟨oa, q1, q2⟩ := I.sat.obj i img h1
          refine ⟨oa, q1, ?_⟩
          exact q2.imp id fun ⟨o2, q3, q4⟩ => ⟨o2, by rw [keep _ (I.sat.dom i img h1).2]; exact q3, q4.mono le2⟩
      · intro i i2 im im2 h h' hb l1 l2 nr
        rcases from2 i im h with ⟨h1, h2⟩ | ⟨h1, h2⟩
        · rcases from2 i2 im2 h' with ⟨h3, h4⟩ | ⟨h3, h4⟩
          · exact S'.inj i i2 im im2 h1 h3 hb (by rw [hwwheap, ← hsame1 i h2]; exact l1) (by rw [hwwheap, ← hsame1 i2 h4]; exact l2) (fun ⟨c, e, hr⟩ => nr ⟨c, e, by rw [hsame1 i h2, ← hwwheap]; exact hr⟩)
          · rcases Nat.lt_or_ge i (st j).w.size with h5 | h5
            · rw [old' i h5] at h1
              exact I.sat.inj i i2 im im2 h1 h3 hb l1 l2 nr
            · have := fresh i im h5 h1
              have := (I.sat.dom i2 im2 h3).2
              omega
        · rcases from2 i2 im2 h' with ⟨h3, h4⟩ | ⟨h3, h4⟩
          · rcases Nat.lt_or_ge i2 (st j).w.size with h5 | h5
            · rw [old' i2 h5] at h3
              exact I.sat.inj i i2 im im2 h1 h3 hb l1 l2 nr
            · have := fresh i2 im2 h5 h3
              have := (I.sat.dom i im h1).2
              omega
          · exact I.sat.inj i i2 im im2 h1 h3 hb l1 l2 nr
      · intro i img h0 h
        rcases from2 i img h with ⟨h1, h2⟩ | ⟨h1, h2⟩
        · rcases Nat.lt_or_ge i (st j).w.size with h5 | h5
          · rw [old' i h5] at h1; exact I.mnew i img h0 h1
          · have := fresh i img h5 h1
            have := size_mono' F (Nat.zero_le j) (Nat.le_of_lt hjlt)
            have := I.wsize
            exact ⟨by omega, .inl (by omega)⟩
        · exact I.mnew i img h0 h1
      · intro b hb hall
        rw [keep b (Nat.lt_of_lt_of_le hb I.wsize)]
        exact I.mframe b hb hall
    · -- the operation that writes
      have hjh : j = hi := by omega
      subst hjh
      obtain ⟨oh, q1, q2, q3⟩ := hwr hjlt
      have hg1 : ∀ g ∈ gs, ρ g = some ⟨g, none⟩ := fun g hg => I.le _ _ (hglob g hg)
      have hr : ∀ x ∈ o.op.operands, VR ρ ((st j).reset.eval x) (a.eval x) := fun x hx => eval_ok hg1 (hops.known ho x hx) fun t ht => hlooks t (looks_op (by subst ht; exact hx))
      have hw : Region.wanted o (yieldedA ops (st j).reset) = Region.wanted o (yielded ops a.tmps) := wanted_eq fun g b hgd => yielded_eq fun t ht => hlooks t (looks_guard hgd ht)
      refine resA_ok hng hcall ho (I.sat.low rfl rfl : Sat P ρ (st j).reset.w w) hg1 hr hw hres fun ρ' v' w' hv S' M' => ?_
      obtain ⟨hi', n1, n2, n3, n4⟩ := next_writer ops st ww (ops.size - (j + 1)) (j + 1) (by omega)
      obtain ⟨t1, t2, t3, t4⟩ := I.slots hops T D ho hL M'.ext hv
      have hwwsz : (ww j).size = (st (j + 1)).w.size := (F j hjlt).wsize.symm
      have hwwheap : (ww j).heap = (st (j + 1)).w.heap := (F j hjlt).heap.symm
      have hsame1 : ∀ i, i < (st (j + 1)).w.size → (st hi').w.heap.get i = (st (j + 1)).w.heap.get i := fun i hi2 => seg_same' F n1 n2 n3 hi2
      have hsz1 : (st (j + 1)).w.size ≤ (st hi').w.size := size_mono' F n1 n2
      have hlow1 : (st hi').w.low ≤ (st (j + 1)).w.low := low_mono' F n1 n2
      have hlow2 : (st hi').w.low ≤ (ww j).low := Nat.le_trans hlow1 (F j hjlt).low2
      have hlow3 : (st hi').w.low ≤ (st j).w.low := Nat.le_trans hlow1 (F j hjlt).low1
      have hM0 := Mc
      have rest_listed : ∀ k o', k < j → ops[k]? = some o' → memless o'.op = false → L.getD k false = true := by
        intro k o' hk hok hmk
        rcases solo_spec q3 k o' hok (by omega) hmk with hb | hb
        · exact hb.listed I.closed fun o3 ho3 e3 he3 hb3 => by rw [ho] at ho3; cases ho3; exact hdeps e3 he3 hb3
        · have := hb.lt D; omega
      refine ⟨j + 1, hi', ρ', hcl, ⟨n1, n2⟩, n3, n4, ?_, ?_, ?_, ?_, I.le.trans M'.ext, ⟨?_, ?_, ?_⟩, t1, t2, t3, t4, ?_, ?_, Nat.le_trans I.wsize M'.wsize, M'.os.trans I.os, M'.tape.trans I.tape, M'.output.trans I.output⟩
      · intro i o' h1 h2 h3
        by_cases e : i = j
        · subst e; rw [setL hjL, if_pos rfl]
        · exact listed_set hjL (rest_listed i o' (by omega) h2 h3)
      · intro i o' h1 h2 h3
        rw [setL hjL, if_neg (by omega)]
        exact I.above i o' (by omega) h2 h3
      · intro i img h
        have := (S'.dom i img h).1
        exact .inl (by omega)
      · intro k hk hl i h1 h2
        rw [setL hjL] at hl
        split at hl
        · rename_i e; subst e; exact M'.full i h1 (by omega)
        · obtain ⟨im, him⟩ := I.dom2 k hk hl i h1 h2
          exact ⟨im, M'.ext _ _ him⟩
      · intro i img h
        have := S'.dom i img h
        exact ⟨by omega, this.2⟩
      · intro i img h
        obtain ⟨oa, r1, r2⟩ := S'.obj i img h
        refine ⟨oa, ?_, r2⟩
        rw [hsame1 i (by have := (S'.dom i img h).1; omega), ← hwwheap]; exact r1
      · intro i i2 im im2 h h' hb l1 l2 nr
        have hsi := hsame1 i (by have := (S'.dom i im h).1; omega)
        rw [hsi, ← hwwheap] at l1
        rw [hsame1 i2 (by have := (S'.dom i2 im2 h').1; omega), ← hwwheap] at l2
        exact S'.inj i i2 im im2 h h' hb l1 l2 (fun ⟨c, e, hr⟩ => nr ⟨c, e, by rw [hsi, ← hwwheap]; exact hr⟩)
      · intro i img h0 h
        cases hq : ρ i with
        | some im =>
          have : im = img := by have := M'.ext _ _ hq; rw [h] at this; cases this; rfl
          subst this
          obtain ⟨r1, r2⟩ := I.mnew i im h0 hq
          exact ⟨r1, r2.imp id fun ⟨j2, jm, s1, s2, s3, s4, s5⟩ => ⟨j2, jm, s1, s2, s3, s4, Nat.le_trans hlow3 s5⟩⟩
        | none =>
          obtain ⟨r1, r2⟩ := M'.new i img hq h
          have r1 : (st j).w.size ≤ i := r1
          have hz := size_mono' F (Nat.zero_le j) (Nat.le_of_lt hjlt)
          refine ⟨by omega, ?_⟩
          rcases r2 with r2 | ⟨j2, jm, s1, s2, s3, s4, s5⟩
          · exact .inl (Nat.le_trans I.wsize r2)
          · have s3 : (st j).w.heap.get j2 ≠ some .dead := s3
            have s4 : ¬ Ro (st j).w j2 := s4
            cases hq2 : ρ0 j2 with
            | some jm0 =>
              have hjm : jm0 = jm := by have := I.le _ _ hq2; rw [s1] at this; cases this; rfl
              subst hjm
              have hj2 := (S0.dom j2 jm0 hq2).1
              exact .inr ⟨j2, jm0, hq2, s2, fun hd => s3 (hM0.dead j2 hj2 hd), fun ⟨x, y, hr⟩ => s4 ⟨x, y, hM0.ro j2 x y hj2 hr⟩, Nat.le_trans hlow2 s5⟩
            | none =>
              obtain ⟨_, r3⟩ := I.mnew j2 jm hq2 s1
              rcases r3 with r3 | ⟨j3, jm3, u1, u2, u3, u4, u5⟩
              · exact .inl (by rw [← s2]; exact r3)
              · exact .inr ⟨j3, jm3, u1, u2.trans s2, u3, u4, Nat.le_trans hlow3 u5⟩
      · intro b hb hall
        have h1 := I.mframe b hb fun i img e1 e2 e3 => (hall i img e1 e2 e3).imp id fun h => Nat.lt_of_lt_of_le h hlow3
        rw [← h1]
        refine M'.frame b (Nat.lt_of_lt_of_le hb I.wsize) fun i img e1 e2 e3 => ?_
        have e3 : (st j).w.heap.get i ≠ some .dead := e3
        cases hq : ρ0 i with
        | some im =>
          have : im = img := by have := I.le _ _ hq; rw [e1] at this; cases this; rfl
          subst this
          have hi2 := (S0.dom i im hq).1
          rcases hall i im hq e2 (fun hd => e3 (hM0.dead i hi2 hd)) with ⟨c, e, hr⟩ | hl
          · exact .inl ⟨c, e, hM0.ro i c e hi2 hr⟩
          · exact .inr (by omega)
        | none =>
          obtain ⟨_, r3⟩ := I.mnew i img hq e1
          rcases r3 with r3 | ⟨j3, jm3, u1, u2, u3, u4, u5⟩
          · omega
          · rcases hall j3 jm3 u1 (u2.trans e2) u3 with hr | hl
            · exact absurd hr u4
            · omega

end

end Go.Proofs.YtkjbbbjebidniaaGreatDoor
/- A run of closed code reckoned over a heap of its own: regions, code, calls. -/

namespace Go.Proofs.YtkjbbbjebidniaaGreatDoor
open Go
set_option linter.unusedSimpArgs false
set_option linter.unusedVariables false

section
variable {P : Program}

theorem region_draw_ok {gs : List Nat} {n : Nat} {call : CallA} (hng : NoCount P) (hmix : P.follows .mixedOrders = true) (hcall : CallOk gs P call) {ops : Array Oper} (hops : OpsOk gs n ops) (hok : okDraw ops = true) {id : Nat} {ρ0 : Rho} {s s' : AS} {a0 : Act} {w : World}
    (S : Sat P ρ0 s.w w) (A : AR ρ0 n s a0) (hglob : ∀ g ∈ gs, ρ0 g = some ⟨g, none⟩) (h : opsA P call ops true 0 ops.toList s = .ok s') {Q : Exit → Act → World → Prop}
    (hQ : ∀ ρ' a' w', AR ρ' n s' a' → Sat P ρ' s'.w w' → Mv ρ0 ρ' s.w s'.w w w' → Q .normal a' w') : (Code.region id ops true).wp P Q a0 w := by
  have D := okDraw_spec hok
  obtain ⟨st, val, ww, T, e1, e2⟩ := trace_of ops.toList 0 (fun j => by simp) h
  subst e1; subst e2
  have S0 : Sat P ρ0 (st 0).w w.drew := S.heap rfl
  have C := fun k hk => canon hng hcall hops T S0 A hglob k hk
  have F := (C ops.size (Nat.le_refl _)).2
  refine wp_region_free (fun L a' w' => ∃ lo hi ρ, DI P ops st val ww ρ0 w.drew n L lo hi ρ a' w') hmix ?_ ?_ ?_
  · obtain ⟨hi, n1, n2, n3, n4⟩ := next_writer ops st ww ops.size 0 (by omega)
    have hsame : ∀ i, i < (st 0).w.size → (st hi).w.heap.get i = (st 0).w.heap.get i := fun i hi2 => seg_same' F n1 n2 n3 hi2
    have hsz := size_mono' F n1 n2
    have no : ∀ j, (Array.replicate ops.size false).getD j false = false := fun j => by
      simp only [Array.getD_eq_getD_getElem?, Array.getElem?_replicate]; split <;> rfl
    refine ⟨0, hi, ρ0, ?_, ⟨n1, n2⟩, n3, n4, ?_, ?_, ?_, ?_, Le.refl _, ⟨?_, ?_, ?_⟩, ?_, ?_, A.size, A.defers, ?_, ?_, Nat.le_refl _, rfl, rfl, rfl⟩
    · intro j o hj; rw [no] at hj; cases hj
    · intro j o hj; omega
    · intro j o _ _ _; exact no j
    · intro i img hi2; exact .inl (S0.dom i img hi2).1
    · intro j _ hj; rw [no] at hj; cases hj
    · intro i img hi2; have := S0.dom i img hi2; exact ⟨by omega, this.2⟩
    · intro i img hi2
      obtain ⟨oa, q1, q2⟩ := S0.obj i img hi2
      exact ⟨oa, by rw [hsame i (S0.dom i img hi2).1]; exact q1, q2⟩
    · intro i j im jm a1 a2 a3 a4 a5 a6
      have hsi := hsame i (S0.dom i im a1).1
      rw [hsi] at a4
      rw [hsame j (S0.dom j jm a2).1] at a5
      exact S0.inj i j im jm a1 a2 a3 a4 a5 (fun ⟨c, e, h⟩ => a6 ⟨c, e, by rw [hsi]; exact h⟩)
    · intro t k o _ _ hk; rw [no] at hk; cases hk
    · intro t _; exact A.tmps t
    · intro i img a1 a2; rw [a1] at a2; cases a2
    · intro b _ _; rfl
  · rintro L a w' i hL ⟨lo, hi, ρ, I⟩ hready
    exact DI.step hng hcall hops T D S0 A hglob hL I hready
  · rintro L a w' hL ⟨lo, hi, ρ, I⟩ hr
    have all : ∀ j, j < ops.size → L.getD j false = true := by
      intro j
      induction j using Nat.strongRecOn with
      | _ j ih =>
        intro hj
        have ho : ops[j]? = some ops[j] := by simp
        exact ready_of hr hL ho fun e he hb => by
          have := D.deps j _ e ho he hb
          exact ih _ this (by omega)
    have hhi : hi = ops.size := by
      have := I.seg.2
      rcases Nat.lt_or_ge hi ops.size with hlt | hge
      · exfalso
        have hoh : ops[hi]? = some ops[hi] := by simp
        have hno := I.wr hlt
        cases hq : memless ops[hi].op with
        | false => have := I.above hi _ (Nat.le_refl _) hoh hq; rw [all hi hlt] at this; cases this
        | true =>
          obtain ⟨hres2, _, hs2⟩ := T.step hi _ (Nat.zero_le _) hoh
          obtain ⟨⟨ρh, ah, wh, Ah, Sh, Mh⟩, _⟩ := C hi (by omega)
          have hg1 : ∀ g ∈ gs, ρh g = some ⟨g, none⟩ := fun g hg => Mh.ext _ _ (hglob g hg)
          have Ah2 : AR ρh n (st hi).reset ah := ⟨Ah.tmps, Ah.size, Ah.defers⟩
          obtain ⟨hwj, _⟩ := resA_memless (P := P) hoh hq (Ah2.reads hg1 (hops.known hoh)) (Ah2.wanted _) hres2
          apply hno
          rw [hwj]
          exact Nat.le_refl _
      · omega
    subst hhi
    have hlen : 0 + ops.toList.length = ops.size := by simp
    obtain ⟨⟨ρc, ac, wc, Ac, Sc, Mc⟩, _⟩ := C ops.size (Nat.le_refl _)
    rw [hlen] at hQ
    refine hQ ρ a w' ⟨fun t => ?_, I.size, I.defers⟩ I.sat ?_
    · obtain ⟨c1, c2⟩ := st_tmps hops T D t ops.size (Nat.le_refl _)
      by_cases hown : ∃ (k : Nat) (o' : Oper), ops[k]? = some o' ∧ o'.dst = some t
      · obtain ⟨k, o', hk, hd⟩ := hown
        have hklt := (Array.getElem?_eq_some_iff.1 hk).1
        rw [c1 k o' hklt hk hd]
        exact I.tm1 t k o' hk hd (all k hklt)
      · rw [c2 fun k o' _ hk hd => hown ⟨k, o', hk, hd⟩]
        exact I.tm2 t fun k o' hk hd => absurd ⟨k, o', hk, hd⟩ hown
    · have full : ∀ i, (st 0).w.size ≤ i → i < (st ops.size).w.size → ∃ img, ρ i = some img := by
        intro i h1 h2
        have key : ∀ m, m ≤ ops.size → i < (st m).w.size → ∃ j, j < m ∧ (st j).w.size ≤ i ∧ i < (st (j + 1)).w.size := by
          intro m
          induction m with
          | zero => intro _ h3; omega
          | succ m ih =>
            intro hm h3
            rcases Nat.lt_or_ge i (st m).w.size with h4 | h4
            · obtain ⟨j, j1, j2, j3⟩ := ih (by omega) h4; exact ⟨j, by omega, j2, j3⟩
            · exact ⟨m, by omega, h4, h3⟩
        obtain ⟨j, j1, j2, j3⟩ := key ops.size (Nat.le_refl _) h2
        exact I.dom2 j j1 (all j j1) i j2 j3
      exact ⟨I.le, I.mnew, full, Mc.size, I.wsize, Mc.low, Mc.same, Mc.ro, Mc.dead, I.mframe, I.os, I.tape, I.output⟩

/-- A loop, unrolled as often as it goes round. -/
def rounds (P : Program) (c : Code) (Q : Exit → Act → World → Prop) : Nat → Act → World → Prop
  | 0, _, _ => False
  | n + 1, a, w => c.wp P (Exit.then (rounds P c Q n) Q) a w

theorem exists_least {p : Nat → Prop} (h : ∃ n, p n) : ∃ n, p n ∧ ∀ m, p m → n ≤ m := by
  classical
  obtain ⟨n, hn⟩ := h
  induction n using Nat.strongRecOn with
  | _ n ih =>
    by_cases hm : ∃ m, m < n ∧ p m
    · obtain ⟨m, m1, m2⟩ := hm; exact ih m m1 m2
    · exact ⟨n, hn, fun m hp => by
        rcases Nat.lt_or_ge m n with h | h
        · exact absurd ⟨m, h, hp⟩ hm
        · exact h⟩

open Classical in
theorem wp_rounds {c : Code} {Q : Exit → Act → World → Prop} {n : Nat} {a : Act} {w : World} (h : rounds P c Q n a w) : (Code.loop c).wp P Q a w := by
  refine wp_loop (fun a w => ∃ n, rounds P c Q n a w) (fun a w => if h : ∃ n, rounds P c Q n a w then Classical.choose (exists_least h) else 0) ⟨n, h⟩ ?_
  intro a w hex
  obtain ⟨hmin, hle⟩ := Classical.choose_spec (exists_least hex)
  cases hm : Classical.choose (exists_least hex) with
  | zero => rw [hm] at hmin; exact hmin.elim
  | succ m =>
    rw [hm] at hmin
    refine Code.wp_mono (fun e a' w' q => ?_) hmin
    cases e with
    | normal =>
      have hq : rounds P c Q m a' w' := q
      have hex' : ∃ n, rounds P c Q n a' w' := ⟨m, hq⟩
      refine ⟨hex', ?_⟩
      simp only [dif_pos hex, dif_pos hex', hm]
      have := (Classical.choose_spec (exists_least hex')).2 m hq
      omega
    | _ => exact q

theorem codeA_zero (call : CallA) (c : Code) (s : AS) : codeA P call 0 c s = .error [70] := rfl
theorem codeA_succ (call : CallA) (n : Nat) (c : Code) (s : AS) : codeA P call (n + 1) c s = stepC P call (codeA P call n) c s := rfl

/-- Where code ends. -/
def XOk (x : XA) (Q : Exit → Act → World → Prop) (a : Act) (w : World) : Prop :=
  match x with
  | .normal => Q .normal a w
  | .exit id => Q (.exit id) a w
  | .ret => Q .ret a w

theorem codeA_ok {gs : List Nat} {nt : Nat} {call : CallA} (hng : NoCount P) (hmix : P.follows .mixedOrders = true) (hcall : CallOk gs P call) (hm1 : nt ≤ 1000000) : ∀ (n : Nat) (c : Code) {ρ : Rho} {s s' : AS} {x : XA} {a : Act} {w : World},
    codeOk gs nt c = true → Sat P ρ s.w w → AR ρ nt s a → (∀ g ∈ gs, ρ g = some ⟨g, none⟩) → codeA P call n c s = .ok (x, s') → ∀ (Q : Exit → Act → World → Prop),
    (∀ ρ' a' w', AR ρ' nt s' a' → Sat P ρ' s'.w w' → Mv ρ ρ' s.w s'.w w w' → XOk x Q a' w') → c.wp P Q a w
  | 0, c, ρ, s, s', x, a, w, ck, S, A, hg, h, Q, hQ => by simp [codeA_zero] at h
  | n + 1, c, ρ, s, s', x, a, w, ck, S, A, hg, h, Q, hQ => by
    cases c with
    | skip =>
      simp only [codeA_succ, stepC, stepK, Except.ok.injEq, Prod.mk.injEq] at h
      obtain ⟨h1, h2⟩ := h; subst h1; subst h2
      exact wp_skip (hQ ρ a w A S (Mv.refl _ _ _))
    | label l =>
      simp only [codeA_succ, stepC, stepK, Except.ok.injEq, Prod.mk.injEq] at h
      obtain ⟨h1, h2⟩ := h; subst h1; subst h2
      exact wp_label (hQ ρ a w A S (Mv.refl _ _ _))
    | exit id =>
      simp only [codeA_succ, stepC, stepK, Except.ok.injEq, Prod.mk.injEq] at h
      obtain ⟨h1, h2⟩ := h; subst h1; subst h2
      exact wp_exit (hQ ρ a w A S (Mv.refl _ _ _))
    | ret =>
      simp only [codeA_succ, stepC, stepK, Except.ok.injEq, Prod.mk.injEq] at h
      obtain ⟨h1, h2⟩ := h; subst h1; subst h2
      exact wp_ret (hQ ρ a w A S (Mv.refl _ _ _))
    | seq c1 c2 =>
      simp only [codeOk, Bool.and_eq_true] at ck
      obtain ⟨ck1, ck2⟩ := ck
      simp only [codeA_succ, stepC, stepK, c_seq, c_cond, c_block, c_region] at h
      refine wp_seq ?_
      split at h
      · rename_i s1 h1
        refine codeA_ok hng hmix hcall hm1 n c1 ck1 S A hg h1 _ fun ρ1 a1 w1 A1 S1 M1 => ?_
        exact codeA_ok hng hmix hcall hm1 n c2 ck2 S1 A1 (fun g hgg => M1.ext _ _ (hg g hgg)) h Q fun ρ2 a2 w2 A2 S2 M2 => hQ ρ2 a2 w2 A2 S2 (M1.trans S M2)
      · rename_i hne
        refine codeA_ok hng hmix hcall hm1 n c1 ck1 S A hg h _ fun ρ1 a1 w1 A1 S1 M1 => ?_
        have := hQ ρ1 a1 w1 A1 S1 M1
        cases x with
        | normal => exact absurd h (hne _)
        | exit id => exact this
        | ret => exact this
    | cond y c1 c2 =>
      simp only [codeOk, Bool.and_eq_true] at ck
      obtain ⟨⟨hk, ck1⟩, ck2⟩ := ck
      simp only [codeA_succ, stepC, stepK, c_seq, c_cond, c_block, c_region] at h
      have hy : VR ρ (s.eval y) (a.eval y) := eval_ok hg hk fun t _ => A.tmps t
      split at h
      · rename_i hb
        rw [hb] at hy
        generalize hay : a.eval y = ay at hy
        cases hy
        exact wp_cond hay (codeA_ok hng hmix hcall hm1 n c1 ck1 S A hg h Q hQ)
      · rename_i hb
        rw [hb] at hy
        generalize hay : a.eval y = ay at hy
        cases hy
        exact wp_cond hay (codeA_ok hng hmix hcall hm1 n c2 ck2 S A hg h Q hQ)
      · simp at h
    | block id c1 =>
      simp only [codeOk] at ck
      have ck1 := ck
      simp only [codeA_succ, stepC, stepK, c_seq, c_cond, c_block, c_region] at h
      refine wp_block ?_
      split at h
      · rename_i j s1 h1
        refine codeA_ok hng hmix hcall hm1 n c1 ck1 S A hg h1 _ fun ρ1 a1 w1 A1 S1 M1 => ?_
        cases hb : Nat.beq j id with
        | true =>
          rw [hb] at h; simp only [cond_true, Except.ok.injEq, Prod.mk.injEq] at h
          obtain ⟨q1, q2⟩ := h; subst q1; subst q2
          have hji := Nat.eq_of_beq_eq_true hb
          show Exit.inBlock id Q (.exit j) a1 w1
          simp only [Exit.inBlock, if_pos hji]
          exact hQ ρ1 a1 w1 A1 S1 M1
        | false =>
          rw [hb] at h; simp only [cond_false, Except.ok.injEq, Prod.mk.injEq] at h
          obtain ⟨q1, q2⟩ := h; subst q1; subst q2
          have hji : j ≠ id := fun e => by subst e; simp at hb
          show Exit.inBlock id Q (.exit j) a1 w1
          simp only [Exit.inBlock, if_neg hji]
          exact hQ ρ1 a1 w1 A1 S1 M1
      · rename_i hne
        refine codeA_ok hng hmix hcall hm1 n c1 ck1 S A hg h _ fun ρ1 a1 w1 A1 S1 M1 => ?_
        have := hQ ρ1 a1 w1 A1 S1 M1
        cases x with
        | normal => exact this
        | exit id2 => exact absurd h (hne _ _)
        | ret => exact this
    | loop c1 =>
      simp only [codeOk] at ck
      have ck1 := ck
      have hl : ∀ (m : Nat) {ρ : Rho} {s s' : AS} {x : XA} {a : Act} {w : World}, m ≤ n + 1 → Sat P ρ s.w w → AR ρ nt s a → (∀ g ∈ gs, ρ g = some ⟨g, none⟩) → codeA P call m (.loop c1) s = .ok (x, s') →
          (∀ ρ' a' w', AR ρ' nt s' a' → Sat P ρ' s'.w w' → Mv ρ ρ' s.w s'.w w w' → XOk x Q a' w') → rounds P c1 Q m a w := by
        intro m
        induction m with
        | zero => intro ρ s s' x a w _ _ _ _ h; simp [codeA_zero] at h
        | succ m ih =>
          intro ρ s s' x a w hm S A hg h hQ
          simp only [codeA_succ, stepC, stepK, c_seq, c_cond, c_block, c_region] at h
          split at h
          · rename_i s1 h1
            have h1 : codeA P call m c1 s = .ok (.normal, s1) := h1
            refine codeA_ok hng hmix hcall hm1 m c1 ck1 S A hg h1 _ fun ρ1 a1 w1 A1 S1 M1 => ?_
            exact ih (by omega) S1 A1 (fun g hgg => M1.ext _ _ (hg g hgg)) h fun ρ2 a2 w2 A2 S2 M2 => hQ ρ2 a2 w2 A2 S2 (M1.trans S M2)
          · rename_i hne
            refine codeA_ok hng hmix hcall hm1 m c1 ck1 S A hg h _ fun ρ1 a1 w1 A1 S1 M1 => ?_
            have := hQ ρ1 a1 w1 A1 S1 M1
            cases x with
            | normal => exact absurd h (hne _)
            | exit id => exact this
            | ret => exact this
      exact wp_rounds (hl (n + 1) (Nat.le_refl _) S A hg h hQ)
    | region id ops draw =>
      simp only [codeOk, Bool.and_eq_true] at ck
      obtain ⟨ck1, ck2⟩ := ck
      have hops : OpsOk gs nt ops := ⟨hm1, fun i o ho => List.all_eq_true.1 ck1 o (by
        obtain ⟨hlt, rfl⟩ := Array.getElem?_eq_some_iff.1 ho
        simp)⟩
      simp only [codeA_succ, stepC, stepK, c_seq, c_cond, c_block, c_region] at h
      split at h
      · rename_i s1 h1
        simp only [Except.ok.injEq, Prod.mk.injEq] at h
        obtain ⟨q1, q2⟩ := h; subst q1; subst q2
        cases draw with
        | true =>
          simp only [Bool.not_true, Bool.false_or] at ck2
          exact region_draw_ok hng hmix hcall hops ck2 S A hg h1 hQ
        | false =>
          refine wp_region ?_
          have := opsA_ok (P := P) hng hcall hops (Q := Q) ops.toList 0 (fun j => by simp) S A hg h1 hQ
          rw [List.range_eq_range']
          simpa using this
      · simp at h
    | scope _ => simp [codeA_succ, stepC, stepK] at h
    | goto _ => simp [codeA_succ, stepC, stepK] at h
    | rangeFunc _ _ _ _ => simp [codeA_succ, stepC, stepK] at h
    | refuse _ => simp [codeA_succ, stepC, stepK] at h
  termination_by n c => n

end

end Go.Proofs.YtkjbbbjebidniaaGreatDoor
/- A run of closed code reckoned over a heap of its own: calls. -/

namespace Go.Proofs.YtkjbbbjebidniaaGreatDoor
open Go
set_option linter.unusedSimpArgs false
set_option linter.unusedVariables false

section
variable {P : Program}

theorem putArgs_get : ∀ (l : List Value) (i : Nat) (t : Tb Value) (j : Nat), i + l.length ≤ 1000000 → (putArgs i l t).get j = if i ≤ j ∧ j < i + l.length then l[j - i]? else t.get j
  | [], i, t, j, h => by simp [putArgs]; intro h1 h2; omega
  | v :: l, i, t, j, h => by
    simp only [List.length_cons] at h
    have ih := putArgs_get l (i + 1) (t.set 32 i v) j (by omega)
    have hg := Tb.get_set 32 t i v j (by have : (2 : Nat) ^ 32 = 4294967296 := (by decide); omega)
    simp only [putArgs, ih, hg, List.length_cons]
    rcases Nat.lt_trichotomy j i with h1 | h1 | h1
    · rw [if_neg (by omega), if_neg (by omega), if_neg (by omega)]
    · subst h1
      rw [if_neg (by omega), if_pos rfl, if_pos (by omega)]
      simp
    · by_cases h2 : j < i + (l.length + 1)
      · rw [if_pos (by omega), if_pos (by omega)]
        rw [show j - i = (j - (i + 1)) + 1 by omega]
        simp
      · rw [if_neg (by omega), if_neg (by omega), if_neg (by omega)]

theorem enter_AR {ρ : Rho} {args args' : Array Value} {n : Nat} {w : AW} (hv : VRs ρ args.toList args'.toList) (h1 : args.size ≤ 1000) (h2 : args.size ≤ n) :
    AR ρ n { tmps := putArgs 0 args.toList .nil, w := w } { tmps := args' ++ Array.replicate (n - args'.size) undef, defers := [] } := by
  have hl : args.size = args'.size := by have := hv.length; simpa using this
  refine ⟨fun t => ?_, by simp; omega, rfl⟩
  have hg := putArgs_get args.toList 0 .nil t (by simp; omega)
  simp only [hg, Nat.zero_le, true_and, Nat.zero_add, Array.length_toList, Nat.sub_zero, Tb.get_nil]
  by_cases ht : t < args.size
  · rw [if_pos ht]
    have h3 : args.toList[t]? = some args[t] := by simp [ht]
    obtain ⟨u, h4, h5⟩ := hv.get h3
    have h4 : args'[t]? = some u := by simpa using h4
    rw [h3]
    simp only [Option.getD_some, Array.getD_eq_getD_getElem?]
    rw [Array.getElem?_append_left (by omega), h4]
    exact h5
  · rw [if_neg ht]
    simp only [Option.getD_none, Array.getD_eq_getD_getElem?]
    rw [Array.getElem?_append_right (by omega), Array.getElem?_replicate]
    split <;> exact undef_refl

/-- One result, as it is read. -/
def resS (a : Act) : ResultVar → Sem Value
  | .tmp t => pure (a.tmps.getD t undef)
  | .cell ad t => do loadVar t (← asAddr (a.tmps.getD ad undef))

/-- One result. -/
theorem resultA_ok {ρ : Rho} {n : Nat} {s : AS} {a : Act} {w : World} (S : Sat P ρ s.w w) (A : AR ρ n s a) {r : ResultVar} {v : Value} (h : resultA P s r = .ok v) :
    ∃ v', VR ρ v v' ∧ (resS a r).run P w = .ok v' w := by
  cases r with
  | tmp t =>
    simp only [resultA, Except.ok.injEq] at h; subst h
    exact ⟨_, A.tmps t, rfl⟩
  | cell ad t =>
    simp only [resultA] at h
    have hv := A.tmps ad
    split at h
    · rename_i x hx
      rw [hx] at hv
      generalize hay : a.tmps.getD ad undef = ay at hv
      split at h
      · rename_i v0 hl
        simp only [Except.ok.injEq] at h; subst h
        cases hv with
        | ptr hb =>
          obtain ⟨u, h1, h2⟩ := load_ok S hb hl
          exact ⟨u, h1, by simp only [resS, Sem.run_bind, hay, asAddr, Sem.run_pure, Result.andThen_ok, h2]⟩
      · simp at h
    · simp at h

theorem resultsA_ok {ρ : Rho} {n : Nat} {s : AS} {a : Act} {w : World} (S : Sat P ρ s.w w) (A : AR ρ n s a) : ∀ {l : List ResultVar} {vs : List Value}, resultsA P s l = .ok vs →
    ∃ vs', VRs ρ vs vs' ∧ (l.mapM (resS a)).run P w = .ok vs' w
  | [], vs, h => by
    simp only [resultsA, Except.ok.injEq] at h; subst h
    exact ⟨[], .nil, rfl⟩
  | r :: l, vs, h => by
    simp only [resultsA] at h
    split at h
    · rename_i v hv
      split at h
      · rename_i vs0 hvs
        simp only [Except.ok.injEq] at h; subst h
        obtain ⟨v', h1, h2⟩ := resultA_ok S A hv
        obtain ⟨vs', h3, h4⟩ := resultsA_ok S A hvs
        refine ⟨v' :: vs', .cons h1 h3, ?_⟩
        rw [List.mapM_cons]
        simp only [Sem.run_bind, h2, Result.andThen_ok, h4, Sem.run_pure]
      · simp at h
    · simp at h

theorem results_ok {ρ : Rho} {n : Nat} {s : AS} {a : Act} {w : World} (S : Sat P ρ s.w w) (A : AR ρ n s a) {fn : Func} {vs : List Value} (h : resultsA P s fn.results.toList = .ok vs) :
    ∃ v', VR ρ (match vs with | [v] => v | vs => .tuple ⟨vs⟩) v' ∧ (results fn a.tmps).run P w = .ok v' w := by
  obtain ⟨vs', h1, h2⟩ := resultsA_ok S A h
  have hr : (fn.results.mapM (resS a)).run P w = .ok ⟨vs'⟩ w := by
    rw [Array.mapM_eq_mapM_toList]
    simp only [Sem.run_map, h2, Result.andThen_ok]
  have he : results fn a.tmps = (fn.results.mapM (resS a) >>= fun vs => pure (if h : vs.size = 1 then vs[0] else .tuple vs)) := by
    unfold results
    congr 1
  have hres : (results fn a.tmps).run P w = .ok (if h : (⟨vs'⟩ : Array Value).size = 1 then (⟨vs'⟩ : Array Value)[0] else .tuple ⟨vs'⟩) w := by
    rw [he, Sem.run_bind, hr]
    rfl
  cases h1 with
  | nil => exact ⟨_, .tuple .nil, hres⟩
  | cons hx hs =>
    cases hs with
    | nil => exact ⟨_, hx, hres⟩
    | cons hy ht => exact ⟨_, .tuple (.cons hx (.cons hy ht)), hres⟩

/-- strings.Join, as it is reckoned. -/
def JoinOk (P : Program) (jn : FuncId) : Prop :=
  ∀ (args : Array Value) wa v wa', joinA args wa = .ok (v, wa') → ∀ ρ w (args' : Array Value), Sat P ρ wa w → VRs ρ args.toList args'.toList →
    Calls P jn args' w (fun e w' => ∃ ρ' v', e = .returned v' ∧ VR ρ' v v' ∧ Sat P ρ' wa' w' ∧ Mv ρ ρ' wa wa' w w')

theorem allOk_spec {gs : List Nat} {mask : Nat} (h : allOk gs P mask = true) {f : FuncId} {fn : Func} {c : Code} (hm : okFn mask f = true) (hf : P.funcs[f]? = some fn) (hb : fn.body = some c) : fn.ntmps ≤ 1000000 ∧ codeOk gs fn.ntmps c = true := by
  have hlt := (Array.getElem?_eq_some_iff.1 hf).1
  have := List.all_eq_true.1 h f (List.mem_range.2 hlt)
  simp only [hm, Bool.not_true, Bool.false_or, hf, hb, Bool.and_eq_true] at this
  exact ⟨Nat.le_of_ble_eq_true this.1, this.2⟩

theorem callA_ok {gs : List Nat} {mask : Nat} {jn : FuncId} (hng : NoCount P) (hmix : P.follows .mixedOrders = true) (hj : JoinOk P jn) (hall : allOk gs P mask = true) : ∀ d, CallOk gs P (callA mask jn P d)
  | 0 => fun f args wa v wa' h => by simp [callA] at h
  | d + 1 => fun f args wa v wa' h ρ w args' S hg hv => by
    simp only [callA] at h
    cases hjf : Nat.beq f jn with
    | true =>
      rw [hjf] at h; simp only [cond_true] at h
      have := Nat.eq_of_beq_eq_true hjf
      subst this
      exact hj args wa v wa' h ρ w args' S hv
    | false =>
      rw [hjf] at h; simp only [cond_false] at h
      cases hmf : okFn mask f with
      | false => rw [hmf] at h; simp at h
      | true =>
      rw [hmf] at h; simp only [cond_true] at h
      split at h
      · simp at h
      rename_i fn hfn
      split at h
      · simp at h
      rename_i c hbody
      obtain ⟨hnt, hck⟩ := allOk_spec hall hmf hfn hbody
      cases hc : (Nat.ble args.size 1000 && Nat.ble args.size fn.ntmps) with
      | false => rw [hc] at h; simp at h
      | true =>
        rw [hc] at h; simp only [cond_true] at h
        simp only [Bool.and_eq_true] at hc
        have A := enter_AR (w := wa) hv (Nat.le_of_ble_eq_true hc.1) (Nat.le_of_ble_eq_true hc.2)
        refine calls_of_wp hfn hbody ?_
        have post : ∀ {s : AS}, (match resultsA P s fn.results.toList with
            | .ok [v] => .ok (v, s.w)
            | .ok vs => .ok (.tuple vs.toArray, s.w)
            | .error e => .error (f :: e) : Rs (Value × AW)) = .ok (v, wa') → ∀ {ρ' : Rho} {a' : Act} {w' : World}, AR ρ' fn.ntmps s a' → Sat P ρ' s.w w' → Mv ρ ρ' wa s.w w w' →
            a'.defers = [] ∧ ∃ v', (results fn a'.tmps).run P w' = .ok v' w' ∧ (∃ ρ' v'', Ending.returned v' = .returned v'' ∧ VR ρ' v v'' ∧ Sat P ρ' wa' w' ∧ Mv ρ ρ' wa wa' w w') := by
          intro s hres ρ' a' w' A' S' M'
          split at hres
          · rename_i v0 hvs
            simp only [Except.ok.injEq, Prod.mk.injEq] at hres
            obtain ⟨q1, q2⟩ := hres; subst q1; subst q2
            obtain ⟨v', r1, r2⟩ := results_ok S' A' hvs
            exact ⟨A'.defers, v', r2, ρ', v', rfl, r1, S', M'⟩
          · rename_i vs hne hvs
            simp only [Except.ok.injEq, Prod.mk.injEq] at hres
            obtain ⟨q1, q2⟩ := hres; subst q1; subst q2
            obtain ⟨v', r1, r2⟩ := results_ok S' A' hvs
            refine ⟨A'.defers, v', r2, ρ', v', rfl, ?_, S', M'⟩
            cases vs with
            | nil => exact r1
            | cons x xs =>
              cases xs with
              | nil => exact (hne _ rfl).elim
              | cons y ys => exact r1
          · simp at hres
        split at h
        · simp at h
        · rename_i x s hne hcode
          refine codeA_ok hng hmix (callA_ok hng hmix hj hall d) hnt 100000 c (s := { tmps := putArgs 0 args.toList .nil, w := wa }) hck S A hg hcode _ fun ρ' a' w' A' S' M' => ?_
          have p := post h A' S' M'
          cases x with
          | exit id => exact (hne _ rfl).elim
          | normal => exact p
          | ret => exact p
        · simp at h

end

end Go.Proofs.YtkjbbbjebidniaaGreatDoor
