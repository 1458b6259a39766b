/- Regions whose order is drawn, once more: slice expressions may float (their value is reckoned over the heap that the region begins with). Printed by mkF.py out of VC .. VH. -/
import Derived.Test.YtkjbbbjebidniaaGreatDoorM3
namespace Go.Proofs.YtkjbbbjebidniaaGreatDoor
open Go
set_option linter.unusedSimpArgs false
set_option linter.unusedVariables false

section
variable {P : Program}
/-- A slice expression, whatever the world. -/
theorem slice_any {ρ : Rho} {e e' : Operand → Value} {wa : AW} {w : World} (S : Sat P ρ wa w) {t : TypeId} {x : Operand} {lo hi : Option Operand} {v : Value}
    (hx : VR ρ (e x) (e' x)) (hl : ∀ x, lo = some x → VR ρ (e x) (e' x)) (hh : ∀ x, hi = some x → VR ρ (e x) (e' x))
    (h : sliceC P e t x lo hi none wa = some v) : ∃ v', (∀ w2, (Instr.sliceAt t (e' x) (lo.map e') (hi.map e') ((none : Option Operand).map e')).run P w2 = .ok v' w2) ∧ VR ρ v v' := by
  obtain ⟨v', r0, hv⟩ := slice_ok S hx hl hh (mx := none) (fun x hx => by cases hx) h
  refine ⟨v', fun w2 => ?_, hv⟩
  unfold sliceC at h
  split at h
  case h_2 => cases h
  rename_i elem a len cap hu hex
  rw [hex] at hx
  split at h
  case h_2 => cases h
  rename_i i m hi' hm'
  have key : ∀ hv : Nat, boundA e m len hi = some hv → ∀ l, boundA e hv 0 lo = some l → (Instr.sliceAt t (e' x) (lo.map e') (hi.map e') ((none : Option Operand).map e')).run P w2 = .ok v' w2 := by
    intro hv hhv l hlo
    obtain ⟨a', c', hx2, hcap⟩ : ∃ a' c', e' x = .slice (some a') len c' ∧ cap ≤ c' := by
      generalize e' x = x' at hx
      cases hx with
      | slice hb hc => exact ⟨_, _, rfl, by unfold CapOk at hc; split at hc <;> omega⟩
      | slice0 hb hm hc => exact ⟨_, _, rfl, Nat.zero_le _⟩
      | wild hb a => exact ⟨_, _, rfl, Nat.le_refl _⟩
    have run : ∀ w2, (Instr.sliceAt t (e' x) (lo.map e') (hi.map e') ((none : Option Operand).map e')).run P w2 = .ok (.slice (some (if c' = l then a' else a'.add (l * i.size))) (hv - l) (c' - l)) w2 := by
      intro w2
      obtain ⟨m', r, q1, q2, q3, q4, q5⟩ := bounds_ok (P := P) hl hh (mx := none) (fun x hx => by cases hx) hcap hm' hhv hlo (fun _ => rfl) w2
      have hmc : m' = c' := by have := q1 rfl; omega
      subst hmc
      rw [hx2]
      simp only [Instr.sliceAt, Sem.run_bind, r_underlying hu, Result.andThen_ok, Instr.slice, r, r_sizeOf hi', Sem.run_pure]
      split <;> simp_all
    have := run w
    rw [r0] at this
    simp only [Result.ok.injEq, and_true] at this
    rw [this]
    exact run w2
  cases hi with
  | none =>
    have hb : boundA e m len none = some len := rfl
    rw [hb] at h
    simp only [Option.isSome_none, cond_false] at h
    cases hlo : boundA e len 0 lo with
    | none => rw [hlo] at h; simp [sliceC.go] at h
    | some l => exact key len rfl l hlo
  | some y =>
    cases hb : boundA e m len (some y) with
    | none => rw [hb] at h; cases h
    | some hv =>
      rw [hb] at h
      simp only at h
      cases hlo : boundA e hv 0 lo with
      | none => rw [hlo] at h; simp [sliceC.go] at h
      | some l => exact key hv hb l hlo
end

namespace Fl
def isSlOp : Op → Bool
  | .slice .. => true
  | _ => false
/-- What may come up at any time. -/
def fl (o : Oper) : Bool := memless o.op || isSlOp o.op
def SlAt (P : Program) (o : Oper) (ev : Operand → Value) (w0 : AW) (v : Value) : Prop :=
  match o.op with
  | .slice t x lo hi none => o.guard = none ∧ o.op.operands.all (fun x => flatV (ev x)) = false ∧ sliceC P ev t x lo hi none w0 = some v ∧ (∃ a n c, ev x = .slice (some a) n c ∧ a.block < w0.size) ∧ (∀ y, lo = some y → ∃ k i, ev y = .int k i) ∧ ∀ y, hi = some y → ∃ k i, ev y = .int k i
  | .slice _ _ _ _ (some _) => False
  | _ => True

/-- An operation whose place every other one knows. -/
def solo (ops : Array Oper) (i : Nat) : Bool :=
  let ps := predsOf ops
  allIdx ops.size fun k => Nat.beq k i || (ps.getD i []).contains k || (ps.getD k []).contains i || ((ops[k]?).map fun o => fl o).getD false


theorem solo_spec {ops : Array Oper} {i : Nat} (h : solo ops i = true) : ∀ k o, ops[k]? = some o → k ≠ i → fl o = false → Bef ops k i ∨ Bef ops i k := by
  intro k o ho hk hm
  have := allIdx_spec h k (Array.getElem?_eq_some_iff.1 ho).1
  have hki : Nat.beq k i = false := by rw [Bool.eq_false_iff]; intro e; exact hk (Nat.eq_of_beq_eq_true e)
  simp only [hki, Bool.false_or, ho, Option.map_some, Option.getD_some, hm, Bool.or_false, Bool.or_eq_true] at this
  rcases this with h2 | h2
  · exact .inl (preds_bef (by simpa using h2))
  · exact .inr (preds_bef (by simpa using h2))


structure Trace (P : Program) (call : CallA) (ops : Array Oper) (st : Nat → AS) (val : Nat → Value) (ww : Nat → AW) (i : Nat) : Prop where
  step : ∀ k o, i ≤ k → ops[k]? = some o → resA P call ops o (st k).reset = .ok (val k, ww k) ∧
    (∃ s1, AS.put { (st k).reset with w := ww k } o.dst (val k) = .ok s1 ∧ st (k + 1) = s1.lower (st k).w.low) ∧ ((st k).w.size ≤ (ww k).low ∨ solo ops k = true)


section
variable {P : Program}
theorem canon {gs : List Nat} {n : Nat} {call : CallA} (hng : NoCount P) (hcall : CallOk gs P call) {ops : Array Oper} (hops : OpsOk gs n ops) {st : Nat → AS} {val : Nat → Value} {ww : Nat → AW} (T : Trace P call ops st val ww 0)
    {ρ0 : Rho} {a0 : Act} {w0 : World} (S : Sat P ρ0 (st 0).w w0) (A : AR ρ0 n (st 0) a0) (hglob : ∀ g ∈ gs, ρ0 g = some ⟨g, none⟩) :
    ∀ k, k ≤ ops.size → (∃ ρ a w, AR ρ n (st k) a ∧ Sat P ρ (st k).w w ∧ Mv ρ0 ρ (st 0).w (st k).w w0 w) ∧ ∀ j, j < k → SF st ww j
  | 0, _ => ⟨⟨ρ0, a0, w0, A, S, Mv.refl _ _ _⟩, fun j hj => by omega⟩
  | k + 1, hk => by
    obtain ⟨⟨ρ, a, w, A1, S1, M1⟩, F⟩ := canon hng hcall hops T S A hglob k (by omega)
    have ho : ops[k]? = some ops[k] := by simp
    obtain ⟨hres, ⟨s1, hput, hst⟩, _⟩ := T.step k _ (Nat.zero_le _) ho
    have hp := put_w hput
    have A2 : AR ρ n (st k).reset a := ⟨A1.tmps, A1.size, A1.defers⟩
    have S2 : Sat P ρ (st k).reset.w w := S1.low rfl rfl
    have hg1 : ∀ g ∈ gs, ρ g = some ⟨g, none⟩ := fun g hg => M1.ext _ _ (hglob g hg)
    have hw : (st (k + 1)).w.heap = (ww k).heap ∧ (st (k + 1)).w.size = (ww k).size ∧ (st (k + 1)).w.low ≤ (st k).w.low ∧ (st (k + 1)).w.low ≤ (ww k).low := by
      rw [hst]
      refine ⟨by rw [show (s1.lower (st k).w.low).w.heap = s1.w.heap from rfl, hp], by rw [show (s1.lower (st k).w.low).w.size = s1.w.size from rfl, hp], ?_⟩
      have e : (s1.lower (st k).w.low).w.low = (bif Nat.ble (st k).w.low s1.w.low then (st k).w.low else s1.w.low) := rfl
      rw [e, hp]
      show (bif Nat.ble (st k).w.low (ww k).low then (st k).w.low else (ww k).low) ≤ (st k).w.low ∧ (bif Nat.ble (st k).w.low (ww k).low then (st k).w.low else (ww k).low) ≤ (ww k).low
      cases hb : Nat.ble (st k).w.low (ww k).low with
      | true => have := Nat.le_of_ble_eq_true hb; simp only [cond_true]; omega
      | false =>
        have : ¬ (st k).w.low ≤ (ww k).low := fun hh => by rw [Nat.ble_eq_true_of_le hh] at hb; cases hb
        simp only [cond_false]; omega
    have hex := wpOp_exists (P := P) (K := fun a' w' => ∃ ρ', AR ρ' n (st (k + 1)) a' ∧ Sat P ρ' (st (k + 1)).w w' ∧ Mv ρ ρ' (st k).reset.w (ww k) w w')
      (resA_ok hng hcall ho S2 hg1 (A2.reads hg1 (hops.known ho)) (A2.wanted _) hres fun ρ' v' w' hv hs hm => by
        have A' : AR ρ' n { (st k).reset with w := ww k } a := ⟨fun t => (A2.tmps t).mono hm.ext, A2.size, A2.defers⟩
        have A3 := A'.put hops.1 (hops.dst ho) hput hv
        refine ⟨ρ', ?_, hs.low hw.1 hw.2.1, hm⟩
        rw [hst]
        exact ⟨A3.tmps, A3.size, A3.defers⟩)
    obtain ⟨a', w', ρ', A3, S3, M3⟩ := hex
    have M4 : Mv ρ ρ' (st k).w (st (k + 1)).w w w' := M3.relow rfl rfl hw.1 hw.2.1 hw.2.2.1 hw.2.2.2
    refine ⟨⟨ρ', a', w', A3, S3, M1.trans S M4⟩, fun j hj => ?_⟩
    by_cases e : j = k
    · subst e
      exact ⟨M4.size, fun hl i hi => by rw [hw.1]; exact M3.same i hi (Nat.lt_of_lt_of_le hi hl), hw.2.2.1, hw.2.2.2, hw.1, hw.2.1⟩
    · exact F j (by omega)

end

section
variable {P : Program}
/-- What holds between a region's operations. 'lo', 'hi': the stretch between two operations that write. -/
structure DI (P : Program) (ops : Array Oper) (st : Nat → AS) (val : Nat → Value) (ww : Nat → AW) (ρ0 : Rho) (w0 : World) (n0 : Nat) (L : Array Bool) (lo hi : Nat) (ρ : Rho) (a : Act) (w : World) : Prop where
  closed : ∀ j o, L.getD j false = true → ops[j]? = some o → ∀ e ∈ o.after, Region.binds .any e = true → L.getD e.on false = true
  seg : lo ≤ hi ∧ hi ≤ ops.size
  mono : ∀ k, lo ≤ k → k < hi → (st k).w.size ≤ (ww k).low
  wr : hi < ops.size → ¬ (st hi).w.size ≤ (ww hi).low
  below : ∀ j o, j < lo → ops[j]? = some o → fl o = false → L.getD j false = true
  above : ∀ j o, hi ≤ j → ops[j]? = some o → fl o = false → L.getD j false = false
  dom : ∀ i img, ρ i = some img → i < (st lo).w.size ∨ ∃ j, lo ≤ j ∧ j < hi ∧ L.getD j false = true ∧ (st j).w.size ≤ i ∧ i < (st (j + 1)).w.size
  dom2 : ∀ j, j < ops.size → L.getD j false = true → ∀ i, (st j).w.size ≤ i → i < (st (j + 1)).w.size → ∃ img, ρ i = some img
  le : Le ρ0 ρ
  sat : Sat P ρ (st hi).w w
  tm1 : ∀ t k o, ops[k]? = some o → o.dst = some t → L.getD k false = true → VR ρ (val k) (a.tmps.getD t undef)
  tm2 : ∀ t, (∀ k o, ops[k]? = some o → o.dst = some t → L.getD k false = false) → VR ρ (((st 0).tmps.get t).getD undef) (a.tmps.getD t undef)
  size : a.tmps.size = n0
  defers : a.defers = []
  mnew : ∀ i img, ρ0 i = none → ρ i = some img → (st 0).w.size ≤ i ∧ (w0.heap.size ≤ img.blk ∨ ∃ j jm, ρ0 j = some jm ∧ jm.blk = img.blk ∧ (st 0).w.heap.get j ≠ some .dead ∧ ¬ Ro (st 0).w j ∧ (st hi).w.low ≤ j)
  mframe : ∀ b, b < w0.heap.size → (∀ i img, ρ0 i = some img → img.blk = b → (st 0).w.heap.get i ≠ some .dead → Ro (st 0).w i ∨ i < (st hi).w.low) → w.heap[b]? = w0.heap[b]?
  wsize : w0.heap.size ≤ w.heap.size
  os : w.os = w0.os
  tape : w.tape = w0.tape
  output : w.output = w0.output

/-- What the reckoned slots hold before step j. -/
theorem st_tmps {gs : List Nat} {n : Nat} {call : CallA} {ops : Array Oper} {st : Nat → AS} {val : Nat → Value} {ww : Nat → AW} (hops : OpsOk gs n ops) (T : Trace P call ops st val ww 0) (D : Drawn ops) (t : Nat) : ∀ j, j ≤ ops.size →
    (∀ k o, k < j → ops[k]? = some o → o.dst = some t → ((st j).tmps.get t).getD undef = val k) ∧
    ((∀ k o, k < j → ops[k]? = some o → o.dst ≠ some t) → ((st j).tmps.get t).getD undef = ((st 0).tmps.get t).getD undef)
  | 0, _ => ⟨fun k o hk => by omega, fun _ => rfl⟩
  | j + 1, hj => by
    obtain ⟨i1, i2⟩ := st_tmps hops T D t j (by omega)
    have ho : ops[j]? = some ops[j] := by simp
    obtain ⟨_, ⟨s1, hput, hst⟩, _⟩ := T.step j _ (Nat.zero_le _) ho
    obtain ⟨p1, p3⟩ := put_spec hput hops.1 (hops.dst ho)
    have hget : ((st (j + 1)).tmps.get t).getD undef = if ops[j].dst = some t then val j else ((st j).tmps.get t).getD undef := by
      rw [hst]; exact p3 t
    refine ⟨fun k o hk hok hd => ?_, fun hno => ?_⟩
    · rw [hget]
      by_cases e : k = j
      · subst e; rw [ho] at hok; cases hok; rw [if_pos hd]
      · have : ops[j].dst ≠ some t := D.dst j _ k t ho e (by rw [hok]; exact hd)
        rw [if_neg this]; exact i1 k o (by omega) hok hd
    · rw [hget, if_neg (hno j _ (by omega) ho)]
      exact i2 fun k o hk hok => hno k o (by omega) hok

end

section
variable {P : Program} {gs : List Nat} {call : CallA} {ops : Array Oper} {st : Nat → AS} {val : Nat → Value} {ww : Nat → AW} {ρ0 ρ : Rho} {w0 w : World} {n0 lo hi : Nat} {L : Array Bool} {a : Act}

/-- The slots that an operation looks at hold what they hold in the text's order. -/
theorem DI.looks (hops : OpsOk gs n0 ops) (T : Trace P call ops st val ww 0) (D : Drawn ops) (I : DI P ops st val ww ρ0 w0 n0 L lo hi ρ a w) {j : Nat} {o : Oper} (ho : ops[j]? = some o) (hready : j ∈ Region.ready .any ops L) {t : Tmp} (ht : t ∈ o.looksAt ops) :
    VR ρ (((st j).tmps.get t).getD undef) (a.tmps.getD t undef) := by
  obtain ⟨hnl, o2, ho2, hdeps⟩ := mem_ready.1 hready
  rw [ho] at ho2; cases ho2
  have hjlt := (Array.getElem?_eq_some_iff.1 ho).1
  obtain ⟨c1, c2⟩ := st_tmps hops T D t j (Nat.le_of_lt hjlt)
  have hnlf : L.getD j false = false := by
    simp only [Array.getD_eq_getD_getElem?] at hnl ⊢
    cases hq : L[j]? with
    | none => rfl
    | some b => rw [hq] at hnl; simpa using hnl
  by_cases hown : ∃ (k : Nat) (o' : Oper), ops[k]? = some o' ∧ o'.dst = some t
  · obtain ⟨k, o', hk, hd⟩ := hown
    have uniq : ∀ (k' : Nat) (o'' : Oper), ops[k']? = some o'' → o''.dst = some t → k' = k := fun k' o'' h1 h2 => by
      by_cases e : k' = k
      · exact e
      · exact absurd h2 (D.dst k' o'' k t h1 (Ne.symm e) (by rw [hk]; exact hd))
    by_cases e : k = j
    · subst e
      rw [c2 fun k' o'' hlt h1 h2 => by have := uniq k' o'' h1 h2; omega]
      exact I.tm2 t fun k' o'' h1 h2 => by rw [uniq k' o'' h1 h2]; exact hnlf
    · rcases D.looks j o k t ho e (by rw [hk]; exact hd) ht with hb | hb
      · have hlk := hb.listed I.closed fun o3 ho3 e3 he3 hb3 => by rw [ho] at ho3; cases ho3; exact hdeps e3 he3 hb3
        rw [c1 k o' (hb.lt D) hk hd]
        exact I.tm1 t k o' hk hd hlk
      · have hlk : L.getD k false = false := by
          cases hq : L.getD k false with
          | false => rfl
          | true =>
            have := hb.listed I.closed fun o3 ho3 => I.closed k o3 hq ho3
            rw [hnlf] at this; cases this
        have hjk := hb.lt D
        rw [c2 fun k' o'' hlt h1 h2 => by have := uniq k' o'' h1 h2; omega]
        exact I.tm2 t fun k' o'' h1 h2 => by rw [uniq k' o'' h1 h2]; exact hlk
  · rw [c2 fun k' o'' hlt h1 h2 => hown ⟨k', o'', h1, h2⟩]
    exact I.tm2 t fun k' o'' h1 h2 => absurd ⟨k', o'', h1, h2⟩ hown


/-- The slots behind a step. -/
theorem DI.slots (hops : OpsOk gs n0 ops) (T : Trace P call ops st val ww 0) (D : Drawn ops) (I : DI P ops st val ww ρ0 w0 n0 L lo hi ρ a w) {j : Nat} {o : Oper} (ho : ops[j]? = some o) (hL : L.size = ops.size)
    {ρ' : Rho} (hle : Le ρ ρ') {v' : Value} (hv : VR ρ' (val j) v') :
    (∀ t k o', ops[k]? = some o' → o'.dst = some t → (L.setIfInBounds j true).getD k false = true → VR ρ' (val k) ((a.put o.dst v').tmps.getD t undef)) ∧
    (∀ t, (∀ k o', ops[k]? = some o' → o'.dst = some t → (L.setIfInBounds j true).getD k false = false) → VR ρ' (((st 0).tmps.get t).getD undef) ((a.put o.dst v').tmps.getD t undef)) ∧
    (a.put o.dst v').tmps.size = n0 ∧ (a.put o.dst v').defers = [] := by
  have hjlt := (Array.getElem?_eq_some_iff.1 ho).1
  have hlt : ∀ t, o.dst = some t → t < a.tmps.size := fun t ht => by rw [I.size]; exact hops.dst ho t ht
  have hget := fun t => act_put_get a o.dst v' t hlt
  refine ⟨fun t k o' hk hd hl => ?_, fun t hno => ?_, by rw [act_put_size]; exact I.size, by rw [act_put_defers]; exact I.defers⟩
  · rw [hget]
    rw [setL (by omega)] at hl
    by_cases e : o.dst = some t
    · rw [if_pos e]
      by_cases ek : k = j
      · subst ek; exact hv
      · exact absurd e (D.dst j o k t ho ek (by rw [hk]; exact hd))
    · rw [if_neg e]
      have ek : k ≠ j := fun h => by subst h; rw [ho] at hk; cases hk; exact e hd
      rw [if_neg ek] at hl
      exact (I.tm1 t k o' hk hd hl).mono hle
  · have e : o.dst ≠ some t := fun h => by
      have := hno j o ho h
      rw [setL (by omega), if_pos rfl] at this; cases this
    rw [hget, if_neg e]
    refine (I.tm2 t fun k o' hk hd => ?_).mono hle
    have := hno k o' hk hd
    rw [setL (by omega)] at this
    split at this
    · cases this
    · exact this

theorem closed_set (I : DI P ops st val ww ρ0 w0 n0 L lo hi ρ a w) {j : Nat} (hready : j ∈ Region.ready .any ops L) (hL : L.size = ops.size) :
    ∀ i o, (L.setIfInBounds j true).getD i false = true → ops[i]? = some o → ∀ e ∈ o.after, Region.binds .any e = true → (L.setIfInBounds j true).getD e.on false = true := by
  obtain ⟨hnl, o2, ho2, hdeps⟩ := mem_ready.1 hready
  have hjlt := (Array.getElem?_eq_some_iff.1 ho2).1
  intro i o hi ho e he hb
  rw [setL (by omega)] at hi ⊢
  split
  · rfl
  · split at hi
    · rename_i e1; subst e1; rw [ho] at ho2; cases ho2; exact hdeps e he hb
    · exact I.closed i o hi ho e he hb

theorem listed_set {j i : Nat} (hj : j < L.size) (h : L.getD i false = true) : (L.setIfInBounds j true).getD i false = true := by rw [setL hj]; split <;> simp_all

end



/-- What floats comes to the same at any time. -/
def Float (P : Program) (ops : Array Oper) (st : Nat → AS) (val : Nat → Value) (ww : Nat → AW) (ρ0 : Rho) (o : Oper) (j : Nat) : Prop :=
  ww j = (st j).reset.w ∧ ∀ {ρ : Rho} {a : Act}, Le ρ0 ρ → (∀ b img, b < (st 0).w.size → ρ b = some img → ρ0 b = some img) → (∀ x ∈ o.op.operands, VR ρ ((st j).reset.eval x) (a.eval x)) →
    Region.wanted o (yieldedA ops (st j).reset) = Region.wanted o (yielded ops a.tmps) → ∀ {Q : Exit → Act → World → Prop} {K : Act → World → Prop} (w : World), (∀ v', VR ρ (val j) v' → K (a.put o.dst v') w) → wpOp P ops Q j K a w

section
variable {P : Program} {gs : List Nat} {call : CallA} {ops : Array Oper} {st : Nat → AS} {val : Nat → Value} {ww : Nat → AW} {ρ0 ρ : Rho} {w0 w : World} {n0 lo hi : Nat} {L : Array Bool} {a : Act}

theorem DI.step (hng : NoCount P) (hcall : CallOk gs P call) (hops : OpsOk gs n0 ops) (T : Trace P call ops st val ww 0) (D : Drawn ops) {a0 : Act} (S0 : Sat P ρ0 (st 0).w w0) (A0 : AR ρ0 n0 (st 0) a0) (HF : ∀ j o, ops[j]? = some o → fl o = true → Float P ops st val ww ρ0 o j) (hglob : ∀ g ∈ gs, ρ0 g = some ⟨g, none⟩)
    (hL : L.size = ops.size) (I : DI P ops st val ww ρ0 w0 n0 L lo hi ρ a w) {j : Nat} (hready : j ∈ Region.ready .any ops L) {Q : Exit → Act → World → Prop} :
    wpOp P ops Q j (fun a' w' => ∃ lo hi ρ', DI P ops st val ww ρ0 w0 n0 (L.setIfInBounds j true) lo hi ρ' a' w') a w := by
  obtain ⟨hnl, o, ho, hdeps⟩ := mem_ready.1 hready
  have hjlt := (Array.getElem?_eq_some_iff.1 ho).1
  have hjL : j < L.size := by omega
  have hnlf : L.getD j false = false := by
    simp only [Array.getD_eq_getD_getElem?] at hnl ⊢
    cases hq : L[j]? with
    | none => rfl
    | some b => rw [hq] at hnl; simpa using hnl
  obtain ⟨hseg1, hseg2⟩ := I.seg
  have C := fun k hk => canon hng hcall hops T S0 A0 hglob k hk
  have F := (C ops.size (Nat.le_refl _)).2
  obtain ⟨⟨ρc, ac, wc, Ac, Sc, Mc⟩, _⟩ := C j (Nat.le_of_lt hjlt)
  obtain ⟨hres, hput, hsolo⟩ := T.step j o (Nat.zero_le _) ho
  have hlooks : ∀ t, t ∈ o.looksAt ops → VR ρ (((st j).tmps.get t).getD undef) (a.tmps.getD t undef) := fun t ht => I.looks hops T D ho hready ht
  have hcl := closed_set I hready hL
  cases hmem : fl o with
  | true =>
    -- no memory is touched
    have hg1 : ∀ g ∈ gs, ρ g = some ⟨g, none⟩ := fun g hg => I.le _ _ (hglob g hg)
    have hr : ∀ x ∈ o.op.operands, VR ρ ((st j).reset.eval x) (a.eval x) := fun x hx => eval_ok hg1 (hops.known ho x hx) fun t ht => hlooks t (looks_op (by subst ht; exact hx))
    have hw : Region.wanted o (yieldedA ops (st j).reset) = Region.wanted o (yielded ops a.tmps) := wanted_eq fun g b hgd => yielded_eq fun t ht => hlooks t (looks_guard hgd ht)
    have hnew : ∀ b img, b < (st 0).w.size → ρ b = some img → ρ0 b = some img := fun b img hb h => by
      cases hq : ρ0 b with
      | none => have := (I.mnew b img hq h).1; omega
      | some im => have := I.le _ _ hq; rw [h] at this; cases this; rfl
    obtain ⟨hwj, hrun0⟩ := HF j o ho hmem
    have hrun := fun {Q : Exit → Act → World → Prop} {K : Act → World → Prop} (w : World) (hK : ∀ v', VR ρ (val j) v' → K (a.put o.dst v') w) => hrun0 I.le hnew hr hw (Q := Q) w hK
    refine hrun w fun v' hv => ⟨lo, hi, ρ, ?_⟩
    obtain ⟨t1, t2, t3, t4⟩ := I.slots hops T D ho hL (Le.refl ρ) hv
    have hsz : (st (j + 1)).w.size = (st j).w.size := by rw [(F j hjlt).wsize, hwj]; rfl
    refine ⟨hcl, I.seg, I.mono, I.wr, ?_, ?_, ?_, ?_, I.le, I.sat, t1, t2, t3, t4, I.mnew, I.mframe, I.wsize, I.os, I.tape, I.output⟩
    · exact fun i o' h1 h2 h3 => listed_set hjL (I.below i o' h1 h2 h3)
    · intro i o' h1 h2 h3
      rw [setL hjL, if_neg (fun e => by subst e; rw [ho] at h2; cases h2; rw [hmem] at h3; cases h3)]
      exact I.above i o' h1 h2 h3
    · intro i img hi'
      rcases I.dom i img hi' with h | ⟨k, k1, k2, k3, k4, k5⟩
      · exact .inl h
      · exact .inr ⟨k, k1, k2, listed_set hjL k3, k4, k5⟩
    · intro k hk hl i h1 h2
      rw [setL hjL] at hl
      split at hl
      · rename_i e; subst e; omega
      · exact I.dom2 k hk hl i h1 h2
  | false =>
    have hjlo : lo ≤ j := by
      rcases Nat.lt_or_ge j lo with h | h
      · have := I.below j o h ho hmem; rw [hnlf] at this; cases this
      · exact h
    -- the operation that writes knows its place
    have hwr : hi < ops.size → ∃ oh, ops[hi]? = some oh ∧ fl oh = false ∧ solo ops hi = true := by
      intro hlt
      have hoh : ops[hi]? = some ops[hi] := by simp
      obtain ⟨hres2, _, hs2⟩ := T.step hi _ (Nat.zero_le _) hoh
      have hno := I.wr hlt
      refine ⟨_, hoh, ?_, hs2.resolve_left hno⟩
      cases hq : fl ops[hi] with
      | false => rfl
      | true =>
        exfalso
        obtain ⟨⟨ρh, ah, wh, Ah, Sh, Mh⟩, _⟩ := C hi hseg2
        have hg1 : ∀ g ∈ gs, ρh g = some ⟨g, none⟩ := fun g hg => Mh.ext _ _ (hglob g hg)
        have Ah2 : AR ρh n0 (st hi).reset ah := ⟨Ah.tmps, Ah.size, Ah.defers⟩
        obtain ⟨hwj, _⟩ := HF hi _ hoh hq
        apply hno
        rw [hwj]
        exact Nat.le_refl _
    have hjhi : j ≤ hi := by
      rcases Nat.lt_or_ge hi j with h | h
      · exfalso
        obtain ⟨oh, q1, q2, q3⟩ := hwr (by omega)
        rcases solo_spec q3 j o ho (by omega) hmem with hb | hb
        · have := hb.lt D; omega
        · have := hb.listed I.closed fun o3 ho3 e3 he3 hb3 => by rw [ho] at ho3; cases ho3; exact hdeps e3 he3 hb3
          rw [I.above hi oh (Nat.le_refl _) q1 q2] at this; cases this
      · exact h
    rcases Nat.lt_or_ge j hi with hlt | hge
    · -- a stretch without writes
      have hm := I.mono j hjlo hlt
      have hszlo : (st lo).w.size ≤ (st j).w.size := size_mono' F hjlo (by omega)
      have hsz1 : (st (j + 1)).w.size ≤ (st hi).w.size := size_mono' F (by omega) hseg2
      have hsz0 : (st j).w.size ≤ (st (j + 1)).w.size := (F j hjlt).size
      have hsame : ∀ i, i < (st j).w.size → (st hi).w.heap.get i = (st j).w.heap.get i := fun i hi' => seg_same' F (Nat.le_of_lt hlt) hseg2 (fun k k1 k2 => I.mono k (by omega) k2) hi'
      have hsame1 : ∀ i, i < (st (j + 1)).w.size → (st hi).w.heap.get i = (st (j + 1)).w.heap.get i := fun i hi' => seg_same' F (by omega) hseg2 (fun k k1 k2 => I.mono k (by omega) k2) hi'
      have hdomc : ∀ i img, ρ i = some img → i < (st j).w.size → ∃ imgc, ρc i = some imgc := by
        intro i img hi' hlt'
        rcases Nat.lt_or_ge i (st 0).w.size with h0 | h0
        · cases hq : ρ0 i with
          | some im => exact ⟨im, Mc.ext _ _ hq⟩
          | none => have := (I.mnew i img hq hi').1; omega
        · exact Mc.full i h0 hlt'
      have Sj : Sat P (ρ.cut (st j).w.size) (st j).w w := I.sat.cut Sc (by omega) hsame hdomc
      have hN : ∀ i img, ρc i = some img → i < (st j).w.size := fun i img h => (Sc.dom i img h).1
      have hg1 : ∀ g ∈ gs, ρ.cut (st j).w.size g = some ⟨g, none⟩ := fun g hg => by
        have := (S0.dom g _ (hglob g hg)).1
        rw [Rho.cut_lt (by have := size_mono' F (Nat.zero_le j) (Nat.le_of_lt hjlt); omega)]
        exact I.le _ _ (hglob g hg)
      have hlooks' : ∀ t, t ∈ o.looksAt ops → VR (ρ.cut (st j).w.size) (((st j).tmps.get t).getD undef) (a.tmps.getD t undef) := fun t ht => (hlooks t ht).cut hN (Ac.tmps t)
      have hr : ∀ x ∈ o.op.operands, VR (ρ.cut (st j).w.size) ((st j).reset.eval x) (a.eval x) := fun x hx => eval_ok hg1 (hops.known ho x hx) fun t ht => hlooks' t (looks_op (by subst ht; exact hx))
      have hw : Region.wanted o (yieldedA ops (st j).reset) = Region.wanted o (yielded ops a.tmps) := wanted_eq fun g b hgd => yielded_eq fun t ht => hlooks t (looks_guard hgd ht)
      refine resA_ok hng hcall ho (Sj.low rfl rfl : Sat P (ρ.cut (st j).w.size) (st j).reset.w w) hg1 hr hw hres fun ρ' v' w' hv S' M' => ?_
      -- names of both
      let ρ2 : Rho := fun i => match ρ' i with | some img => some img | none => ρ i
      have hwwsz : (ww j).size = (st (j + 1)).w.size := (F j hjlt).wsize.symm
      have hwwheap : (ww j).heap = (st (j + 1)).w.heap := (F j hjlt).heap.symm
      have old' : ∀ i, i < (st j).w.size → ρ' i = ρ i := by
        intro i hi'
        cases hq : ρ i with
        | some img => exact M'.ext _ _ (by rw [Rho.cut_lt hi']; exact hq)
        | none =>
          cases hq' : ρ' i with
          | none => rfl
          | some img =>
            have := (M'.new i img (by rw [Rho.cut_lt hi']; exact hq) hq').1
            have : (st j).w.size ≤ i := this
            omega
      have late : ∀ i, (st (j + 1)).w.size ≤ i → ρ' i = none := by
        intro i hi'
        cases hq' : ρ' i with
        | none => rfl
        | some img => have := (S'.dom i img hq').1; omega
      have mine : ∀ i, (st j).w.size ≤ i → i < (st (j + 1)).w.size → ρ i = none := by
        intro i h1 h2
        cases hq : ρ i with
        | none => rfl
        | some img =>
          rcases I.dom i img hq with h | ⟨k, k1, k2, k3, k4, k5⟩
          · omega
          · exfalso
            rcases Nat.lt_trichotomy k j with hk | hk | hk
            · have := size_mono' F (show k + 1 ≤ j by omega) (by omega); omega
            · subst hk; rw [hnlf] at k3; cases k3
            · have := size_mono' F (show j + 1 ≤ k by omega) (by omega); omega
      have le' : Le ρ' ρ2 := fun i img h => by show (match ρ' i with | some img => some img | none => ρ i) = some img; rw [h]
      have le2 : Le ρ ρ2 := fun i img h => by
        show (match ρ' i with | some img => some img | none => ρ i) = some img
        rcases Nat.lt_or_ge i (st j).w.size with h1 | h1
        · rw [old' i h1, h]
        · rcases Nat.lt_or_ge i (st (j + 1)).w.size with h2 | h2
          · rw [mine i h1 h2] at h; cases h
          · rw [late i h2]; exact h
      have from2 : ∀ i img, ρ2 i = some img → (ρ' i = some img ∧ i < (st (j + 1)).w.size) ∨ (ρ i = some img ∧ (st (j + 1)).w.size ≤ i) := by
        intro i img h
        have h : (match ρ' i with | some img => some img | none => ρ i) = some img := h
        cases hq : ρ' i with
        | some im => rw [hq] at h; cases h; exact .inl ⟨rfl, by have := (S'.dom i _ hq).1; omega⟩
        | none =>
          rw [hq] at h
          have h : ρ i = some img := h
          refine .inr ⟨h, ?_⟩
          rcases Nat.lt_or_ge i (st (j + 1)).w.size with h2 | h2
          · exfalso
            rcases Nat.lt_or_ge i (st j).w.size with h1 | h1
            · rw [old' i h1, h] at hq; cases hq
            · obtain ⟨im, him⟩ := M'.full i h1 (by omega); rw [him] at hq; cases hq
          · exact h2
      -- nothing that was there has changed
      have keep : ∀ b, b < w.heap.size → w'.heap[b]? = w.heap[b]? := fun b hb => M'.frame b hb fun i img h1 h2 h3 => .inr (by
        have : i < (st j).w.size := (Sj.dom i img h1).1
        omega)
      have fresh : ∀ i img, (st j).w.size ≤ i → ρ' i = some img → w.heap.size ≤ img.blk := fun i img h1 h2 => by
        have hcn : ρ.cut (st j).w.size i = none := by unfold Rho.cut; rw [if_neg (by omega)]
        rcases (M'.new i img hcn h2).2 with h | ⟨j2, jm, q1, _, _, _, q5⟩
        · exact h
        · have : j2 < (st j).w.size := (Sj.dom j2 jm q1).1
          omega
      refine ⟨lo, hi, ρ2, ?_⟩
      obtain ⟨t1, t2, t3, t4⟩ := I.slots hops T D ho hL le2 (hv.mono le')
      refine ⟨hcl, I.seg, I.mono, I.wr, ?_, ?_, ?_, ?_, I.le.trans le2, ⟨?_, ?_, ?_⟩, t1, t2, t3, t4, ?_, ?_, Nat.le_trans I.wsize M'.wsize, M'.os.trans I.os, M'.tape.trans I.tape, M'.output.trans I.output⟩
      · exact fun i o' h1 h2 h3 => listed_set hjL (I.below i o' h1 h2 h3)
      · intro i o' h1 h2 h3
        rw [setL hjL, if_neg (by omega)]
        exact I.above i o' h1 h2 h3
      · intro i img h
        rcases from2 i img h with ⟨h1, h2⟩ | ⟨h1, h2⟩
        · rcases Nat.lt_or_ge i (st j).w.size with h3 | h3
          · rw [old' i h3] at h1
            rcases I.dom i img h1 with h | ⟨k, k1, k2, k3, k4, k5⟩
            · exact .inl h
            · exact .inr ⟨k, k1, k2, listed_set hjL k3, k4, k5⟩
          · exact .inr ⟨j, hjlo, hlt, by rw [setL hjL, if_pos rfl], h3, h2⟩
        · rcases I.dom i img h1 with h | ⟨k, k1, k2, k3, k4, k5⟩
          · exact .inl h
          · exact .inr ⟨k, k1, k2, listed_set hjL k3, k4, k5⟩
      · intro k hk hl i h1 h2
        rw [setL hjL] at hl
        split at hl
        · rename_i e; subst e
          obtain ⟨im, him⟩ := M'.full i h1 (by omega)
          exact ⟨im, le' _ _ him⟩
        · obtain ⟨im, him⟩ := I.dom2 k hk hl i h1 h2
          exact ⟨im, le2 _ _ him⟩
      · intro i img h
        rcases from2 i img h with ⟨h1, h2⟩ | ⟨h1, h2⟩
        · exact ⟨by omega, (S'.dom i img h1).2⟩
        · have := I.sat.dom i img h1
          exact ⟨this.1, Nat.lt_of_lt_of_le this.2 M'.wsize⟩
      · intro i img h
        rcases from2 i img h with ⟨h1, h2⟩ | ⟨h1, h2⟩
        · obtain ⟨oa, q1, q2⟩ := S'.obj i img h1
          refine ⟨oa, by rw [hsame1 i h2, ← hwwheap]; exact q1, ?_⟩
          exact q2.imp id fun ⟨o2, q3, q4⟩ => ⟨o2, q3, q4.mono le'⟩
        · obtain ⟨oa, q1, q2⟩ := I.sat.obj i img h1
          refine ⟨oa, q1, ?_⟩
          exact q2.imp id fun ⟨o2, q3, q4⟩ => ⟨o2, by rw [keep _ (I.sat.dom i img h1).2]; exact q3, q4.mono le2⟩
      · intro i i2 im im2 h h' hb l1 l2 nr
        rcases from2 i im h with ⟨h1, h2⟩ | ⟨h1, h2⟩
        · rcases from2 i2 im2 h' with ⟨h3, h4⟩ | ⟨h3, h4⟩
          · exact S'.inj i i2 im im2 h1 h3 hb (by rw [hwwheap, ← hsame1 i h2]; exact l1) (by rw [hwwheap, ← hsame1 i2 h4]; exact l2) (fun ⟨c, e, hr⟩ => nr ⟨c, e, by rw [hsame1 i h2, ← hwwheap]; exact hr⟩)
          · rcases Nat.lt_or_ge i (st j).w.size with h5 | h5
            · rw [old' i h5] at h1
              exact I.sat.inj i i2 im im2 h1 h3 hb l1 l2 nr
            · have := fresh i im h5 h1
              have := (I.sat.dom i2 im2 h3).2
              omega
        · rcases from2 i2 im2 h' with ⟨h3, h4⟩ | ⟨h3, h4⟩
          · rcases Nat.lt_or_ge i2 (st j).w.size with h5 | h5
            · rw [old' i2 h5] at h3
              exact I.sat.inj i i2 im im2 h1 h3 hb l1 l2 nr
            · have := fresh i2 im2 h5 h3
              have := (I.sat.dom i im h1).2
              omega
          · exact I.sat.inj i i2 im im2 h1 h3 hb l1 l2 nr
      · intro i img h0 h
        rcases from2 i img h with ⟨h1, h2⟩ | ⟨h1, h2⟩
        · rcases Nat.lt_or_ge i (st j).w.size with h5 | h5
          · rw [old' i h5] at h1; exact I.mnew i img h0 h1
          · have := fresh i img h5 h1
            have := size_mono' F (Nat.zero_le j) (Nat.le_of_lt hjlt)
            have := I.wsize
            exact ⟨by omega, .inl (by omega)⟩
        · exact I.mnew i img h0 h1
      · intro b hb hall
        rw [keep b (Nat.lt_of_lt_of_le hb I.wsize)]
        exact I.mframe b hb hall
    · -- the operation that writes
      have hjh : j = hi := by omega
      subst hjh
      obtain ⟨oh, q1, q2, q3⟩ := hwr hjlt
      have hg1 : ∀ g ∈ gs, ρ g = some ⟨g, none⟩ := fun g hg => I.le _ _ (hglob g hg)
      have hr : ∀ x ∈ o.op.operands, VR ρ ((st j).reset.eval x) (a.eval x) := fun x hx => eval_ok hg1 (hops.known ho x hx) fun t ht => hlooks t (looks_op (by subst ht; exact hx))
      have hw : Region.wanted o (yieldedA ops (st j).reset) = Region.wanted o (yielded ops a.tmps) := wanted_eq fun g b hgd => yielded_eq fun t ht => hlooks t (looks_guard hgd ht)
      refine resA_ok hng hcall ho (I.sat.low rfl rfl : Sat P ρ (st j).reset.w w) hg1 hr hw hres fun ρ' v' w' hv S' M' => ?_
      obtain ⟨hi', n1, n2, n3, n4⟩ := next_writer ops st ww (ops.size - (j + 1)) (j + 1) (by omega)
      obtain ⟨t1, t2, t3, t4⟩ := I.slots hops T D ho hL M'.ext hv
      have hwwsz : (ww j).size = (st (j + 1)).w.size := (F j hjlt).wsize.symm
      have hwwheap : (ww j).heap = (st (j + 1)).w.heap := (F j hjlt).heap.symm
      have hsame1 : ∀ i, i < (st (j + 1)).w.size → (st hi').w.heap.get i = (st (j + 1)).w.heap.get i := fun i hi2 => seg_same' F n1 n2 n3 hi2
      have hsz1 : (st (j + 1)).w.size ≤ (st hi').w.size := size_mono' F n1 n2
      have hlow1 : (st hi').w.low ≤ (st (j + 1)).w.low := low_mono' F n1 n2
      have hlow2 : (st hi').w.low ≤ (ww j).low := Nat.le_trans hlow1 (F j hjlt).low2
      have hlow3 : (st hi').w.low ≤ (st j).w.low := Nat.le_trans hlow1 (F j hjlt).low1
      have hM0 := Mc
      have rest_listed : ∀ k o', k < j → ops[k]? = some o' → fl o' = false → L.getD k false = true := by
        intro k o' hk hok hmk
        rcases solo_spec q3 k o' hok (by omega) hmk with hb | hb
        · exact hb.listed I.closed fun o3 ho3 e3 he3 hb3 => by rw [ho] at ho3; cases ho3; exact hdeps e3 he3 hb3
        · have := hb.lt D; omega
      refine ⟨j + 1, hi', ρ', hcl, ⟨n1, n2⟩, n3, n4, ?_, ?_, ?_, ?_, I.le.trans M'.ext, ⟨?_, ?_, ?_⟩, t1, t2, t3, t4, ?_, ?_, Nat.le_trans I.wsize M'.wsize, M'.os.trans I.os, M'.tape.trans I.tape, M'.output.trans I.output⟩
      · intro i o' h1 h2 h3
        by_cases e : i = j
        · subst e; rw [setL hjL, if_pos rfl]
        · exact listed_set hjL (rest_listed i o' (by omega) h2 h3)
      · intro i o' h1 h2 h3
        rw [setL hjL, if_neg (by omega)]
        exact I.above i o' (by omega) h2 h3
      · intro i img h
        have := (S'.dom i img h).1
        exact .inl (by omega)
      · intro k hk hl i h1 h2
        rw [setL hjL] at hl
        split at hl
        · rename_i e; subst e; exact M'.full i h1 (by omega)
        · obtain ⟨im, him⟩ := I.dom2 k hk hl i h1 h2
          exact ⟨im, M'.ext _ _ him⟩
      · intro i img h
        have := S'.dom i img h
        exact ⟨by omega, this.2⟩
      · intro i img h
        obtain ⟨oa, r1, r2⟩ := S'.obj i img h
        refine ⟨oa, ?_, r2⟩
        rw [hsame1 i (by have := (S'.dom i img h).1; omega), ← hwwheap]; exact r1
      · intro i i2 im im2 h h' hb l1 l2 nr
        have hsi := hsame1 i (by have := (S'.dom i im h).1; omega)
        rw [hsi, ← hwwheap] at l1
        rw [hsame1 i2 (by have := (S'.dom i2 im2 h').1; omega), ← hwwheap] at l2
        exact S'.inj i i2 im im2 h h' hb l1 l2 (fun ⟨c, e, hr⟩ => nr ⟨c, e, by rw [hsi, ← hwwheap]; exact hr⟩)
      · intro i img h0 h
        cases hq : ρ i with
        | some im =>
          have : im = img := by have := M'.ext _ _ hq; rw [h] at this; cases this; rfl
          subst this
          obtain ⟨r1, r2⟩ := I.mnew i im h0 hq
          exact ⟨r1, r2.imp id fun ⟨j2, jm, s1, s2, s3, s4, s5⟩ => ⟨j2, jm, s1, s2, s3, s4, Nat.le_trans hlow3 s5⟩⟩
        | none =>
          obtain ⟨r1, r2⟩ := M'.new i img hq h
          have r1 : (st j).w.size ≤ i := r1
          have hz := size_mono' F (Nat.zero_le j) (Nat.le_of_lt hjlt)
          refine ⟨by omega, ?_⟩
          rcases r2 with r2 | ⟨j2, jm, s1, s2, s3, s4, s5⟩
          · exact .inl (Nat.le_trans I.wsize r2)
          · have s3 : (st j).w.heap.get j2 ≠ some .dead := s3
            have s4 : ¬ Ro (st j).w j2 := s4
            cases hq2 : ρ0 j2 with
            | some jm0 =>
              have hjm : jm0 = jm := by have := I.le _ _ hq2; rw [s1] at this; cases this; rfl
              subst hjm
              have hj2 := (S0.dom j2 jm0 hq2).1
              exact .inr ⟨j2, jm0, hq2, s2, fun hd => s3 (hM0.dead j2 hj2 hd), fun ⟨x, y, hr⟩ => s4 ⟨x, y, hM0.ro j2 x y hj2 hr⟩, Nat.le_trans hlow2 s5⟩
            | none =>
              obtain ⟨_, r3⟩ := I.mnew j2 jm hq2 s1
              rcases r3 with r3 | ⟨j3, jm3, u1, u2, u3, u4, u5⟩
              · exact .inl (by rw [← s2]; exact r3)
              · exact .inr ⟨j3, jm3, u1, u2.trans s2, u3, u4, Nat.le_trans hlow3 u5⟩
      · intro b hb hall
        have h1 := I.mframe b hb fun i img e1 e2 e3 => (hall i img e1 e2 e3).imp id fun h => Nat.lt_of_lt_of_le h hlow3
        rw [← h1]
        refine M'.frame b (Nat.lt_of_lt_of_le hb I.wsize) fun i img e1 e2 e3 => ?_
        have e3 : (st j).w.heap.get i ≠ some .dead := e3
        cases hq : ρ0 i with
        | some im =>
          have : im = img := by have := I.le _ _ hq; rw [e1] at this; cases this; rfl
          subst this
          have hi2 := (S0.dom i im hq).1
          rcases hall i im hq e2 (fun hd => e3 (hM0.dead i hi2 hd)) with ⟨c, e, hr⟩ | hl
          · exact .inl ⟨c, e, hM0.ro i c e hi2 hr⟩
          · exact .inr (by omega)
        | none =>
          obtain ⟨_, r3⟩ := I.mnew i img hq e1
          rcases r3 with r3 | ⟨j3, jm3, u1, u2, u3, u4, u5⟩
          · omega
          · rcases hall j3 jm3 u1 (u2.trans e2) u3 with hr | hl
            · exact absurd hr u4
            · omega

end


section
variable {P : Program}

theorem region_draw_ok {gs : List Nat} {n : Nat} {call : CallA} (hng : NoCount P) (hmix : P.follows .mixedOrders = true) (hcall : CallOk gs P call) {ops : Array Oper} (hops : OpsOk gs n ops) (hok : okDraw ops = true) {id : Nat} {ρ0 : Rho} {a0 : Act} {w : World} {st : Nat → AS} {val : Nat → Value} {ww : Nat → AW} (T : Trace P call ops st val ww 0)
    (S : Sat P ρ0 (st 0).w w) (A : AR ρ0 n (st 0) a0) (HF : ∀ j o, ops[j]? = some o → fl o = true → Float P ops st val ww ρ0 o j) (hglob : ∀ g ∈ gs, ρ0 g = some ⟨g, none⟩) {Q : Exit → Act → World → Prop}
    (hQ : ∀ ρ' a' w', AR ρ' n (st ops.size) a' → Sat P ρ' (st ops.size).w w' → Mv ρ0 ρ' (st 0).w (st ops.size).w w w' → Q .normal a' w') : (Code.region id ops true).wp P Q a0 w := by
  have D := okDraw_spec hok
  have S0 : Sat P ρ0 (st 0).w w.drew := S.heap rfl
  have C := fun k hk => canon hng hcall hops T S0 A hglob k hk
  have F := (C ops.size (Nat.le_refl _)).2
  refine wp_region_free (fun L a' w' => ∃ lo hi ρ, DI P ops st val ww ρ0 w.drew n L lo hi ρ a' w') hmix ?_ ?_ ?_
  · obtain ⟨hi, n1, n2, n3, n4⟩ := next_writer ops st ww ops.size 0 (by omega)
    have hsame : ∀ i, i < (st 0).w.size → (st hi).w.heap.get i = (st 0).w.heap.get i := fun i hi2 => seg_same' F n1 n2 n3 hi2
    have hsz := size_mono' F n1 n2
    have no : ∀ j, (Array.replicate ops.size false).getD j false = false := fun j => by
      simp only [Array.getD_eq_getD_getElem?, Array.getElem?_replicate]; split <;> rfl
    refine ⟨0, hi, ρ0, ?_, ⟨n1, n2⟩, n3, n4, ?_, ?_, ?_, ?_, Le.refl _, ⟨?_, ?_, ?_⟩, ?_, ?_, A.size, A.defers, ?_, ?_, Nat.le_refl _, rfl, rfl, rfl⟩
    · intro j o hj; rw [no] at hj; cases hj
    · intro j o hj; omega
    · intro j o _ _ _; exact no j
    · intro i img hi2; exact .inl (S0.dom i img hi2).1
    · intro j _ hj; rw [no] at hj; cases hj
    · intro i img hi2; have := S0.dom i img hi2; exact ⟨by omega, this.2⟩
    · intro i img hi2
      obtain ⟨oa, q1, q2⟩ := S0.obj i img hi2
      exact ⟨oa, by rw [hsame i (S0.dom i img hi2).1]; exact q1, q2⟩
    · intro i j im jm a1 a2 a3 a4 a5 a6
      have hsi := hsame i (S0.dom i im a1).1
      rw [hsi] at a4
      rw [hsame j (S0.dom j jm a2).1] at a5
      exact S0.inj i j im jm a1 a2 a3 a4 a5 (fun ⟨c, e, h⟩ => a6 ⟨c, e, by rw [hsi]; exact h⟩)
    · intro t k o _ _ hk; rw [no] at hk; cases hk
    · intro t _; exact A.tmps t
    · intro i img a1 a2; rw [a1] at a2; cases a2
    · intro b _ _; rfl
  · rintro L a w' i hL ⟨lo, hi, ρ, I⟩ hready
    exact DI.step hng hcall hops T D S0 A HF hglob hL I hready
  · rintro L a w' hL ⟨lo, hi, ρ, I⟩ hr
    have all : ∀ j, j < ops.size → L.getD j false = true := by
      intro j
      induction j using Nat.strongRecOn with
      | _ j ih =>
        intro hj
        have ho : ops[j]? = some ops[j] := by simp
        exact ready_of hr hL ho fun e he hb => by
          have := D.deps j _ e ho he hb
          exact ih _ this (by omega)
    have hhi : hi = ops.size := by
      have := I.seg.2
      rcases Nat.lt_or_ge hi ops.size with hlt | hge
      · exfalso
        have hoh : ops[hi]? = some ops[hi] := by simp
        have hno := I.wr hlt
        cases hq : fl ops[hi] with
        | false => have := I.above hi _ (Nat.le_refl _) hoh hq; rw [all hi hlt] at this; cases this
        | true =>
          obtain ⟨hres2, _, hs2⟩ := T.step hi _ (Nat.zero_le _) hoh
          obtain ⟨⟨ρh, ah, wh, Ah, Sh, Mh⟩, _⟩ := C hi (by omega)
          have hg1 : ∀ g ∈ gs, ρh g = some ⟨g, none⟩ := fun g hg => Mh.ext _ _ (hglob g hg)
          have Ah2 : AR ρh n (st hi).reset ah := ⟨Ah.tmps, Ah.size, Ah.defers⟩
          obtain ⟨hwj, _⟩ := HF hi _ hoh hq
          apply hno
          rw [hwj]
          exact Nat.le_refl _
      · omega
    subst hhi
    obtain ⟨⟨ρc, ac, wc, Ac, Sc, Mc⟩, _⟩ := C ops.size (Nat.le_refl _)
    refine hQ ρ a w' ⟨fun t => ?_, I.size, I.defers⟩ I.sat ?_
    · obtain ⟨c1, c2⟩ := st_tmps hops T D t ops.size (Nat.le_refl _)
      by_cases hown : ∃ (k : Nat) (o' : Oper), ops[k]? = some o' ∧ o'.dst = some t
      · obtain ⟨k, o', hk, hd⟩ := hown
        have hklt := (Array.getElem?_eq_some_iff.1 hk).1
        rw [c1 k o' hklt hk hd]
        exact I.tm1 t k o' hk hd (all k hklt)
      · rw [c2 fun k o' _ hk hd => hown ⟨k, o', hk, hd⟩]
        exact I.tm2 t fun k o' hk hd => absurd ⟨k, o', hk, hd⟩ hown
    · have full : ∀ i, (st 0).w.size ≤ i → i < (st ops.size).w.size → ∃ img, ρ i = some img := by
        intro i h1 h2
        have key : ∀ m, m ≤ ops.size → i < (st m).w.size → ∃ j, j < m ∧ (st j).w.size ≤ i ∧ i < (st (j + 1)).w.size := by
          intro m
          induction m with
          | zero => intro _ h3; omega
          | succ m ih =>
            intro hm h3
            rcases Nat.lt_or_ge i (st m).w.size with h4 | h4
            · obtain ⟨j, j1, j2, j3⟩ := ih (by omega) h4; exact ⟨j, by omega, j2, j3⟩
            · exact ⟨m, by omega, h4, h3⟩
        obtain ⟨j, j1, j2, j3⟩ := key ops.size (Nat.le_refl _) h2
        exact I.dom2 j j1 (all j j1) i j2 j3
      exact ⟨I.le, I.mnew, full, Mc.size, I.wsize, Mc.low, Mc.same, Mc.ro, Mc.dead, I.mframe, I.os, I.tape, I.output⟩



/-- What floats, floats. -/
theorem float_of {gs : List Nat} {n : Nat} {call : CallA} {ops : Array Oper} {st : Nat → AS} {val : Nat → Value} {ww : Nat → AW} {ρ0 : Rho} {w0 : World} (hng : NoCount P) (hcall : CallOk gs P call) (hops : OpsOk gs n ops) (T : Trace P call ops st val ww 0)
    (S0 : Sat P ρ0 (st 0).w w0) {a0 : Act} (A0 : AR ρ0 n (st 0) a0) (hglob : ∀ g ∈ gs, ρ0 g = some ⟨g, none⟩) (hsl : ∀ k o, ops[k]? = some o → SlAt P o (st k).eval (st 0).w (val k)) : ∀ j o, ops[j]? = some o → fl o = true → Float P ops st val ww ρ0 o j := by
  intro j o ho hfl
  obtain ⟨hres, _, _⟩ := T.step j o (Nat.zero_le _) ho
  have hjlt := (Array.getElem?_eq_some_iff.1 ho).1
  cases hm : memless o.op with
  | true =>
    obtain ⟨⟨ρc, ac, wc, Ac, Sc, Mc⟩, _⟩ := canon hng hcall hops T S0 A0 hglob j (Nat.le_of_lt hjlt)
    have hg1 : ∀ g ∈ gs, ρc g = some ⟨g, none⟩ := fun g hg => Mc.ext _ _ (hglob g hg)
    have Ac2 : AR ρc n (st j).reset ac := ⟨Ac.tmps, Ac.size, Ac.defers⟩
    obtain ⟨h1, _⟩ := resA_memless (P := P) ho hm (Ac2.reads hg1 (hops.known ho)) (Ac2.wanted _) hres
    exact ⟨h1, fun {ρ} {a} hle hnew hr hw {Q} {K} w hK => (resA_memless (P := P) ho hm hr hw hres).2 w hK⟩
  | false =>
    have hs := hsl j o ho
    unfold fl at hfl
    rw [hm] at hfl
    obtain ⟨d, op, ty, pos, af, g⟩ := o
    cases op with
    | slice t x lo hi mx =>
     cases mx with
     | some _ => exact hs.elim
     | none =>
       obtain ⟨hg, hfalse, hsc, ⟨ad, len, cap, hex, hlt⟩, hlo, hhi⟩ := hs
       simp only at hg
       subst hg
       have hwant : ∀ y, Region.wanted (⟨d, .slice t x lo hi none, ty, pos, af, none⟩ : Oper) y = true := fun y => rfl
       have hww : ww j = (st j).reset.w := by
         have h2 := hres
         unfold resA at h2
         rw [hwant] at h2
         simp only [cond_true] at h2
         unfold opA at h2
         have hmm : memless (Op.slice t x lo hi none) = false := rfl
         simp only [hmm, cond_false] at h2
         have h3 : opK (Op.slice t x lo hi none) P ⟨d, .slice t x lo hi none, ty, pos, af, none⟩ (st j).reset = o_mem (m_slice P (st j).reset.eval ⟨d, .slice t x lo hi none, ty, pos, af, none⟩ t x lo hi none (st j).reset.w) := rfl
         rw [h3] at h2
         unfold m_slice at h2
         have hfalse2 : (Op.slice t x lo hi none).operands.all (fun x => flatV ((st j).reset.eval x)) = false := hfalse
         simp only [hfalse2, cond_false] at h2
         cases hq : sliceC P (st j).reset.eval t x lo hi none (st j).reset.w with
         | none => rw [hq] at h2; simp [o_mem] at h2
         | some v => rw [hq] at h2; simp only [Option.map_some, o_mem, Except.ok.injEq, Prod.mk.injEq] at h2; exact h2.2.symm
       refine ⟨hww, fun {ρ} {a} hle hnew hr hw {Q} {K} w hK => ?_⟩
       have hx : VR ρ ((st j).reset.eval x) (a.eval x) := hr x (by simp [Op.operands])
       -- the operand is of the heap that the region began with
       have hex : (st j).reset.eval x = .slice (some ad) len cap := hex
       have hx0 : VR ρ0 ((st j).reset.eval x) (a.eval x) := by
         rw [hex] at hx ⊢
         generalize a.eval x = x' at hx
         cases hx with
         | slice hb hc => exact .slice (hnew _ _ hlt hb) hc
         | slice0 hb hm hc => exact .slice0 (hnew _ _ hlt hb) hm hc
         | wild hb a => exact .wild (hnew _ _ hlt hb) a
       have ints : ∀ y, y ∈ (Op.slice t x lo hi none).operands → (∃ k i, (st j).eval y = .int k i) → VR ρ0 ((st j).reset.eval y) (a.eval y) := by
         rintro y hy ⟨k, i, hk⟩
         have h1 := hr y hy
         have hk : (st j).reset.eval y = .int k i := hk
         rw [hk] at h1 ⊢
         generalize a.eval y = y' at h1
         cases h1
         exact .int _ _
       obtain ⟨v', r1, hv⟩ := slice_any S0 (e := (st j).reset.eval) (e' := a.eval) hx0 (fun y hy => ints y (by subst hy; simp [Op.operands]) (hlo y hy)) (fun y hy => ints y (by subst hy; simp [Op.operands]) (hhi y hy)) hsc
       unfold wpOp
       have hrun : ∀ w, (execOp a.eval (⟨d, .slice t x lo hi none, ty, pos, af, none⟩ : Oper)).run P w = .ok (.value v') w := fun w => by
         have := r1 w
         simp only [Option.map_none] at this
         simp [execOp, this]
       simp only [ho, hwant, if_true, Oper.wp, hrun w, Oper.upon_value]
       exact .inl (hK v' (hv.mono hle))
    | _ => simp [isSlOp] at hfl

end
end Fl
end Go.Proofs.YtkjbbbjebidniaaGreatDoor
