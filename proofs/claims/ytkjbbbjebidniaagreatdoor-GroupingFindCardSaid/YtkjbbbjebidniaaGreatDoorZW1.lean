/- Find: regions in which slice expressions float, over the own heap. -/
import Derived.Test.YtkjbbbjebidniaaGreatDoorZW0
import Derived.Test.YtkjbbbjebidniaaGreatDoorZXG
namespace Go.Proofs.YtkjbbbjebidniaaGreatDoor
open Go Go.RowKit
set_option linter.unusedSimpArgs false
set_option linter.unusedVariables false

/-- What a slice expression must come to over the heap that the region begins with. -/
def SlE (P : Program) (o : Oper) (e : Env) (w0 : AW) (v : Value) : Prop := Fl.SlAt P o (evE e) w0 v

/-- A region's operations, slice expressions floating. -/
noncomputable def opsF (P : Program) (call : CallA) (ops : Array Oper) (w0 : AW) : Nat → List Oper → Env → AW → (Env → AW → Prop) → Prop
  | _, [], e, w, Q => Q e w
  | i, o :: rest, e, w, Q => KK (bif wantE ops o e then resE P call o e w.rs else .ok (undef, w.rs)) (fun r => (w.size ≤ r.2.low ∨ Fl.solo ops i = true) ∧ SlE P o e w0 r.1 ∧ opsF P call ops w0 (i + 1) rest (putE e o.dst r.1) (r.2.lw w.low) Q)

theorem traceF {P : Program} {call : CallA} {ops : Array Oper} {w0 : AW} {Q : Env → AW → Prop} : ∀ (rest : List Oper) (i : Nat) {s : AS} {e : Env} {w : AW}, (∀ j, rest[j]? = ops[i + j]?) → (∀ o ∈ rest, ∀ t, o.dst = some t → t < 1000000) → Bears s e → s.w = w →
    opsF P call ops w0 i rest e w Q → ∃ st val ww e', Fl.Trace P call ops st val ww i ∧ (∀ k o, i ≤ k → ops[k]? = some o → Fl.SlAt P o (st k).eval w0 (val k)) ∧ st i = s ∧ Bears (st (i + rest.length)) e' ∧ Q e' (st (i + rest.length)).w
  | [], i, s, e, w, hr, hd, hb, hs, h => by
    refine ⟨fun _ => s, fun _ => undef, fun _ => s.w, e, ⟨fun k o hk ho => ?_⟩, fun k o hk ho => ?_, rfl, hb, by rw [hs]; exact h⟩
    · have := hr (k - i)
      rw [show i + (k - i) = k by omega, ho] at this
      simp at this
    · have := hr (k - i)
      rw [show i + (k - i) = k by omega, ho] at this
      simp at this
  | o :: rest, i, s, e, w, hr, hd, hb, hs, h => by
    have ho : ops[i]? = some o := by have := hr 0; simpa using this.symm
    unfold opsF at h
    cases hres : (bif wantE ops o e then resE P call o e w.rs else .ok (undef, w.rs) : Rs (Value × AW)) with
    | error x => rw [hres] at h; exact h.elim
    | ok r =>
      obtain ⟨v, w'⟩ := r
      rw [hres] at h
      obtain ⟨hc, hsl, h2⟩ := h
      have hres := resE_eq (s := s.reset) (w := w.rs) (ops := ops) hb (by rw [← hs]; rfl) hres
      obtain ⟨s1, hp⟩ := put_ok { s.reset with w := w' } o.dst v (hd o (by simp))
      have hb1 : Bears s1 (putE e o.dst v) := putE_bears (s := { s.reset with w := w' }) hb (hd o (by simp)) hp
      have hw1 : s1.w = w' := put_w hp
      have hb2 : Bears (s1.lower s.w.low) (putE e o.dst v) := hb1
      obtain ⟨st, val, ww, e', T, hF, t1, t2, t3⟩ := traceF rest (i + 1) (fun j => by
        have := hr (j + 1)
        simp only [List.getElem?_cons_succ] at this
        rw [this]; congr 1; omega) (fun o2 h => hd o2 (by simp [h])) hb2 (by rw [← hs, ← hw1]; rfl : (s1.lower s.w.low).w = w'.lw w.low) h2
      refine ⟨fun k => if k = i then s else st k, fun k => if k = i then v else val k, fun k => if k = i then w' else ww k, e', ⟨fun k o2 hk ho2 => ?_⟩, fun k o2 hk ho2 => ?_, by simp, ?_, ?_⟩
      · by_cases ek : k = i
        · subst ek
          rw [ho] at ho2; cases ho2
          simp only [if_true]
          refine ⟨hres, ⟨s1, hp, by rw [if_neg (by omega)]; exact t1⟩, ?_⟩
          rw [hs]; exact hc
        · have := T.step k o2 (by omega) ho2
          simp only [if_neg ek, if_neg (show ¬ k + 1 = i by omega)]
          exact this
      · by_cases ek : k = i
        · subst ek
          rw [ho] at ho2; cases ho2
          simp only [if_true]
          have he : s.eval = evE e := hb.eval
          rw [he]; exact hsl
        · simp only [if_neg ek]
          exact hF k o2 (by omega) ho2
      · have : i + (o :: rest).length ≠ i := by simp
        simp only [if_neg this]
        rw [show i + (o :: rest).length = i + 1 + rest.length by simp; omega]; exact t2
      · have : i + (o :: rest).length ≠ i := by simp
        simp only [if_neg this]
        rw [show i + (o :: rest).length = i + 1 + rest.length by simp; omega]; exact t3

theorem TF.regF {n id : Nat} {ops : Array Oper} {e : Env} {w : AW} {Q : XA → Env → AW → Prop} {call : CallA} (hn : n ≤ 1000000) (hck : codeOk [0] n (.region id ops true) = true) (hcall : CallOk [0] Tryz.prog call)
    (h : opsF Tryz.prog call ops w 0 ops.toList e w (Q .normal)) : TF n (.region id ops true) e w Q := by
  intro s hb hs
  obtain ⟨st, val, ww, e', T, hF, t1, t2, t3⟩ := traceF ops.toList 0 (fun j => by simp) (dst_lt hn hck) hb hs h
  have hlen : 0 + ops.toList.length = ops.size := by simp
  rw [hlen] at t2 t3
  refine ⟨.normal, st ops.size, e', ?_, t2, t3⟩
  subst t1
  intro ρ a w1 S A hg K hK
  simp only [codeOk, Bool.and_eq_true] at hck
  obtain ⟨ck1, ck2⟩ := hck
  simp only [Bool.not_true, Bool.false_or] at ck2
  have hops : OpsOk [0] n ops := ⟨hn, fun i o ho => List.all_eq_true.1 ck1 o (by
    obtain ⟨hlt, rfl⟩ := Array.getElem?_eq_some_iff.1 ho
    simp)⟩
  have HF := Fl.float_of noCount hcall hops T S A hg (fun k o ho => by rw [hs]; exact hF k o (Nat.zero_le _) ho)
  exact Fl.region_draw_ok noCount mixed hcall hops ck2 T S A HF hg fun ρ' a' w' A' S' M' => hK .normal _ ρ' a' w' ⟨rfl, rfl⟩ A' S' M'

end Go.Proofs.YtkjbbbjebidniaaGreatDoor
