/- What the cells of the own heap say; data of annotations; the rules for rewriting. -/
import Derived.Test.YtkjbbbjebidniaaGreatDoorM4
/- Code reckoned over a heap of its own: what it comes to is one thing (chosen ahead of the world). -/

namespace Go.Proofs.YtkjbbbjebidniaaGreatDoor
open Go Go.RowKit
set_option linter.unusedSimpArgs false
set_option linter.unusedVariables false

/-- Code comes to one outcome, and that is so and so. -/
def TF (n : Nat) (c : Code) (e : Env) (w : AW) (Q : XA → Env → AW → Prop) : Prop :=
  ∀ s, Bears s e → s.w = w → ∃ x s' e', TC [0] Tryz.prog n c s (fun x1 s1 => x1 = x ∧ s1 = s') ∧ Bears s' e' ∧ Q x e' s'.w

theorem TF.mono {n : Nat} {c : Code} {e : Env} {w : AW} {Q Q' : XA → Env → AW → Prop} (h : TF n c e w Q) (hq : ∀ x e w, Q x e w → Q' x e w) : TF n c e w Q' :=
  fun s hb hs => by
    obtain ⟨x, s', e', h1, h2, h3⟩ := h s hb hs
    exact ⟨x, s', e', h1, h2, hq _ _ _ h3⟩

theorem TF.skip {n : Nat} {e : Env} {w : AW} {Q : XA → Env → AW → Prop} (h : Q .normal e w) : TF n .skip e w Q := fun s hb hs => ⟨_, s, e, TC.skip ⟨rfl, rfl⟩, hb, by rw [hs]; exact h⟩
theorem TF.exit {n id : Nat} {e : Env} {w : AW} {Q : XA → Env → AW → Prop} (h : Q (.exit id) e w) : TF n (.exit id) e w Q := fun s hb hs => ⟨_, s, e, TC.exit ⟨rfl, rfl⟩, hb, by rw [hs]; exact h⟩
theorem TF.ret {n : Nat} {e : Env} {w : AW} {Q : XA → Env → AW → Prop} (h : Q .ret e w) : TF n .ret e w Q := fun s hb hs => ⟨_, s, e, TC.ret ⟨rfl, rfl⟩, hb, by rw [hs]; exact h⟩

theorem TF.seq {n : Nat} {c1 c2 : Code} {e : Env} {w : AW} {Q : XA → Env → AW → Prop} (h : TF n c1 e w (XE.then (fun e1 w1 => TF n c2 e1 w1 Q) Q)) : TF n (.seq c1 c2) e w Q := by
  intro s hb hs
  obtain ⟨x, s1, e1, h1, h2, h3⟩ := h s hb hs
  cases x with
  | normal =>
    obtain ⟨x, s2, e2, g1, g2, g3⟩ := h3 s1 h2 rfl
    refine ⟨x, s2, e2, TC.seq (h1.mono ?_), g2, g3⟩
    rintro x1 t ⟨rfl, rfl⟩
    exact g1
  | exit id => exact ⟨_, s1, e1, TC.seq (h1.mono (by rintro x1 t ⟨rfl, rfl⟩; exact ⟨rfl, rfl⟩)), h2, h3⟩
  | ret => exact ⟨_, s1, e1, TC.seq (h1.mono (by rintro x1 t ⟨rfl, rfl⟩; exact ⟨rfl, rfl⟩)), h2, h3⟩

theorem TF.cond {n : Nat} {y : Operand} {c1 c2 : Code} {e : Env} {w : AW} {t : Bool} {Q : XA → Env → AW → Prop} (hk : AS.known [0] y = true) (hy : evE e y = .bool t) (h : TF n (if t then c1 else c2) e w Q) : TF n (.cond y c1 c2) e w Q := by
  intro s hb hs
  obtain ⟨x, s1, e1, h1, h2, h3⟩ := h s hb hs
  exact ⟨x, s1, e1, TC.cond hk (by rw [hb.eval]; exact hy) h1, h2, h3⟩

theorem TF.block {n id : Nat} {c : Code} {e : Env} {w : AW} {Q : XA → Env → AW → Prop} (h : TF n c e w (XE.out id Q)) : TF n (.block id c) e w Q := by
  intro s hb hs
  obtain ⟨x, s1, e1, h1, h2, h3⟩ := h s hb hs
  cases x with
  | normal => exact ⟨_, s1, e1, TC.block (h1.mono (by rintro x1 t ⟨rfl, rfl⟩; exact ⟨rfl, rfl⟩)), h2, h3⟩
  | exit j =>
    have h3 : (if j = id then Q .normal e1 s1.w else Q (.exit j) e1 s1.w) := h3
    by_cases hj : j = id
    · rw [if_pos hj] at h3
      refine ⟨_, s1, e1, TC.block (h1.mono ?_), h2, h3⟩
      rintro x1 t ⟨rfl, rfl⟩
      show (if j = id then _ else _)
      rw [if_pos hj]; exact ⟨rfl, rfl⟩
    · rw [if_neg hj] at h3
      refine ⟨_, s1, e1, TC.block (h1.mono ?_), h2, h3⟩
      rintro x1 t ⟨rfl, rfl⟩
      show (if j = id then _ else _)
      rw [if_neg hj]; exact ⟨rfl, rfl⟩
  | ret => exact ⟨_, s1, e1, TC.block (h1.mono (by rintro x1 t ⟨rfl, rfl⟩; exact ⟨rfl, rfl⟩)), h2, h3⟩

/-- So many rounds. -/
def TR (n : Nat) (c : Code) (k : Nat) (s : AS) (Q : XA → AS → Prop) : Prop :=
  ∀ ρ a w, Sat Tryz.prog ρ s.w w → AR ρ n s a → (∀ g ∈ [0], ρ g = some ⟨g, none⟩) → ∀ (K : Exit → Act → World → Prop),
    (∀ x s' ρ' a' w', Q x s' → AR ρ' n s' a' → Sat Tryz.prog ρ' s'.w w' → Mv ρ ρ' s.w s'.w w w' → XOk x K a' w') → rounds Tryz.prog c K k a w

theorem TF.loop {n : Nat} {c : Code} {e : Env} {w : AW} {Q : XA → Env → AW → Prop} (J : Env → AW → Prop) (μ : Env → AW → Nat) (h0 : J e w)
    (round : ∀ e w, J e w → TF n c e w (XE.then (fun e1 w1 => J e1 w1 ∧ μ e1 w1 < μ e w) Q)) : TF n (.loop c) e w Q := by
  have key : ∀ m s e, μ e s.w = m → Bears s e → J e s.w → ∃ k x s' e', TR n c k s (fun x1 s1 => x1 = x ∧ s1 = s') ∧ Bears s' e' ∧ Q x e' s'.w := by
    intro m
    induction m using Nat.strongRecOn with
    | _ m ih =>
      intro s e hm hb hJ
      obtain ⟨x, s1, e1, h1, h2, h3⟩ := round e s.w hJ s hb rfl
      cases x with
      | normal =>
        obtain ⟨hJ1, hlt⟩ := h3
        obtain ⟨k, x, s2, e2, g1, g2, g3⟩ := ih (μ e1 s1.w) (by omega) s1 e1 rfl h2 hJ1
        refine ⟨k + 1, x, s2, e2, ?_, g2, g3⟩
        intro ρ a w S A hg K hK
        refine h1 ρ a w S A hg _ fun x1 t ρ1 a1 w1 q A1 S1 M1 => ?_
        obtain ⟨rfl, rfl⟩ := q
        exact g1 ρ1 a1 w1 S1 A1 (fun g hgg => M1.ext _ _ (hg g hgg)) K fun x2 t2 ρ2 a2 w2 q2 A2 S2 M2 => hK x2 t2 ρ2 a2 w2 q2 A2 S2 (M1.trans S M2)
      | exit id =>
        refine ⟨1, _, s1, e1, ?_, h2, h3⟩
        intro ρ a w S A hg K hK
        refine h1 ρ a w S A hg _ fun x1 t ρ1 a1 w1 q A1 S1 M1 => ?_
        have hx := q.1
        subst hx
        exact hK _ t ρ1 a1 w1 q A1 S1 M1
      | ret =>
        refine ⟨1, _, s1, e1, ?_, h2, h3⟩
        intro ρ a w S A hg K hK
        refine h1 ρ a w S A hg _ fun x1 t ρ1 a1 w1 q A1 S1 M1 => ?_
        have hx := q.1
        subst hx
        exact hK _ t ρ1 a1 w1 q A1 S1 M1
  intro s hb hs
  subst hs
  obtain ⟨k, x, s1, e1, h1, h2, h3⟩ := key _ s e rfl hb h0
  exact ⟨x, s1, e1, fun ρ a w S A hg K hK => wp_rounds (h1 ρ a w S A hg K hK), h2, h3⟩

theorem TF.reg {n id : Nat} {ops : Array Oper} {e : Env} {w : AW} {Q : XA → Env → AW → Prop} {call : CallA} (hn : n ≤ 1000000) (hck : codeOk [0] n (.region id ops false) = true) (hcall : CallOk [0] Tryz.prog call)
    (h : opsE Tryz.prog call ops ops.toList e w (Q .normal)) : TF n (.region id ops false) e w Q := by
  intro s hb hs
  obtain ⟨s', e', h1, h2, h3⟩ := opsE_ok ops.toList 0 (dst_lt hn hck) hb hs h
  exact ⟨.normal, s', e', TC.region noCount mixed hn hck hcall h1 ⟨rfl, rfl⟩, h2, h3⟩

theorem TF.regD {n id : Nat} {ops : Array Oper} {e : Env} {w : AW} {Q : XA → Env → AW → Prop} {call : CallA} (hn : n ≤ 1000000) (hck : codeOk [0] n (.region id ops true) = true) (hcall : CallOk [0] Tryz.prog call)
    (h : opsD Tryz.prog call ops 0 ops.toList e w (Q .normal)) : TF n (.region id ops true) e w Q := by
  intro s hb hs
  obtain ⟨s', e', h1, h2, h3⟩ := opsD_ok ops.toList 0 (dst_lt hn hck) hb hs h
  exact ⟨.normal, s', e', TC.region noCount mixed hn hck hcall h1 ⟨rfl, rfl⟩, h2, h3⟩

/-- A call over the own heap, and what holds behind it. -/
def CallP (f : FuncId) (args : List Value) (w : AW) (Φ : Value → AW → Prop) : Prop := ∃ v w', CallT [0] Tryz.prog f ⟨args⟩ w v w' ∧ Φ v w'

theorem CallP.mono {f : FuncId} {args : List Value} {w : AW} {Φ Φ' : Value → AW → Prop} (h : CallP f args w Φ) (hh : ∀ v w, Φ v w → Φ' v w) : CallP f args w Φ' := by
  obtain ⟨v, w', h1, h2⟩ := h; exact ⟨v, w', h1, hh _ _ h2⟩

/-- The end of a function with one result. -/
def Fin1 (t : Tmp) (Φ : Value → AW → Prop) : XA → Env → AW → Prop := fun x e w => (x = .normal ∨ x = .ret) ∧ Φ (e t) w
theorem Fin1_ret (t : Tmp) (Φ : Value → AW → Prop) (e : Env) (w : AW) : Fin1 t Φ .ret e w = Φ (e t) w := by simp [Fin1]
theorem Fin1_normal (t : Tmp) (Φ : Value → AW → Prop) (e : Env) (w : AW) : Fin1 t Φ .normal e w = Φ (e t) w := by simp [Fin1]

theorem CallP.of {f : FuncId} {fn : Func} {c : Code} {args : List Value} {wa : AW} {t : Tmp} {Φ : Value → AW → Prop} (hf : Tryz.prog.funcs[f]? = some fn) (hb : fn.body = some c) (hr : fn.results.toList = [.tmp t]) (h1 : args.length ≤ 1000) (h2 : args.length ≤ fn.ntmps)
    (h : TF fn.ntmps c (argsE args) wa (Fin1 t Φ)) : CallP f args wa Φ := by
  obtain ⟨x, s, e, g1, g2, g3, g4⟩ := h _ (args_bears args wa h1) rfl
  refine ⟨e t, s.w, CallT.of_TC hf hb h1 h2 (g1.mono ?_), g4⟩
  rintro x1 s1 ⟨rfl, rfl⟩
  exact ⟨g3, rfl, [e t], by rw [results_eq g2, hr]; rfl, rfl⟩

/-- .. with any results. -/
def FinR (fn : Func) (Φ : Value → AW → Prop) : XA → Env → AW → Prop := fun x e w => (x = .normal ∨ x = .ret) ∧ ∃ vs, resultsE Tryz.prog e w fn.results.toList = .ok vs ∧ Φ (match vs with | [u] => u | vs => .tuple ⟨vs⟩) w

theorem CallP.ofR {f : FuncId} {fn : Func} {c : Code} {args : List Value} {wa : AW} {Φ : Value → AW → Prop} (hf : Tryz.prog.funcs[f]? = some fn) (hb : fn.body = some c) (h1 : args.length ≤ 1000) (h2 : args.length ≤ fn.ntmps)
    (h : TF fn.ntmps c (argsE args) wa (FinR fn Φ)) : CallP f args wa Φ := by
  obtain ⟨x, s, e, g1, g2, g3, vs, g4, g5⟩ := h _ (args_bears args wa h1) rfl
  refine ⟨_, s.w, CallT.of_TC hf hb h1 h2 (g1.mono ?_), g5⟩
  rintro x1 s1 ⟨rfl, rfl⟩
  exact ⟨g3, rfl, vs, by rw [results_eq g2]; exact g4, rfl⟩

theorem CallP.of_T {f : FuncId} {args : List Value} {w w' : AW} {v : Value} {Φ : Value → AW → Prop} (h : CallT [0] Tryz.prog f ⟨args⟩ w v w') (hh : Φ v w') : CallP f args w Φ := ⟨v, w', h, hh⟩
theorem CallG.toP {f : FuncId} {args : List Value} {w : AW} {v : Value} (h : CallG f args w v) : CallP f args w (fun u w' => u = v ∧ Gr w w') := by
  obtain ⟨w', h1, h2⟩ := h; exact ⟨v, w', h1, rfl, h2⟩

end Go.Proofs.YtkjbbbjebidniaaGreatDoor
/- What the cells of the own heap say, whatever value says it (a heap's typing: what a cell says never changes); reading, making, writing. -/

namespace Go.Proofs.YtkjbbbjebidniaaGreatDoor
open Go Go.RowKit
set_option linter.unusedSimpArgs false
set_option linter.unusedVariables false

/-- What a cell says: a value, or a row of cells (so many elements). -/
inductive Dt where
  | v (x : Value)
  | l (n : Nat) (xs : List Dt)
  | any

structure Psi where
  at' : Nat → Nat → Option Dt
  live : Nat → Nat → Prop

def Den (Ψ : Psi) : Value → Dt → Prop
  | u, .v x => u = x ∧ oneC x = true
  | u, .any => oneC u = true
  | .slice none n _, .l m xs => n = 0 ∧ m = 0 ∧ xs = []
  | .slice (some a) n _, .l m xs => n = m ∧ a.spot = none ∧ Ψ.live a.block (a.off + xs.length) ∧ ∀ j d, xs[j]? = some d → Ψ.at' a.block (a.off + j) = some d
  | _, _ => False

structure Wt (Ψ : Psi) (w : AW) : Prop where
  low : w.low ≤ w.size
  cell : ∀ b o d, Ψ.at' b o = some d → ∃ u, w.cell ⟨b, o, none⟩ = some u ∧ Den Ψ u d
  live : ∀ b o, Ψ.live b o → b < w.size ∧ ∃ c e k, w.heap.get b = some (.row c e k) ∧ o ≤ c.length
  lv : ∀ b o d, Ψ.at' b o = some d → Ψ.live b o

structure PLe (Ψ Ψ' : Psi) : Prop where
  at' : ∀ b o d, Ψ.at' b o = some d → Ψ'.at' b o = some d
  live : ∀ b o, Ψ.live b o → Ψ'.live b o

theorem PLe.refl (Ψ : Psi) : PLe Ψ Ψ := ⟨fun _ _ _ h => h, fun _ _ h => h⟩
theorem PLe.trans {a b c : Psi} (h : PLe a b) (k : PLe b c) : PLe a c := ⟨fun _ _ _ x => k.at' _ _ _ (h.at' _ _ _ x), fun _ _ x => k.live _ _ (h.live _ _ x)⟩

theorem Den.mono {Ψ Ψ' : Psi} (h : PLe Ψ Ψ') : ∀ {u : Value} {d : Dt}, Den Ψ u d → Den Ψ' u d
  | u, .v x, hd => by
    have : u = x ∧ oneC x = true := by cases u <;> first | exact hd | (rename_i a b c; cases a <;> exact hd)
    cases u <;> first | exact this | (rename_i a b c; cases a <;> exact this)
  | u, .any, hd => by
    have : oneC u = true := by cases u <;> first | exact hd | (rename_i a b c; cases a <;> exact hd)
    cases u <;> first | exact this | (rename_i a b c; cases a <;> exact this)
  | u, .l n xs, hd => by
    cases u with
    | slice a n c => cases a with
      | none => exact hd
      | some a => exact ⟨hd.1, hd.2.1, h.live _ _ hd.2.2.1, fun j d hj => h.at' _ _ _ (hd.2.2.2 j d hj)⟩
    | _ => exact hd.elim

theorem Den.v_inv {Ψ : Psi} {u x : Value} (h : Den Ψ u (.v x)) : u = x := by
  cases u <;> first | exact h.1 | (rename_i a b c; cases a <;> exact h.1)
theorem Den.of_v {Ψ : Psi} {x : Value} (h : oneC x = true) : Den Ψ x (.v x) := by
  cases x <;> first | exact ⟨rfl, h⟩ | (rename_i a b c; cases a <;> exact ⟨rfl, h⟩)
theorem Den.of_any {Ψ : Psi} {x : Value} (h : oneC x = true) : Den Ψ x .any := by
  cases x <;> first | exact h | (rename_i a b c; cases a <;> exact h)
theorem Den.l_inv {Ψ : Psi} {u : Value} {n : Nat} {xs : List Dt} (h : Den Ψ u (.l n xs)) : (∃ c, u = .slice none 0 c ∧ n = 0 ∧ xs = []) ∨
    ∃ b o c, u = .slice (some ⟨b, o, none⟩) n c ∧ Ψ.live b (o + xs.length) ∧ ∀ j d, xs[j]? = some d → Ψ.at' b (o + j) = some d := by
  cases u with
  | slice a m c =>
    cases a with
    | none => obtain ⟨rfl, rfl, rfl⟩ := h; exact .inl ⟨c, rfl, rfl, rfl⟩
    | some a =>
      obtain ⟨b, o, s⟩ := a
      obtain ⟨rfl, h2, h3, h4⟩ := h
      simp only at h2
      subst h2
      exact .inr ⟨b, o, c, rfl, h3, h4⟩
  | _ => exact h.elim
theorem Den.slice {Ψ : Psi} {b o n c : Nat} {xs : List Dt} (h1 : Ψ.live b (o + xs.length)) (h2 : ∀ j d, xs[j]? = some d → Ψ.at' b (o + j) = some d) : Den Ψ (.slice (some ⟨b, o, none⟩) n c) (.l n xs) := ⟨rfl, rfl, h1, h2⟩
theorem Den.one {Ψ : Psi} {u : Value} {d : Dt} (h : Den Ψ u d) : oneC u = true := by
  cases d with
  | v x => rw [h.v_inv]; cases u <;> first | exact h.2 | (rename_i a b c; cases a <;> exact h.2)
  | l n xs => rcases h.l_inv with ⟨c, rfl, _⟩ | ⟨b, o, c, rfl, _⟩ <;> rfl
  | any => cases u <;> first | exact h | (rename_i a b c; cases a <;> exact h)

/-- A slice's value: how long it is. -/
theorem Den.len {Ψ : Psi} {u : Value} {n : Nat} {xs : List Dt} (h : Den Ψ u (.l n xs)) : ∃ a c, u = .slice a n c := by
  rcases h.l_inv with ⟨c, rfl, rfl, _⟩ | ⟨b, o, c, rfl, _⟩
  · exact ⟨none, c, rfl⟩
  · exact ⟨_, c, rfl⟩

/-- All of them. -/
inductive Dens (Ψ : Psi) : List Value → List Dt → Prop where
  | nil : Dens Ψ [] []
  | cons {u : Value} {d : Dt} {us : List Value} {ds : List Dt} : Den Ψ u d → Dens Ψ us ds → Dens Ψ (u :: us) (d :: ds)

theorem Dens.length {Ψ : Psi} : ∀ {us : List Value} {ds : List Dt}, Dens Ψ us ds → us.length = ds.length
  | _, _, .nil => rfl
  | _, _, .cons _ h => by simp [h.length]
theorem Dens.get {Ψ : Psi} : ∀ {us : List Value} {ds : List Dt}, Dens Ψ us ds → ∀ {i : Nat} {d : Dt}, ds[i]? = some d → ∃ u, us[i]? = some u ∧ Den Ψ u d
  | _, _, .nil, i, d, h => by simp at h
  | _, _, .cons h0 h1, 0, d, h => by simp at h; subst h; exact ⟨_, rfl, h0⟩
  | _, _, .cons h0 h1, i + 1, d, h => by simp at h; obtain ⟨u, g1, g2⟩ := h1.get h; exact ⟨u, by simpa using g1, g2⟩
theorem Dens.mono {Ψ Ψ' : Psi} (h : PLe Ψ Ψ') : ∀ {us : List Value} {ds : List Dt}, Dens Ψ us ds → Dens Ψ' us ds
  | _, _, .nil => .nil
  | _, _, .cons h0 h1 => .cons (h0.mono h) (h1.mono h)
theorem Dens.one {Ψ : Psi} : ∀ {us : List Value} {ds : List Dt}, Dens Ψ us ds → us.all oneC = true
  | _, _, .nil => rfl
  | _, _, .cons h0 h1 => by simp [h0.one, h1.one]

theorem cell_some {w : AW} {b o : Nat} {u : Value} (h : w.cell ⟨b, o, none⟩ = some u) : ∃ c e k, w.heap.get b = some (.row c e k) ∧ c[o]? = some u := by
  simp only [AW.cell] at h
  split at h
  · rename_i c e k hg; exact ⟨c, e, k, hg, h⟩
  · cases h

/-- Cells that lie side by side. -/
theorem Wt.cells {Ψ : Psi} {w : AW} (W : Wt Ψ w) {b o : Nat} {ds : List Dt} (hl : Ψ.live b (o + ds.length)) (h : ∀ j d, ds[j]? = some d → Ψ.at' b (o + j) = some d) : ∃ us, w.cells ⟨b, o, none⟩ ds.length = some us ∧ Dens Ψ us ds := by
  obtain ⟨hb, c, e, k, hg, hle⟩ := W.live _ _ hl
  refine ⟨(c.drop o).take ds.length, ?_, ?_⟩
  · simp only [AW.cells, hg, Nat.ble_eq_true_of_le hle, cond_true]
  · have key : ∀ (ds : List Dt) (o : Nat), o + ds.length ≤ c.length → (∀ j d, ds[j]? = some d → Ψ.at' b (o + j) = some d) → Dens Ψ ((c.drop o).take ds.length) ds := by
      intro ds
      induction ds with
      | nil => intro o _ _; simp; exact .nil
      | cons d ds ih =>
        intro o hle h
        obtain ⟨u, h1, h2⟩ := W.cell b o d (by simpa using h 0 d rfl)
        obtain ⟨c', e', k', g1, g2⟩ := cell_some h1
        rw [hg] at g1
        cases g1
        have hd : c.drop o = u :: c.drop (o + 1) := by
          have ho : o < c.length := by simp at hle; omega
          rw [List.drop_eq_getElem_cons ho]
          rw [List.getElem?_eq_getElem ho] at g2
          cases g2; rfl
        rw [hd]
        simp only [List.length_cons, List.take_succ_cons]
        exact .cons h2 (ih (o + 1) (by simp at hle; omega) fun j d hj => by have := h (j + 1) d (by simpa using hj); rwa [show o + 1 + j = o + (j + 1) by omega])
    exact key ds o hle h

theorem cell_of {w : AW} {b o n : Nat} {l : List Value} (h : w.cells ⟨b, o, none⟩ n = some l) (j : Nat) {u : Value} (hu : l[j]? = some u) : w.cell ⟨b, o + j, none⟩ = some u := by
  simp only [AW.cells] at h
  split at h
  case h_2 => cases h
  rename_i c e k hg
  cases hb : Nat.ble (o + n) c.length with
  | false => rw [hb] at h; cases h
  | true =>
    rw [hb] at h
    simp only [cond_true, Option.some.injEq] at h
    subst h
    have hj : j < n := by
      have := (List.getElem?_eq_some_iff.1 hu).1
      simp at this; omega
    rw [List.getElem?_take_of_lt hj, List.getElem?_drop] at hu
    simp only [AW.cell, hg, hu]

/-- A part of the cells. -/
theorem cells_part {w : AW} {b o n : Nat} {l : List Value} (h : w.cells ⟨b, o, none⟩ n = some l) (j m : Nat) (hj : j + m ≤ n) : w.cells ⟨b, o + j, none⟩ m = some ((l.drop j).take m) := by
  simp only [AW.cells] at h ⊢
  split at h
  case h_2 => cases h
  rename_i c e k hg
  cases hb : Nat.ble (o + n) c.length with
  | false => rw [hb] at h; cases h
  | true =>
    rw [hb] at h
    simp only [cond_true, Option.some.injEq] at h
    subst h
    have := Nat.le_of_ble_eq_true hb
    simp only [hg, Nat.ble_eq_true_of_le (show o + j + m ≤ c.length by omega), cond_true, Option.some.injEq]
    rw [List.drop_take, List.take_take, List.drop_drop, Nat.min_eq_left (by omega)]

/-- An element of a slice that reads as a row of elements of k cells each. -/
theorem Wt.elem {Ψ : Psi} {w : AW} {α : Type} (W : Wt Ψ w) {f : α → List Dt} {k : Nat} (hf : ∀ x, (f x).length = k) {l : List α} {u : Value} (h : Den Ψ u (.l l.length (l.flatMap f))) {i : Nat} {x : α} (hi : l[i]? = some x) :
    ∃ b o c us, u = .slice (some ⟨b, o, none⟩) l.length c ∧ i < l.length ∧ b < w.size ∧ w.cells ⟨b, o + i * k, none⟩ k = some us ∧ Dens Ψ us (f x) ∧ (∀ j d, (f x)[j]? = some d → Ψ.at' b (o + i * k + j) = some d) := by
  have hlt := (List.getElem?_eq_some_iff.1 hi).1
  have hlen : ∀ l : List α, (l.flatMap f).length = l.length * k := by
    intro l
    induction l with
    | nil => simp
    | cons a l ih => simp [hf, ih, Nat.succ_mul]; omega
  have hat : ∀ (l : List α) (i : Nat) (x : α), l[i]? = some x → ∀ j d, (f x)[j]? = some d → (l.flatMap f)[i * k + j]? = some d := by
    intro l
    induction l with
    | nil => intro i x h; simp at h
    | cons a l ih =>
      intro i x h j d hj
      cases i with
      | zero =>
        simp at h; subst h
        rw [List.flatMap_cons, List.getElem?_append_left (by have := (List.getElem?_eq_some_iff.1 hj).1; omega)]
        simpa using hj
      | succ i =>
        simp at h
        rw [List.flatMap_cons, List.getElem?_append_right (by rw [hf, Nat.succ_mul]; omega), hf]
        rw [show (i + 1) * k + j - k = i * k + j by rw [Nat.succ_mul]; omega]
        exact ih i x h j d hj
  rcases h.l_inv with ⟨c, rfl, h0, _⟩ | ⟨b, o, c, rfl, h1, h2⟩
  · omega
  · have hd : ∀ j d, (f x)[j]? = some d → Ψ.at' b (o + i * k + j) = some d := fun j d hj => by
      rw [Nat.add_assoc]; exact h2 _ _ (hat l i x hi j d hj)
    obtain ⟨hb, cc, e, kk, hg, hle⟩ := W.live _ _ h1
    -- the cells of the element
    have hcells : ∃ us, w.cells ⟨b, o + i * k, none⟩ (f x).length = some us ∧ Dens Ψ us (f x) := by
      obtain ⟨vs, g1, g2⟩ := W.cells h1 h2
      have hle2 : i * k + k ≤ l.length * k := by rw [← Nat.succ_mul]; exact Nat.mul_le_mul_right k hlt
      have g3 := cells_part g1 (i * k) (f x).length (by rw [hf, hlen]; exact hle2)
      refine ⟨_, g3, ?_⟩
      have key : ∀ (ds : List Dt) (us : List Value), Dens Ψ us ds → ∀ (a m : Nat), Dens Ψ ((us.drop a).take m) ((ds.drop a).take m) := by
        intro ds us hD
        induction hD with
        | nil => intro a m; simp; exact .nil
        | cons h0 h1 ih =>
          intro a m
          cases a with
          | zero =>
            cases m with
            | zero => simp; exact .nil
            | succ m => simp only [List.drop_zero, List.take_succ_cons]; exact .cons h0 (by simpa using ih 0 m)
          | succ a => simpa using ih a m
      have h5 := key _ _ g2 (i * k) (f x).length
      have h6 : ((l.flatMap f).drop (i * k)).take (f x).length = f x := by
        apply List.ext_getElem?
        intro j
        by_cases hj : j < (f x).length
        · rw [List.getElem?_take_of_lt hj, List.getElem?_drop]
          rw [List.getElem?_eq_getElem hj]
          exact hat l i x hi j _ (List.getElem?_eq_getElem hj)
        · rw [List.getElem?_eq_none (by simp; omega), List.getElem?_eq_none (by omega)]
      rw [h6] at h5
      exact h5
    obtain ⟨us, g1, g2⟩ := hcells
    rw [hf] at g1
    exact ⟨b, o, c, us, rfl, hlt, hb, g1, g2, hd⟩

/-- What was there stays: so does what it says. -/
theorem Wt.gr {Ψ : Psi} {w w' : AW} (W : Wt Ψ w) (g : Gr w w') : Wt Ψ w' where
  low := by rw [g.low]; exact Nat.le_trans W.low g.size
  cell := fun b o d h => by
    obtain ⟨u, h1, h2⟩ := W.cell b o d h
    exact ⟨u, by rw [g.cell (W.live _ _ (W.lv _ _ _ h)).1]; exact h1, h2⟩
  live := fun b o h => by
    obtain ⟨h1, c, e, k, h2, h3⟩ := W.live b o h
    exact ⟨Nat.lt_of_lt_of_le h1 g.size, c, e, k, by rw [g.same _ h1]; exact h2, h3⟩
  lv := W.lv

end Go.Proofs.YtkjbbbjebidniaaGreatDoor
/- The data of annotations; making, writing, appending. -/

namespace Go.Proofs.YtkjbbbjebidniaaGreatDoor
open Go Go.RowKit
set_option linter.unusedSimpArgs false
set_option linter.unusedVariables false

structure Val3 where
  kind : Int
  int : Int
  text : ByteArray
structure Fac (α : Type) where
  kind : Int
  tb : Int
  sq : Int
  args : List α
  fn : Int
  items : List (Val3 × α)
  op : Int
  bound : Val3
  exp : Int
structure Term (α : Type) where
  coef : Int
  facs : List (Fac α)
structure ARow (α : Type) where
  vals : List Val3
  sums : List (Int × List (Val3 × α))
  ann : α

def vI (n : Int) : Dt := .v (.int .i64 n)
def vS (s : ByteArray) : Dt := .v (.string s)
def encV (v : Val3) : List Dt := [vI v.kind, vI v.int, vS v.text]
def lst {α : Type} (f : α → List Dt) (l : List α) : Dt := .l l.length (l.flatMap f)
section
variable {α : Type} (e : α → Dt)
def enc1 (a : α) : List Dt := [e a]
def encI (p : Val3 × α) : List Dt := [vI p.1.kind, vI p.1.int, vS p.1.text, e p.2]
def encF (f : Fac α) : List Dt := [vI f.kind, vI f.tb, vI f.sq, lst (enc1 e) f.args, vI f.fn, lst (encI e) f.items, vI f.op, vI f.bound.kind, vI f.bound.int, vS f.bound.text, vI f.exp]
def encT (t : Term α) : List Dt := [vI t.coef, lst (encF e) t.facs]
def encAnn (d : List (Term α)) : Dt := lst (encT e) d
def encSum (s : Int × List (Val3 × α)) : List Dt := [vI s.1, lst (encI e) s.2]
def encRow (r : ARow α) : List Dt := [lst encV r.vals, lst (encSum e) r.sums, e r.ann]
end
def DA : Nat → Type
  | 0 => Empty
  | n + 1 => List (Term (DA n))
def encA : (n : Nat) → DA n → Dt
  | 0, x => nomatch x
  | n + 1, d => encAnn (encA n) d
def encP (p : Int × Int) : List Dt := [vI p.1, vI p.2]

theorem oneI (k : IntKind) (n : Int) : oneC (.int k n) = true := rfl
theorem oneS (s : ByteArray) : oneC (.string s) = true := rfl

/-- Cells that read one by one. -/
theorem Dens.nil_inv {Ψ : Psi} {us : List Value} (h : Dens Ψ us []) : us = [] := by cases h; rfl
theorem Dens.cons_inv {Ψ : Psi} {us : List Value} {d : Dt} {ds : List Dt} (h : Dens Ψ us (d :: ds)) : ∃ u vs, us = u :: vs ∧ Den Ψ u d ∧ Dens Ψ vs ds := by cases h with | cons h0 h1 => exact ⟨_, _, rfl, h0, h1⟩
theorem Dens.vI_inv {Ψ : Psi} {us : List Value} {n : Int} {ds : List Dt} (h : Dens Ψ us (vI n :: ds)) : ∃ vs, us = .int .i64 n :: vs ∧ Dens Ψ vs ds := by
  obtain ⟨u, vs, rfl, h1, h2⟩ := h.cons_inv
  cases h1.v_inv
  exact ⟨vs, rfl, h2⟩
theorem Dens.vS_inv {Ψ : Psi} {us : List Value} {s : ByteArray} {ds : List Dt} (h : Dens Ψ us (vS s :: ds)) : ∃ vs, us = .string s :: vs ∧ Dens Ψ vs ds := by
  obtain ⟨u, vs, rfl, h1, h2⟩ := h.cons_inv
  cases h1.v_inv
  exact ⟨vs, rfl, h2⟩

section
variable {Ψ : Psi} {us : List Value} {α : Type} {e : α → Dt}
theorem dens_V {v : Val3} (h : Dens Ψ us (encV v)) : us = [.int .i64 v.kind, .int .i64 v.int, .string v.text] := by
  obtain ⟨a, rfl, q1⟩ := h.vI_inv
  obtain ⟨b, rfl, q2⟩ := q1.vI_inv
  obtain ⟨c, rfl, q3⟩ := q2.vS_inv
  rw [q3.nil_inv]
theorem dens_1 {a : α} (h : Dens Ψ us (enc1 e a)) : ∃ u, us = [u] ∧ Den Ψ u (e a) := by
  obtain ⟨u, b, rfl, h1, q1⟩ := h.cons_inv
  rw [q1.nil_inv]; exact ⟨u, rfl, h1⟩
theorem dens_I {p : Val3 × α} (h : Dens Ψ us (encI e p)) : ∃ u, us = [.int .i64 p.1.kind, .int .i64 p.1.int, .string p.1.text, u] ∧ Den Ψ u (e p.2) := by
  obtain ⟨a, rfl, q1⟩ := h.vI_inv
  obtain ⟨b, rfl, q2⟩ := q1.vI_inv
  obtain ⟨c, rfl, q3⟩ := q2.vS_inv
  obtain ⟨u, b, rfl, h1, q4⟩ := q3.cons_inv
  rw [q4.nil_inv]; exact ⟨u, rfl, h1⟩
theorem dens_F {f : Fac α} (h : Dens Ψ us (encF e f)) : ∃ u v, us = [.int .i64 f.kind, .int .i64 f.tb, .int .i64 f.sq, u, .int .i64 f.fn, v, .int .i64 f.op, .int .i64 f.bound.kind, .int .i64 f.bound.int, .string f.bound.text, .int .i64 f.exp] ∧ Den Ψ u (lst (enc1 e) f.args) ∧ Den Ψ v (lst (encI e) f.items) := by
  obtain ⟨_, rfl, q1⟩ := h.vI_inv
  obtain ⟨_, rfl, q2⟩ := q1.vI_inv
  obtain ⟨_, rfl, q3⟩ := q2.vI_inv
  obtain ⟨u, _, rfl, h1, q4⟩ := q3.cons_inv
  obtain ⟨_, rfl, q5⟩ := q4.vI_inv
  obtain ⟨v, _, rfl, h2, q6⟩ := q5.cons_inv
  obtain ⟨_, rfl, q7⟩ := q6.vI_inv
  obtain ⟨_, rfl, q8⟩ := q7.vI_inv
  obtain ⟨_, rfl, q9⟩ := q8.vI_inv
  obtain ⟨_, rfl, q10⟩ := q9.vS_inv
  obtain ⟨_, rfl, q11⟩ := q10.vI_inv
  rw [q11.nil_inv]; exact ⟨u, v, rfl, h1, h2⟩
theorem dens_T {t : Term α} (h : Dens Ψ us (encT e t)) : ∃ u, us = [.int .i64 t.coef, u] ∧ Den Ψ u (lst (encF e) t.facs) := by
  obtain ⟨_, rfl, q1⟩ := h.vI_inv
  obtain ⟨u, _, rfl, h1, q2⟩ := q1.cons_inv
  rw [q2.nil_inv]; exact ⟨u, rfl, h1⟩
theorem dens_Sum {s : Int × List (Val3 × α)} (h : Dens Ψ us (encSum e s)) : ∃ u, us = [.int .i64 s.1, u] ∧ Den Ψ u (lst (encI e) s.2) := by
  obtain ⟨_, rfl, q1⟩ := h.vI_inv
  obtain ⟨u, _, rfl, h1, q2⟩ := q1.cons_inv
  rw [q2.nil_inv]; exact ⟨u, rfl, h1⟩
theorem dens_Row {r : ARow α} (h : Dens Ψ us (encRow e r)) : ∃ u v x, us = [u, v, x] ∧ Den Ψ u (lst encV r.vals) ∧ Den Ψ v (lst (encSum e) r.sums) ∧ Den Ψ x (e r.ann) := by
  obtain ⟨u, _, rfl, h1, q1⟩ := h.cons_inv
  obtain ⟨v, _, rfl, h2, q2⟩ := q1.cons_inv
  obtain ⟨x, _, rfl, h3, q3⟩ := q2.cons_inv
  rw [q3.nil_inv]; exact ⟨u, v, x, rfl, h1, h2, h3⟩
theorem dens_P {p : Int × Int} (h : Dens Ψ us (encP p)) : us = [.int .i64 p.1, .int .i64 p.2] := by
  obtain ⟨_, rfl, q1⟩ := h.vI_inv
  obtain ⟨_, rfl, q2⟩ := q1.vI_inv
  rw [q2.nil_inv]
end

section
variable {Ψ : Psi} {w : AW} {α : Type} {e : α → Dt} {u : Value} {i : Nat}
theorem Wt.rdV (W : Wt Ψ w) {l : List Val3} (h : Den Ψ u (lst encV l)) {x : Val3} (hi : l[i]? = some x) :
    ∃ b o c, u = .slice (some ⟨b, o, none⟩) l.length c ∧ i < l.length ∧ b < w.size ∧ w.cells ⟨b, o + i * 3, none⟩ 3 = some [.int .i64 x.kind, .int .i64 x.int, .string x.text] := by
  obtain ⟨b, o, c, us, h1, h2, h3, h4, h5, _⟩ := W.elem (k := 3) (fun _ => rfl) h hi
  rw [dens_V h5] at h4
  exact ⟨b, o, c, h1, h2, h3, h4⟩
theorem Wt.rdP (W : Wt Ψ w) {l : List (Int × Int)} (h : Den Ψ u (lst encP l)) {x : Int × Int} (hi : l[i]? = some x) :
    ∃ b o c, u = .slice (some ⟨b, o, none⟩) l.length c ∧ i < l.length ∧ b < w.size ∧ w.cells ⟨b, o + i * 2, none⟩ 2 = some [.int .i64 x.1, .int .i64 x.2] := by
  obtain ⟨b, o, c, us, h1, h2, h3, h4, h5, _⟩ := W.elem (k := 2) (fun _ => rfl) h hi
  rw [dens_P h5] at h4
  exact ⟨b, o, c, h1, h2, h3, h4⟩
theorem Wt.rd1 (W : Wt Ψ w) {l : List α} (h : Den Ψ u (lst (enc1 e) l)) {x : α} (hi : l[i]? = some x) :
    ∃ b o c v, u = .slice (some ⟨b, o, none⟩) l.length c ∧ i < l.length ∧ b < w.size ∧ w.cells ⟨b, o + i * 1, none⟩ 1 = some [v] ∧ Den Ψ v (e x) ∧ (∀ j d, (enc1 e x)[j]? = some d → Ψ.at' b (o + i * 1 + j) = some d) := by
  obtain ⟨b, o, c, us, h1, h2, h3, h4, h5, h6⟩ := W.elem (k := 1) (fun _ => rfl) h hi
  obtain ⟨v, rfl, h7⟩ := dens_1 h5
  exact ⟨b, o, c, v, h1, h2, h3, h4, h7, h6⟩
theorem Wt.rdI (W : Wt Ψ w) {l : List (Val3 × α)} (h : Den Ψ u (lst (encI e) l)) {x : Val3 × α} (hi : l[i]? = some x) :
    ∃ b o c v, u = .slice (some ⟨b, o, none⟩) l.length c ∧ i < l.length ∧ b < w.size ∧ w.cells ⟨b, o + i * 4, none⟩ 4 = some [.int .i64 x.1.kind, .int .i64 x.1.int, .string x.1.text, v] ∧ Den Ψ v (e x.2) ∧ (∀ j d, (encI e x)[j]? = some d → Ψ.at' b (o + i * 4 + j) = some d) := by
  obtain ⟨b, o, c, us, h1, h2, h3, h4, h5, h6⟩ := W.elem (k := 4) (fun _ => rfl) h hi
  obtain ⟨v, rfl, h7⟩ := dens_I h5
  exact ⟨b, o, c, v, h1, h2, h3, h4, h7, h6⟩
theorem Wt.rdF (W : Wt Ψ w) {l : List (Fac α)} (h : Den Ψ u (lst (encF e) l)) {f : Fac α} (hi : l[i]? = some f) :
    ∃ b o c v x, u = .slice (some ⟨b, o, none⟩) l.length c ∧ i < l.length ∧ b < w.size ∧ w.cells ⟨b, o + i * 11, none⟩ 11 = some [.int .i64 f.kind, .int .i64 f.tb, .int .i64 f.sq, v, .int .i64 f.fn, x, .int .i64 f.op, .int .i64 f.bound.kind, .int .i64 f.bound.int, .string f.bound.text, .int .i64 f.exp] ∧ Den Ψ v (lst (enc1 e) f.args) ∧ Den Ψ x (lst (encI e) f.items) ∧ (∀ j d, (encF e f)[j]? = some d → Ψ.at' b (o + i * 11 + j) = some d) := by
  obtain ⟨b, o, c, us, h1, h2, h3, h4, h5, h6⟩ := W.elem (k := 11) (fun _ => rfl) h hi
  obtain ⟨v, x, rfl, h7, h8⟩ := dens_F h5
  exact ⟨b, o, c, v, x, h1, h2, h3, h4, h7, h8, h6⟩
theorem Wt.rdT (W : Wt Ψ w) {l : List (Term α)} (h : Den Ψ u (encAnn e l)) {x : Term α} (hi : l[i]? = some x) :
    ∃ b o c v, u = .slice (some ⟨b, o, none⟩) l.length c ∧ i < l.length ∧ b < w.size ∧ w.cells ⟨b, o + i * 2, none⟩ 2 = some [.int .i64 x.coef, v] ∧ Den Ψ v (lst (encF e) x.facs) ∧ (∀ j d, (encT e x)[j]? = some d → Ψ.at' b (o + i * 2 + j) = some d) := by
  obtain ⟨b, o, c, us, h1, h2, h3, h4, h5, h6⟩ := W.elem (k := 2) (fun _ => rfl) h hi
  obtain ⟨v, rfl, h7⟩ := dens_T h5
  exact ⟨b, o, c, v, h1, h2, h3, h4, h7, h6⟩
theorem Wt.rdSum (W : Wt Ψ w) {l : List (Int × List (Val3 × α))} (h : Den Ψ u (lst (encSum e) l)) {x : Int × List (Val3 × α)} (hi : l[i]? = some x) :
    ∃ b o c v, u = .slice (some ⟨b, o, none⟩) l.length c ∧ i < l.length ∧ b < w.size ∧ w.cells ⟨b, o + i * 2, none⟩ 2 = some [.int .i64 x.1, v] ∧ Den Ψ v (lst (encI e) x.2) ∧ (∀ j d, (encSum e x)[j]? = some d → Ψ.at' b (o + i * 2 + j) = some d) := by
  obtain ⟨b, o, c, us, h1, h2, h3, h4, h5, h6⟩ := W.elem (k := 2) (fun _ => rfl) h hi
  obtain ⟨v, rfl, h7⟩ := dens_Sum h5
  exact ⟨b, o, c, v, h1, h2, h3, h4, h7, h6⟩
theorem Wt.rdRow (W : Wt Ψ w) {l : List (ARow α)} (h : Den Ψ u (lst (encRow e) l)) {x : ARow α} (hi : l[i]? = some x) :
    ∃ b o c v s a, u = .slice (some ⟨b, o, none⟩) l.length c ∧ i < l.length ∧ b < w.size ∧ w.cells ⟨b, o + i * 3, none⟩ 3 = some [v, s, a] ∧ Den Ψ v (lst encV x.vals) ∧ Den Ψ s (lst (encSum e) x.sums) ∧ Den Ψ a (e x.ann) := by
  obtain ⟨b, o, c, us, h1, h2, h3, h4, h5, h6⟩ := W.elem (k := 3) (fun _ => rfl) h hi
  obtain ⟨v, s, a, rfl, h7, h8, h9⟩ := dens_Row h5
  exact ⟨b, o, c, v, s, a, h1, h2, h3, h4, h7, h8, h9⟩
end

/- loading -/
def mapR (v : Option Value) (w : AW) : Option (Value × AW) :=
  match v with
  | some v => some (v, w)
  | none => none
theorem mapR_some (v : Value) (w : AW) : mapR (some v) w = some (v, w) := rfl
def mapG (l : Option (List Value)) (w : AW) : Option (Value × AW) :=
  match l with
  | some l => some (.agg ⟨l⟩, w)
  | none => none
theorem mapG_some (l : List Value) (w : AW) : mapG (some l) w = some (.agg ⟨l⟩, w) := rfl

section
variable {P : Program} {call : CallA}
theorem ld_one {t : Nat} (h : oneOk P t = true) (b o : Nat) (w : AW) : loadW P t (.pointer (some ⟨b, o, none⟩)) w = mapR (w.cell ⟨b, o, none⟩) w := by
  unfold oneOk at h
  split at h
  case h_2 => cases h
  rename_i d i hd hi
  simp only [Bool.and_eq_true, Bool.not_eq_true'] at h
  simp only [loadW, loadC, hd, hi, h.1, cond_false, mapR]
  cases w.cell ⟨b, o, none⟩ <;> rfl
theorem ld_agg {t n : Nat} (h : aggOk P t n = true) (b o : Nat) (w : AW) : loadW P t (.pointer (some ⟨b, o, none⟩)) w = mapG (w.cells ⟨b, o, none⟩ n) w := by
  unfold aggOk at h
  split at h
  case h_2 => cases h
  rename_i d i hd hi
  simp only [Bool.and_eq_true] at h
  have := Nat.eq_of_beq_eq_true h.2
  simp only [loadW, loadC, hd, hi, h.1, cond_true, this, mapG]
  cases w.cells ⟨b, o, none⟩ n <;> rfl

/- making and writing -/
noncomputable def allocW (P : Program) (el : TypeId) (w : AW) : Option (Value × AW) := m_alloc P (fun _ => undef) el w
noncomputable def storeW (P : Program) (t : TypeId) (x v : Value) (w : AW) : Option (Value × AW) :=
  match x with
  | .pointer (some a) => match storeC P t a v w with
    | some s' => some (undef, s')
    | none => none
  | _ => none
noncomputable def bs0W (P : Program) (t : TypeId) (w : AW) : Option (Value × AW) := m_buildSlice P (fun _ => undef) t 0 #[] w
noncomputable def bs1W (P : Program) (t : TypeId) (v : Value) (w : AW) : Option (Value × AW) := m_buildSlice P (fun _ => v) t 1 #[(0, .tmp 0)] w
section
variable (d : Option Tmp) (ty : TypeId) (pos : String) (af : Array Edge) (g : Option (Nat × Bool)) (e : Env) (w : AW)
theorem res_allocW (el : TypeId) : resE P call ⟨d, .alloc el, ty, pos, af, g⟩ e w = memR (allocW P el w) := by rw [res_alloc]; rfl
theorem res_storeW (t : TypeId) (x v : Operand) : resE P call ⟨d, .store t x v, ty, pos, af, g⟩ e w = memR (storeW P t (evE e x) (evE e v) w) := by
  rw [res_store]; unfold m_store storeW
  cases evE e x with
  | pointer a => cases a <;> rfl
  | _ => rfl
theorem res_bs0 (t : TypeId) : resE P call ⟨d, .buildSlice t 0 #[], ty, pos, af, g⟩ e w = memR (bs0W P t w) := by rw [res_mem _ _ _ rfl (fun c h => by cases h)]; rfl
theorem res_bs1 (t : TypeId) (x : Operand) : resE P call ⟨d, .buildSlice t 1 #[(0, x)], ty, pos, af, g⟩ e w = memR (bs1W P t (evE e x) w) := by rw [res_mem _ _ _ rfl (fun c h => by cases h)]; rfl
theorem res_append (xs : Array Operand) (ts : Array TypeId) : resE P call ⟨d, .call ⟨.builtin .append, xs, ts⟩, ty, pos, af, g⟩ e w = appendA P ts (xs.map (evE e)) w := by
  rw [res_call _ _ _ _ _ _ _ _ rfl]; rfl
/-- A call of a closure. -/
theorem res_clo {f : FuncId} {fn : Func} {c : Code} (x : Operand) (xs : Array Operand) (ts : Array TypeId) (cap : Array Value) (hf : P.funcs[f]? = some fn) (hb : fn.body = some c) (hx : evE e x = .func (.func f) #[] cap) :
    resE P call ⟨d, .call ⟨.value x, xs, ts⟩, ty, pos, af, g⟩ e w = call f (xs.map (evE e) ++ cap) w := by
  rw [res_call _ _ _ _ _ _ _ _ rfl]
  unfold callE
  simp only [hx, o_fun, hf, hb]
  simp
end

def alOk (P : Program) (el n : Nat) : Bool :=
  match P.info? el with
  | some i => match i.zero with
    | some z => flatV z && Nat.beq z.cells.toList.length n
    | none => false
  | none => false
theorem allocW_ok {el n : Nat} (h : alOk P el n = true) (w : AW) : ∃ w1 z, allocW P el w = some (.pointer (some ⟨w.size, 0, none⟩), w1) ∧ Gr w w1 ∧ w1.size = w.size + 1 ∧ w1.heap.get w.size = some (.row z el 0) ∧ z.length = n := by
  unfold alOk at h
  split at h
  case h_2 => cases h
  rename_i i hi
  split at h
  case h_2 => cases h
  rename_i z hz
  simp only [Bool.and_eq_true] at h
  obtain ⟨w1, hp⟩ := push_some w (.row z.cells.toList el 0)
  obtain ⟨g1, g2, g3⟩ := push_gr hp
  refine ⟨w1, z.cells.toList, ?_, g1, g2, g3, Nat.eq_of_beq_eq_true h.2⟩
  unfold allocW m_alloc
  simp only [hi, hz, h.1, cond_true, hp]

def stOk (P : Program) (t n : Nat) : Bool :=
  match P.info? t with
  | some i => Nat.beq i.size n
  | none => false
theorem storeW_ok {t n : Nat} (h : stOk P t n = true) {b o : Nat} {w : AW} {v : Value} {l c : List Value} {el : TypeId} {k : Nat} (hv : v.cells.toList = l) (hl : l.length = n) (h1 : l.all oneC = true)
    (hg : w.heap.get b = some (.row c el k)) (hk : k ≤ 1) (ho : o + n ≤ c.length) :
    ∃ w1, storeW P t (.pointer (some ⟨b, o, none⟩)) v w = some (undef, w1) ∧ w1.size = w.size ∧ w1.low = (if w.low ≤ b then w.low else b) ∧ ∀ j, w1.heap.get j = if j = b then some (.row (c.take o ++ l ++ c.drop (o + n)) el k) else w.heap.get j := by
  unfold stOk at h
  split at h
  case h_2 => cases h
  rename_i i hi
  have hsz := Nat.eq_of_beq_eq_true h
  obtain ⟨w1, hu⟩ := upd_some w b (.row (c.take o ++ l ++ c.drop (o + n)) el k)
  have hov : overA c o l = some (c.take o ++ l ++ c.drop (o + n)) := by
    unfold overA
    rw [hl]
    simp only [Nat.ble_eq_true_of_le ho, cond_true]
  obtain ⟨u1, u2, u3⟩ := upd_spec hu
  refine ⟨w1, ?_, u1, ?_, u3⟩
  · unfold storeW storeC
    simp only [hi, hv, hl, hsz, Nat.beq_refl, h1, Bool.and_self, cond_true, hg, Nat.ble_eq_true_of_le hk, hov, hu]
  · unfold AW.upd at hu
    dsimp only at hu
    split at hu
    · cases hu
      show (bif Nat.ble w.low b then w.low else b) = _
      by_cases hb : w.low ≤ b
      · rw [if_pos hb, Nat.ble_eq_true_of_le hb]; rfl
      · rw [if_neg hb]
        cases hq : Nat.ble w.low b with
        | true => exact absurd (Nat.le_of_ble_eq_true hq) hb
        | false => rfl
    · cases hu

theorem bs0W_ok {t n : Nat} (h : slOk P t n = true) (w : AW) : ∃ w1 el, bs0W P t w = some (.slice (some ⟨w.size, 0, none⟩) 0 0, w1) ∧ P.underlying t = some (.slice el) ∧ Gr w w1 ∧ w1.size = w.size + 1 ∧ w1.heap.get w.size = some (.row [] el 0) := by
  unfold slOk at h
  split at h
  case h_2 => cases h
  rename_i el hu
  split at h
  case h_2 => cases h
  rename_i i hi
  obtain ⟨w1, hp⟩ := push_some w (.row [] el 0)
  obtain ⟨g1, g2, g3⟩ := push_gr hp
  refine ⟨w1, el, ?_, hu, g1, g2, g3⟩
  unfold bs0W m_buildSlice
  simp only [hu, hi, Array.isEmpty_empty, Nat.beq_refl, Bool.and_self, cond_true, hp]

/-- A type of slices that can be appended to. -/
def apOk (P : Program) (t el n bytes : Nat) : Bool :=
  match P.underlying t with
  | some (.slice el') => match P.info? el' with
    | some i => match i.zero with
      | some z => Nat.beq el' el && Nat.beq i.size n && Nat.beq z.cells.toList.length n && Nat.beq i.bytes bytes
      | none => false
    | none => false
  | _ => false
end

end Go.Proofs.YtkjbbbjebidniaaGreatDoor
/- Appending; the rules of types in this program. -/

namespace Go.Proofs.YtkjbbbjebidniaaGreatDoor
open Go Go.RowKit
set_option linter.unusedSimpArgs false
set_option linter.unusedVariables false

section
variable {P : Program}

/-- What is appended: so many elements, their cells. -/
def Rd (w : AW) (n : Nat) (x : Value) (q : Nat) (l : List Value) : Prop := lenA x = some q ∧ firstA w n q x = some l ∧ l.length = q * n

theorem flat_len {α : Type} {f : α → List Dt} {k : Nat} (hf : ∀ x, (f x).length = k) : ∀ l : List α, (l.flatMap f).length = l.length * k
  | [] => by simp
  | a :: l => by simp [hf, flat_len hf l, Nat.succ_mul]; omega

theorem Wt.rd {Ψ : Psi} {w : AW} {α : Type} (W : Wt Ψ w) {f : α → List Dt} {k : Nat} (hf : ∀ x, (f x).length = k) {l : List α} {u : Value} (h : Den Ψ u (lst f l)) : ∃ us, Rd w k u l.length us ∧ Dens Ψ us (l.flatMap f) := by
  rcases h.l_inv with ⟨c, rfl, h1, h2⟩ | ⟨b, o, c, rfl, h1, h2⟩
  · have : l = [] := List.eq_nil_of_length_eq_zero h1
    subst this
    exact ⟨[], ⟨rfl, by simp [firstA], by simp⟩, .nil⟩
  · obtain ⟨us, g1, g2⟩ := W.cells h1 h2
    refine ⟨us, ⟨rfl, ?_, by rw [g2.length, flat_len hf]⟩, g2⟩
    rw [flat_len hf] at g1
    exact g1

theorem addedA_sl {P : Program} {w : AW} {t : Nat} {el : TypeId} {i : TypeInfo} {x : Value} {q : Nat} {l : List Value} (hx : Rd w i.size x q l) : addedA w (.slice el) i x = some (q, l) := by
  obtain ⟨h1, h2, h3⟩ := hx
  unfold addedA
  simp only [h1, h2]

/-- Nothing is appended. -/
theorem app_none {t el n bytes : Nat} (h : apOk P t el n bytes = true) {base : Option Addr} {m cap : Nat} {x : Value} {w : AW} {c : List Value} (hx : Rd w n x 0 []) (hold : firstA w n m (.slice base m cap) = some c) (hm : m ≤ cap) :
    appendA P #[t, t] #[.slice base m cap, x] w = .ok (.slice base m cap, w) := by
  unfold apOk at h
  split at h
  case h_2 => cases h
  rename_i el' hu
  split at h
  case h_2 => cases h
  rename_i i hi
  split at h
  case h_2 => cases h
  rename_i z hz
  simp only [Bool.and_eq_true] at h
  obtain ⟨⟨⟨h1, h2⟩, h3⟩, h4⟩ := h
  have h1 := Nat.eq_of_beq_eq_true h1
  have h2 := Nat.eq_of_beq_eq_true h2
  subst h1; subst h2
  unfold appendA
  simp only [List.getElem?_toArray, List.getElem?_cons_zero, List.getElem?_cons_succ, hu, hi, addedA_sl (P := P) (t := t) (el := el') hx, hz, hold, h3, List.length_nil, Nat.zero_mul, Nat.beq_refl, Bool.and_self, cond_true, Nat.add_zero, Nat.ble_eq_true_of_le hm]

/-- A new row is made. -/
theorem app_grow {t el n bytes : Nat} (h : apOk P t el n bytes = true) {base : Option Addr} {m q : Nat} {x : Value} {w : AW} {c l : List Value} (hq : 1 ≤ q) (hb : (2 * (m + q) + 200) * (bytes + 1) ≤ 281474976710656) (hx : Rd w n x q l)
    (hold : firstA w n m (.slice base m m) = some c) (hc : c.length = m * n) :
    appendA P #[t, t] #[.slice base m m, x] w = growA n m (m + q) el (c ++ l) w base := by
  unfold apOk at h
  split at h
  case h_2 => cases h
  rename_i el' hu
  split at h
  case h_2 => cases h
  rename_i i hi
  split at h
  case h_2 => cases h
  rename_i z hz
  simp only [Bool.and_eq_true] at h
  obtain ⟨⟨⟨h1, h2⟩, h3⟩, h4⟩ := h
  have h1 := Nat.eq_of_beq_eq_true h1
  have h2 := Nat.eq_of_beq_eq_true h2
  have h4 := Nat.eq_of_beq_eq_true h4
  subst h1; subst h2; subst h4
  have hnb : Nat.ble (m + q) m = false := by
    cases hh : Nat.ble (m + q) m with
    | false => rfl
    | true => have := Nat.le_of_ble_eq_true hh; omega
  unfold appendA
  simp only [List.getElem?_toArray, List.getElem?_cons_zero, List.getElem?_cons_succ, hu, hi, addedA_sl (P := P) (t := t) (el := el') hx, hz, hold, h3, hx.2.2, Nat.beq_refl, Bool.and_self, cond_true, cond_false, hnb, Nat.ble_eq_true_of_le hb, hc]

theorem growA_new {n m need : Nat} {el : TypeId} {cells : List Value} {w : AW} {base : Option Addr} (hbase : base = none ∨ ∃ b c e, base = some ⟨b, 0, none⟩ ∧ w.heap.get b = some (.row c e 0)) :
    ∃ w1, growA n m need el cells w base = .ok (.slice (some ⟨w.size, 0, none⟩) need need, w1) ∧ Gr w w1 ∧ w1.size = w.size + 1 ∧ w1.heap.get w.size = some (.row cells el 1) := by
  obtain ⟨w1, hp⟩ := push_some w (.row cells el 1)
  obtain ⟨g1, g2, g3⟩ := push_gr hp
  refine ⟨w1, ?_, g1, g2, g3⟩
  unfold growA
  rcases hbase with rfl | ⟨b, c, e, rfl, hg⟩
  · simp only [hp]
  · simp only [hp, hg]

/-- Changed at one block, and there may be more. -/
structure GrB (b : Nat) (w w' : AW) : Prop where
  low : w'.low = if w.low ≤ b then w.low else b
  size : w.size ≤ w'.size
  same : ∀ i, i < w.size → i ≠ b → w'.heap.get i = w.heap.get i

theorem growA_re {n m need : Nat} {el : TypeId} {cells c : List Value} {w : AW} {b : Nat} (hg : w.heap.get b = some (.row c el 1)) (hm : 1 ≤ m) (hc : c.length = m * n) (h1 : cells.all oneC = true) :
    ∃ w1, growA n m need el cells w (some ⟨b, 0, none⟩) = .ok (.slice (some ⟨w.size, 0, none⟩) need need, w1) ∧ GrB b w w1 ∧ w1.size = w.size + 1 ∧ (b < w.size → w1.heap.get w.size = some (.row cells el 1)) := by
  obtain ⟨w1, hp⟩ := push_some w (.row cells el 1)
  obtain ⟨g1, g2, g3⟩ := push_gr hp
  obtain ⟨w2, hu⟩ := upd_some w1 b .dead
  obtain ⟨u1, u2, u3⟩ := upd_spec hu
  refine ⟨w2, ?_, ⟨?_, by omega, fun i h1 h2 => by rw [u3, if_neg h2]; exact g1.same i h1⟩, by omega, fun hlt => by rw [u3, if_neg (by omega)]; exact g3⟩
  · unfold growA
    simp only [hp, hg, Nat.ble_eq_true_of_le hm, Nat.beq_refl, hc, h1, Bool.and_self, cond_true, hu]
  · rw [← g1.low]
    unfold AW.upd at hu
    dsimp only at hu
    split at hu
    · cases hu
      show (bif Nat.ble w1.low b then w1.low else b) = _
      by_cases hb : w1.low ≤ b
      · rw [if_pos hb, Nat.ble_eq_true_of_le hb]; rfl
      · rw [if_neg hb]
        cases hq : Nat.ble w1.low b with
        | true => exact absurd (Nat.le_of_ble_eq_true hq) hb
        | false => rfl
    · cases hu

/-- What is new says what it says. -/
def Psi.add (Ψ : Psi) (b : Nat) (ds : List Dt) : Psi where
  at' := fun b' o => if b' = b then ds[o]? else Ψ.at' b' o
  live := fun b' o => if b' = b then o ≤ ds.length else Ψ.live b' o

theorem Psi.add_le {Ψ : Psi} {w : AW} (W : Wt Ψ w) (ds : List Dt) {b : Nat} (hb : w.size ≤ b) : PLe Ψ (Ψ.add b ds) where
  at' := fun b' o d h => by
    have := (W.live _ _ (W.lv _ _ _ h)).1
    show (if b' = b then _ else _) = _
    rw [if_neg (by omega)]; exact h
  live := fun b' o h => by
    have := (W.live _ _ h).1
    show (if b' = b then _ else _)
    rw [if_neg (by omega)]; exact h

theorem Wt.add {Ψ : Psi} {w w1 : AW} {ds : List Dt} {us : List Value} {el : TypeId} {k b : Nat} (W : Wt Ψ w) (g : Gr w w1) (hb : w.size ≤ b) (hb2 : b < w1.size) (hg : w1.heap.get b = some (.row us el k)) (hD : Dens Ψ us ds) : Wt (Ψ.add b ds) w1 where
  low := by rw [g.low]; exact Nat.le_trans W.low g.size
  cell := fun b' o d h => by
    by_cases e : b' = b
    · subst e
      have h' : (if b' = b' then ds[o]? else Ψ.at' b' o) = some d := h
      rw [if_pos rfl] at h'
      obtain ⟨u, h1, h2⟩ := hD.get h'
      exact ⟨u, by simp only [AW.cell, hg, h1], h2.mono (Psi.add_le W ds hb)⟩
    · have h' : (if b' = b then ds[o]? else Ψ.at' b' o) = some d := h
      rw [if_neg e] at h'
      obtain ⟨u, h1, h2⟩ := (W.gr g).cell b' o d h'
      exact ⟨u, h1, h2.mono (Psi.add_le W ds hb)⟩
  live := fun b' o h => by
    by_cases e : b' = b
    · subst e
      have h' : (if b' = b' then o ≤ ds.length else Ψ.live b' o) := h
      rw [if_pos rfl] at h'
      exact ⟨hb2, us, el, k, hg, by rw [hD.length]; exact h'⟩
    · have h' : (if b' = b then o ≤ ds.length else Ψ.live b' o) := h
      rw [if_neg e] at h'
      exact (W.gr g).live b' o h'
  lv := fun b' o d h => by
    have h' : (if b' = b then ds[o]? else Ψ.at' b' o) = some d := h
    show (if b' = b then _ else _)
    by_cases e : b' = b
    · rw [if_pos e] at h' ⊢; exact Nat.le_of_lt (List.getElem?_eq_some_iff.1 h').1
    · rw [if_neg e] at h' ⊢; exact W.lv _ _ _ h'

theorem Den.new (Ψ : Psi) (b : Nat) {α : Type} (f : α → List Dt) (l : List α) (c : Nat) : Den (Ψ.add b (l.flatMap f)) (.slice (some ⟨b, 0, none⟩) l.length c) (lst f l) :=
  Den.slice (by show (if b = b then _ else _); rw [if_pos rfl]; omega) fun j d h => by show (if b = b then _ else _) = _; rw [if_pos rfl]; simpa using h

/-- A cell of what is new is overwritten by what says the same. -/
theorem Wt.put {Ψ : Psi} {w w1 : AW} {b o k : Nat} {l c : List Value} {ds : List Dt} {el : TypeId} (W : Wt Ψ w) (hsz : w1.size = w.size) (hlow : w1.low = if w.low ≤ b then w.low else b) (hg : w.heap.get b = some (.row c el k)) (ho : o + l.length ≤ c.length)
    (h1 : ∀ j, w1.heap.get j = if j = b then some (.row (c.take o ++ l ++ c.drop (o + l.length)) el k) else w.heap.get j) (hD : ∀ j u, l[j]? = some u → ∀ d, Ψ.at' b (o + j) = some d → Den Ψ u d) : Wt Ψ w1 where
  low := by rw [hlow, hsz]; have := W.low; split <;> omega
  cell := fun b' o' d h => by
    by_cases e : b' = b
    · subst e
      obtain ⟨u, q1, q2⟩ := W.cell b' o' d h
      obtain ⟨c', e', k', r1, r2⟩ := cell_some q1
      rw [hg] at r1; cases r1
      simp only [AW.cell, h1, if_true]
      rcases Nat.lt_or_ge o' o with hlt | hge
      · exact ⟨u, by rw [List.append_assoc, List.getElem?_append_left (by simp; omega), List.getElem?_take_of_lt hlt]; exact r2, q2⟩
      · rcases Nat.lt_or_ge o' (o + l.length) with hlt | hge2
        · have hj : o' - o < l.length := by omega
          refine ⟨l[o' - o], ?_, hD _ _ (List.getElem?_eq_getElem hj) d (by rwa [show o + (o' - o) = o' by omega])⟩
          rw [List.append_assoc, List.getElem?_append_right (by simp; omega), List.getElem?_append_left (by simp; omega)]
          rw [List.length_take, Nat.min_eq_left (by omega)]
          exact List.getElem?_eq_getElem hj
        · refine ⟨u, ?_, q2⟩
          rw [List.getElem?_append_right (by simp; omega), List.getElem?_drop]
          rw [List.length_append, List.length_take, Nat.min_eq_left (by omega)]
          rw [show o + l.length + (o' - (o + l.length)) = o' by omega]
          exact r2
    · obtain ⟨u, q1, q2⟩ := W.cell b' o' d h
      refine ⟨u, ?_, q2⟩
      simp only [AW.cell, h1, if_neg e] at q1 ⊢
      exact q1
  live := fun b' o' h => by
    obtain ⟨q0, c', e', k', q1, q2⟩ := W.live b' o' h
    refine ⟨by omega, ?_⟩
    by_cases e : b' = b
    · subst e
      rw [hg] at q1; cases q1
      refine ⟨_, _, _, by rw [h1, if_pos rfl], ?_⟩
      simp only [List.length_append, List.length_take, List.length_drop]
      omega
    · exact ⟨c', e', k', by rw [h1, if_neg e]; exact q1, q2⟩
  lv := W.lv
end

/- this program's types -/
theorem ld_2 (b o w) : loadW Tryz.prog 2 (.pointer (some ⟨b, o, none⟩)) w = mapR (w.cell ⟨b, o, none⟩) w := ld_one ty_2 b o w
theorem ld_3 (b o w) : loadW Tryz.prog 3 (.pointer (some ⟨b, o, none⟩)) w = mapR (w.cell ⟨b, o, none⟩) w := ld_one ty_3 b o w
theorem ld_9 (b o w) : loadW Tryz.prog 9 (.pointer (some ⟨b, o, none⟩)) w = mapR (w.cell ⟨b, o, none⟩) w := ld_one ty_9 b o w
theorem ld_22 (b o w) : loadW Tryz.prog 22 (.pointer (some ⟨b, o, none⟩)) w = mapR (w.cell ⟨b, o, none⟩) w := ld_one ty_22 b o w
theorem ld_23 (b o w) : loadW Tryz.prog 23 (.pointer (some ⟨b, o, none⟩)) w = mapR (w.cell ⟨b, o, none⟩) w := ld_one ty_23 b o w
theorem ld_26 (b o w) : loadW Tryz.prog 26 (.pointer (some ⟨b, o, none⟩)) w = mapR (w.cell ⟨b, o, none⟩) w := ld_one ty_26 b o w
theorem ld_29 (b o w) : loadW Tryz.prog 29 (.pointer (some ⟨b, o, none⟩)) w = mapR (w.cell ⟨b, o, none⟩) w := ld_one ty_29 b o w
theorem ld_31 (b o w) : loadW Tryz.prog 31 (.pointer (some ⟨b, o, none⟩)) w = mapR (w.cell ⟨b, o, none⟩) w := ld_one ty_31 b o w
theorem ld_38 (b o w) : loadW Tryz.prog 38 (.pointer (some ⟨b, o, none⟩)) w = mapR (w.cell ⟨b, o, none⟩) w := ld_one ty_38 b o w
theorem ld_62 (b o w) : loadW Tryz.prog 62 (.pointer (some ⟨b, o, none⟩)) w = mapR (w.cell ⟨b, o, none⟩) w := ld_one ty_62 b o w
theorem ld_102 (b o w) : loadW Tryz.prog 102 (.pointer (some ⟨b, o, none⟩)) w = mapR (w.cell ⟨b, o, none⟩) w := ld_one ty_102 b o w
theorem ld_119 (b o w) : loadW Tryz.prog 119 (.pointer (some ⟨b, o, none⟩)) w = mapR (w.cell ⟨b, o, none⟩) w := ld_one ty_119 b o w
theorem ld_25 (b o w) : loadW Tryz.prog 25 (.pointer (some ⟨b, o, none⟩)) w = mapG (w.cells ⟨b, o, none⟩ 3) w := ld_agg ty_25 b o w
theorem ld_33 (b o w) : loadW Tryz.prog 33 (.pointer (some ⟨b, o, none⟩)) w = mapG (w.cells ⟨b, o, none⟩ 3) w := ld_agg ty_33 b o w
theorem ld_41 (b o w) : loadW Tryz.prog 41 (.pointer (some ⟨b, o, none⟩)) w = mapG (w.cells ⟨b, o, none⟩ 2) w := ld_agg ty_41 b o w
theorem ld_52 (b o w) : loadW Tryz.prog 52 (.pointer (some ⟨b, o, none⟩)) w = mapG (w.cells ⟨b, o, none⟩ 3) w := ld_agg ty_52 b o w
theorem ld_64 (b o w) : loadW Tryz.prog 64 (.pointer (some ⟨b, o, none⟩)) w = mapG (w.cells ⟨b, o, none⟩ 2) w := ld_agg ty_64 b o w
theorem ld_66 (b o w) : loadW Tryz.prog 66 (.pointer (some ⟨b, o, none⟩)) w = mapG (w.cells ⟨b, o, none⟩ 4) w := ld_agg ty_66 b o w
theorem ld_113 (b o w) : loadW Tryz.prog 113 (.pointer (some ⟨b, o, none⟩)) w = mapG (w.cells ⟨b, o, none⟩ 10) w := ld_agg ty_113 b o w
theorem ld_121 (b o w) : loadW Tryz.prog 121 (.pointer (some ⟨b, o, none⟩)) w = mapG (w.cells ⟨b, o, none⟩ 2) w := ld_agg ty_121 b o w
theorem ld_123 (b o w) : loadW Tryz.prog 123 (.pointer (some ⟨b, o, none⟩)) w = mapG (w.cells ⟨b, o, none⟩ 11) w := ld_agg ty_123 b o w

end Go.Proofs.YtkjbbbjebidniaaGreatDoor
/- The rules for rewriting, in one. -/

namespace Go.Proofs.YtkjbbbjebidniaaGreatDoor
open Go Go.RowKit
set_option linter.unusedSimpArgs false
set_option linter.unusedVariables false

section
variable {P : Program} {call : CallA} {ops : Array Oper}

def gdT (t : Option Tmp) (e : Env) : Value :=
  match t with
  | some t => e t
  | none => undef
theorem gdT_some (t : Tmp) (e : Env) : gdT (some t) e = e t := rfl
def gdV (ops : Array Oper) (j : Nat) (e : Env) : Value := gdT ((ops[j]?).bind (·.dst)) e
theorem gdV_def (l : List Oper) (j : Nat) (e : Env) : gdV l.toArray j e = gdT ((l[j]?).bind (·.dst)) e := by unfold gdV; rw [List.getElem?_toArray]

theorem want_gd (o : Oper) (e : Env) (j : Nat) (want : Bool) (h : o.guard = some (j, want)) : wantE ops o e = guardB (gdV ops j e) want := by
  unfold wantE guardB gdV gdT
  rw [h]
  simp only
  cases (ops[j]?).bind (·.dst) with
  | none => rfl
  | some t => rfl

section
variable (d : Option Tmp) (ty : TypeId) (pos : String) (af : Array Edge) (g : Option (Nat × Bool)) (e : Env) (w : AW)
theorem opsE_gd (op : Op) (j : Nat) (want : Bool) (rest : List Oper) (Q : Env → AW → Prop) :
    opsE P call ops (⟨d, op, ty, pos, af, some (j, want)⟩ :: rest) e w Q = KK (bif guardB (gdV ops j e) want then resE P call ⟨d, op, ty, pos, af, some (j, want)⟩ e w else .ok (undef, w)) (fun r => opsE P call ops rest (putE e d r.1) r.2 Q) := by
  rw [opsE_cons, want_gd _ _ j want rfl]
theorem opsD_gd (i : Nat) (op : Op) (j : Nat) (want : Bool) (rest : List Oper) (Q : Env → AW → Prop) :
    opsD P call ops i (⟨d, op, ty, pos, af, some (j, want)⟩ :: rest) e w Q = KK (bif guardB (gdV ops j e) want then resE P call ⟨d, op, ty, pos, af, some (j, want)⟩ e w.rs else .ok (undef, w.rs)) (fun r => (w.size ≤ r.2.low ∨ solo ops i = true) ∧ opsD P call ops (i + 1) rest (putE e d r.1) (r.2.lw w.low) Q) := by
  rw [opsD_cons, want_gd _ _ j want rfl]

def isSl : Value → Bool
  | .slice _ _ _ => true
  | _ => false
theorem isSl_slice (a : Option Addr) (n c : Nat) : isSl (.slice a n c) = true := rfl
def isStr : Value → Bool
  | .string _ => true
  | _ => false
theorem isStr_string (s : ByteArray) : isStr (.string s) = true := rfl
def lenR (v : Value) (w : AW) : Rs (Value × AW) :=
  match v with
  | .slice _ n _ => .ok (.int .i64 (n : Int), w)
  | .string s => .ok (.int .i64 (s.size : Int), w)
  | _ => .error []
theorem lenR_slice (a : Option Addr) (n c : Nat) (w : AW) : lenR (.slice a n c) w = .ok (.int .i64 (n : Int), w) := rfl
theorem lenR_string (s : ByteArray) (w : AW) : lenR (.string s) w = .ok (.int .i64 (s.size : Int), w) := rfl

theorem res_lenG {t n : Nat} (h : slOk P t n = true) (x : Operand) (hx : isSl (evE e x) = true) : resE P call ⟨d, .call ⟨.builtin .len, #[x], #[t]⟩, ty, pos, af, g⟩ e w = lenR (evE e x) w := by
  cases hv : evE e x with
  | slice a n c => rw [len_ok' d ty pos af g e w h x hv]; rfl
  | _ => rw [hv] at hx; cases hx

theorem res_lenStr {t : Nat} (hu : P.underlying t = some .string) (x : Operand) (hx : isStr (evE e x) = true) : resE P call ⟨d, .call ⟨.builtin .len, #[x], #[t]⟩, ty, pos, af, g⟩ e w = lenR (evE e x) w := by
  cases hv : evE e x with
  | string s =>
    rw [res_val _ _ _ rfl]
    have : v_call P (evE e) ⟨d, .call ⟨.builtin .len, #[x], #[t]⟩, ty, pos, af, g⟩ ⟨.builtin .len, #[x], #[t]⟩ = some (goInt s.size) := by
      unfold v_call
      have hall : (Op.call ⟨.builtin .len, #[x], #[t]⟩).operands.all (fun x => flatV (evE e x)) = true := by
        simp [Op.operands, Call.operands, hv, flatV, flat1]
      simp only [List.getElem?_toArray, List.getElem?_cons_zero, hv, flatA, hall, cond_true]
      have hp : pureA P (execOp (evE e) ⟨d, .call ⟨.builtin .len, #[x], #[t]⟩, ty, pos, af, g⟩) = some (.value (goInt s.size)) := by
        have he : execOp (evE e) ⟨d, .call ⟨.builtin .len, #[x], #[t]⟩, ty, pos, af, g⟩ = (Builtin.len_ #[t] ty #[evE e x] >>= fun v => pure (.value v)) := by
          simp only [execOp, resolve, pure_bind, invoke, builtin, List.map_toArray, List.map_cons, List.map_nil]
        have hl : Builtin.len_ #[t] ty #[evE e x] = (underlying t >>= fun u => match u, evE e x with
          | .string, .string s => pure (goInt s.size)
          | .array n _, _ => pure (goInt n)
          | .pointer arr, _ => do
            let .array n _ ← underlying arr | stuck "len: pointer to array expected"
            pure (goInt n)
          | .slice _, .slice _ n _ => pure (goInt n)
          | .map _ _, .map none | .chan _ _, .chan none => pure (goInt 0)
          | .map _ _, .map (some r) => do
            let .map entries _ ← getObj r | stuck "len: map expected"
            pure (goInt entries.size)
          | .chan _ _, .chan (some r) => do
            let .chan _ buf _ _ _ timer ← getObj r | stuck "len: channel expected"
            pure (goInt (if timer then 0 else buf.size))
          | _, _ => stuck "len: string, array, pointer to array, slice, map or channel expected") := rfl
        rw [he, pureA_bind, hl, pureA_bind, pureA_underlying hu, hv]
        rfl
      simp only [hp]; rfl
    have hk : valK (Op.call ⟨.builtin .len, #[x], #[t]⟩) P (evE e) ⟨d, .call ⟨.builtin .len, #[x], #[t]⟩, ty, pos, af, g⟩ = v_call P (evE e) ⟨d, .call ⟨.builtin .len, #[x], #[t]⟩, ty, pos, af, g⟩ ⟨.builtin .len, #[x], #[t]⟩ := rfl
    show valR (valK (Op.call ⟨.builtin .len, #[x], #[t]⟩) P (evE e) ⟨d, .call ⟨.builtin .len, #[x], #[t]⟩, ty, pos, af, g⟩) w = _
    rw [hk, this]; rfl
  | _ => rw [hv] at hx; cases hx
end

theorem ix_okG {t n : Nat} (h : slOk P t n = true) (e : Operand → Value) (x ix : Operand) (hx : isSl (e x) = true) : v_indexAddr P e t x ix = ixV n (e x) (e ix) := by
  cases hv : e x with
  | slice a len c => rw [← hv]; exact ix_ok h e x ix hv
  | _ => rw [hv] at hx; cases hx
theorem ixV_at (n b o len c : Nat) (k : IntKind) (i : Nat) (h : i < len) : ixV n (.slice (some ⟨b, o, none⟩) len c) (.int k (i : Int)) = some (.pointer (some ⟨b, o + i * n, none⟩)) := ixV_ok n b o len c k i h

def natOf : Value → Nat
  | .int _ i => i.toNat
  | _ => 0
theorem natOf_int (k : IntKind) (i : Nat) : natOf (.int k (i : Int)) = i := rfl
theorem rs_cell (w : AW) (a : Addr) : w.rs.cell a = w.cell a := rfl
theorem rs_cells (w : AW) (a : Addr) (n : Nat) : w.rs.cells a n = w.cells a n := rfl
theorem lw_cell (w : AW) (l : Nat) (a : Addr) : (w.lw l).cell a = w.cell a := rfl
theorem lw_cells (w : AW) (l : Nat) (a : Addr) (n : Nat) : (w.lw l).cells a n = w.cells a n := rfl
theorem rs_size (w : AW) : w.rs.size = w.size := rfl
theorem lw_size (w : AW) (l : Nat) : (w.lw l).size = w.size := rfl
theorem rs_low (w : AW) : w.rs.low = w.size := rfl
theorem rs_heap (w : AW) : w.rs.heap = w.heap := rfl
theorem lw_heap (w : AW) (l : Nat) : (w.lw l).heap = w.heap := rfl
theorem argsE_def (l : List Value) (j : Nat) : argsE l j = (l[j]?).getD undef := rfl
theorem wr {z : Int} (h1 : -4611686018427387904 ≤ z) (h2 : z ≤ 4611686018427387904) : IntKind.i64.wrap z = z := by
  unfold IntKind.wrap
  simp only [IntKind.bits, IntKind.signed, Bool.true_and, decide_eq_true_eq, show (2 : Int) ^ (64 - 1) = 9223372036854775808 from rfl, show (2 : Int) ^ 64 = 18446744073709551616 from rfl]
  split <;> rename_i h <;> omega
theorem wr1 {i : Nat} (h : i < 4611686018427387904) : IntKind.i64.wrap ((i : Int) + 1) = ((i + 1 : Nat) : Int) := by
  rw [wr (by omega) (by omega)]; rfl
end

/-- What holds at a round's head, and what grows less. -/
def Hd (J : Env → AW → Prop) (μ : Env → AW → Nat) (m : Nat) (e : Env) (w : AW) : Prop := J e w ∧ μ e w < m
theorem TF.loopH {n : Nat} {c : Code} {e : Env} {w : AW} {Q : XA → Env → AW → Prop} (J : Env → AW → Prop) (μ : Env → AW → Nat) (h0 : J e w)
    (round : ∀ e w, J e w → TF n c e w (XE.then (fun e1 w1 => Hd J μ (μ e w) e1 w1) Q)) : TF n (.loop c) e w Q := TF.loop J μ h0 round
theorem Gr.lowle {w w' : AW} (g : Gr w w') (h : w.low ≤ w.size) : w'.low ≤ w'.size := by rw [g.low]; exact Nat.le_trans h g.size
theorem rs_gr {w w' : AW} (h : Gr w.rs w') (hl : w.low ≤ w.size) : Gr w (w'.lw w.low) where
  low := by
    show (bif Nat.ble w.low w'.low then w.low else w'.low) = w.low
    have : w'.low = w.size := h.low
    rw [Nat.ble_eq_true_of_le (by omega)]; rfl
  size := h.size
  same := h.same
theorem Wt.rs {Ψ : Psi} {w : AW} (W : Wt Ψ w) : Wt Ψ w.rs := ⟨Nat.le_refl _, W.cell, W.live, W.lv⟩
theorem Wt.lw {Ψ : Psi} {w : AW} (W : Wt Ψ w) (l : Nat) : Wt Ψ (w.lw l) where
  low := by
    show (bif Nat.ble l w.low then l else w.low) ≤ w.size
    have := W.low
    cases h : Nat.ble l w.low with
    | true => have := Nat.le_of_ble_eq_true h; simp only [cond_true]; omega
    | false => simp only [cond_false]; omega
  cell := W.cell
  live := W.live
  lv := W.lv

section
variable {call : CallA} (d : Option Tmp) (ty : TypeId) (pos : String) (af : Array Edge) (g : Option (Nat × Bool)) (e : Env) (w : AW) (x ix : Operand) (ev : Operand → Value)
theorem ln_22 (hx : isSl (evE e x) = true) : resE Tryz.prog call ⟨d, .call ⟨.builtin .len, #[x], #[22]⟩, ty, pos, af, g⟩ e w = lenR (evE e x) w := res_lenG d ty pos af g e w sl_22 x hx
theorem ix_22 (hx : isSl (ev x) = true) : v_indexAddr Tryz.prog ev 22 x ix = ixV 2 (ev x) (ev ix) := ix_okG sl_22 ev x ix hx
theorem ln_23 (hx : isSl (evE e x) = true) : resE Tryz.prog call ⟨d, .call ⟨.builtin .len, #[x], #[23]⟩, ty, pos, af, g⟩ e w = lenR (evE e x) w := res_lenG d ty pos af g e w sl_23 x hx
theorem ix_23 (hx : isSl (ev x) = true) : v_indexAddr Tryz.prog ev 23 x ix = ixV 3 (ev x) (ev ix) := ix_okG sl_23 ev x ix hx
theorem ln_26 (hx : isSl (evE e x) = true) : resE Tryz.prog call ⟨d, .call ⟨.builtin .len, #[x], #[26]⟩, ty, pos, af, g⟩ e w = lenR (evE e x) w := res_lenG d ty pos af g e w sl_26 x hx
theorem ix_26 (hx : isSl (ev x) = true) : v_indexAddr Tryz.prog ev 26 x ix = ixV 3 (ev x) (ev ix) := ix_okG sl_26 ev x ix hx
theorem ln_29 (hx : isSl (evE e x) = true) : resE Tryz.prog call ⟨d, .call ⟨.builtin .len, #[x], #[29]⟩, ty, pos, af, g⟩ e w = lenR (evE e x) w := res_lenG d ty pos af g e w sl_29 x hx
theorem ix_29 (hx : isSl (ev x) = true) : v_indexAddr Tryz.prog ev 29 x ix = ixV 2 (ev x) (ev ix) := ix_okG sl_29 ev x ix hx
theorem ln_31 (hx : isSl (evE e x) = true) : resE Tryz.prog call ⟨d, .call ⟨.builtin .len, #[x], #[31]⟩, ty, pos, af, g⟩ e w = lenR (evE e x) w := res_lenG d ty pos af g e w sl_31 x hx
theorem ix_31 (hx : isSl (ev x) = true) : v_indexAddr Tryz.prog ev 31 x ix = ixV 2 (ev x) (ev ix) := ix_okG sl_31 ev x ix hx
theorem ln_38 (hx : isSl (evE e x) = true) : resE Tryz.prog call ⟨d, .call ⟨.builtin .len, #[x], #[38]⟩, ty, pos, af, g⟩ e w = lenR (evE e x) w := res_lenG d ty pos af g e w sl_38 x hx
theorem ix_38 (hx : isSl (ev x) = true) : v_indexAddr Tryz.prog ev 38 x ix = ixV 2 (ev x) (ev ix) := ix_okG sl_38 ev x ix hx
theorem ln_62 (hx : isSl (evE e x) = true) : resE Tryz.prog call ⟨d, .call ⟨.builtin .len, #[x], #[62]⟩, ty, pos, af, g⟩ e w = lenR (evE e x) w := res_lenG d ty pos af g e w sl_62 x hx
theorem ix_62 (hx : isSl (ev x) = true) : v_indexAddr Tryz.prog ev 62 x ix = ixV 4 (ev x) (ev ix) := ix_okG sl_62 ev x ix hx
theorem ln_102 (hx : isSl (evE e x) = true) : resE Tryz.prog call ⟨d, .call ⟨.builtin .len, #[x], #[102]⟩, ty, pos, af, g⟩ e w = lenR (evE e x) w := res_lenG d ty pos af g e w sl_102 x hx
theorem ix_102 (hx : isSl (ev x) = true) : v_indexAddr Tryz.prog ev 102 x ix = ixV 1 (ev x) (ev ix) := ix_okG sl_102 ev x ix hx
theorem ln_119 (hx : isSl (evE e x) = true) : resE Tryz.prog call ⟨d, .call ⟨.builtin .len, #[x], #[119]⟩, ty, pos, af, g⟩ e w = lenR (evE e x) w := res_lenG d ty pos af g e w sl_119 x hx
theorem ix_119 (hx : isSl (ev x) = true) : v_indexAddr Tryz.prog ev 119 x ix = ixV 11 (ev x) (ev ix) := ix_okG sl_119 ev x ix hx
theorem ln_255 (hx : isSl (evE e x) = true) : resE Tryz.prog call ⟨d, .call ⟨.builtin .len, #[x], #[255]⟩, ty, pos, af, g⟩ e w = lenR (evE e x) w := res_lenG d ty pos af g e w sl_255 x hx
theorem ix_255 (hx : isSl (ev x) = true) : v_indexAddr Tryz.prog ev 255 x ix = ixV 1 (ev x) (ev ix) := ix_okG sl_255 ev x ix hx
theorem ln_9 (hx : isStr (evE e x) = true) : resE Tryz.prog call ⟨d, .call ⟨.builtin .len, #[x], #[9]⟩, ty, pos, af, g⟩ e w = lenR (evE e x) w := res_lenStr d ty pos af g e w (by kernel_rfl) x hx
end
theorem al_33 : alOk Tryz.prog 33 3 = true := by kernel_rfl
theorem al_41 : alOk Tryz.prog 41 2 = true := by kernel_rfl
theorem al_113 : alOk Tryz.prog 113 10 = true := by kernel_rfl
theorem al_121 : alOk Tryz.prog 121 2 = true := by kernel_rfl
theorem al_123 : alOk Tryz.prog 123 11 = true := by kernel_rfl
theorem al_64 : alOk Tryz.prog 64 2 = true := by kernel_rfl
theorem al_66 : alOk Tryz.prog 66 4 = true := by kernel_rfl
theorem al_38 : alOk Tryz.prog 38 1 = true := by kernel_rfl
theorem al_25 : alOk Tryz.prog 25 3 = true := by kernel_rfl
theorem al_52 : alOk Tryz.prog 52 3 = true := by kernel_rfl
theorem st_33 : stOk Tryz.prog 33 3 = true := by kernel_rfl
theorem st_41 : stOk Tryz.prog 41 2 = true := by kernel_rfl
theorem st_113 : stOk Tryz.prog 113 10 = true := by kernel_rfl
theorem st_121 : stOk Tryz.prog 121 2 = true := by kernel_rfl
theorem st_123 : stOk Tryz.prog 123 11 = true := by kernel_rfl
theorem st_64 : stOk Tryz.prog 64 2 = true := by kernel_rfl
theorem st_66 : stOk Tryz.prog 66 4 = true := by kernel_rfl
theorem st_38 : stOk Tryz.prog 38 1 = true := by kernel_rfl
theorem st_25 : stOk Tryz.prog 25 3 = true := by kernel_rfl
theorem st_119 : stOk Tryz.prog 119 1 = true := by kernel_rfl
theorem st_102 : stOk Tryz.prog 102 1 = true := by kernel_rfl
theorem st_31 : stOk Tryz.prog 31 1 = true := by kernel_rfl
theorem st_62 : stOk Tryz.prog 62 1 = true := by kernel_rfl
theorem st_26 : stOk Tryz.prog 26 1 = true := by kernel_rfl
theorem st_29 : stOk Tryz.prog 29 1 = true := by kernel_rfl

set_option linter.defProp false in
def EVS := And.intro @opsE_nil (And.intro @opsE_go (And.intro @opsE_gd (And.intro @opsD_nil (And.intro @opsD_go (And.intro @opsD_gd (And.intro @gdV_def (And.intro @gdT_some (And.intro @res_move (And.intro @res_assign (And.intro @res_binOp (And.intro @res_pick (And.intro @res_boxW (And.intro @res_loadW (And.intro @res_storeW (And.intro @res_allocW (And.intro @res_bs0 (And.intro @res_bs1 (And.intro @res_append (And.intro @res_fieldAddr (And.intro @res_indexAddr (And.intro @res_field (And.intro @res_nilCheck (And.intro @res_extract (And.intro @res_makeFunc (And.intro @pickV_bool (And.intro @guardB_bool (And.intro @evE_tmp (And.intro @evE_const (And.intro @evE_func (And.intro @valR_some (And.intro @memR_some (And.intro @mapR_some (And.intro @mapG_some (And.intro @KK_ok (And.intro @putE_some (And.intro @putE_none (And.intro @upd_at (And.intro @bin_add (And.intro @bin_sub (And.intro @bin_eql (And.intro @bin_neq (And.intro @bin_lss (And.intro @bin_leq (And.intro @bin_gtr (And.intro @bin_geq (And.intro @offV_ptr (And.intro @oracle_hit (And.intro @isSl_slice (And.intro @isStr_string (And.intro @lenR_slice (And.intro @lenR_string (And.intro @natOf_int (And.intro @ixV_at (And.intro @rs_cell (And.intro @rs_cells (And.intro @lw_cell (And.intro @lw_cells (And.intro @rs_size (And.intro @lw_size (And.intro @rs_low (And.intro @rs_heap (And.intro @lw_heap (And.intro @Fin1_ret (And.intro @Fin1_normal (And.intro @fa_25_0 (And.intro @fa_25_1 (And.intro @fa_33_0 (And.intro @fa_33_1 (And.intro @fa_33_2 (And.intro @fa_41_0 (And.intro @fa_41_1 (And.intro @fa_52_0 (And.intro @fa_52_1 (And.intro @fa_52_2 (And.intro @fa_64_0 (And.intro @fa_64_1 (And.intro @fa_66_0 (And.intro @fa_66_1 (And.intro @fa_71_0 (And.intro @fa_113_0 (And.intro @fa_113_1 (And.intro @fa_113_2 (And.intro @fa_113_3 (And.intro @fa_113_4 (And.intro @fa_113_5 (And.intro @fa_113_6 (And.intro @fa_121_0 (And.intro @fa_121_1 (And.intro @fa_123_0 (And.intro @fa_123_1 (And.intro @ld_2 (And.intro @ld_3 (And.intro @ld_9 (And.intro @ld_22 (And.intro @ld_23 (And.intro @ld_26 (And.intro @ld_29 (And.intro @ld_31 (And.intro @ld_38 (And.intro @ld_62 (And.intro @ld_102 (And.intro @ld_119 (And.intro @ld_25 (And.intro @ld_33 (And.intro @ld_41 (And.intro @ld_52 (And.intro @ld_64 (And.intro @ld_66 (And.intro @ld_113 (And.intro @ld_121 (And.intro @ld_123 (And.intro @ix_22 (And.intro @ix_23 (And.intro @ix_26 (And.intro @ix_29 (And.intro @ix_31 (And.intro @ix_38 (And.intro @ix_62 (And.intro @ix_102 (And.intro @ix_119 (And.intro @ix_255 (And.intro @ln_22 (And.intro @ln_23 (And.intro @ln_26 (And.intro @ln_29 (And.intro @ln_31 (And.intro @ln_38 (And.intro @ln_62 (And.intro @ln_102 (And.intro @ln_119 (And.intro @ln_255 (And.intro @ln_9 (And.intro @rf_5 (And.intro @rf_6 (And.intro @rf_7 (And.intro @rf_8 (And.intro @rf_9 (And.intro @rf_10 (And.intro @rf_16 (And.intro @rf_17 (And.intro @rf_18 (And.intro @rf_19 (And.intro @rf_20 (And.intro @rf_21 (And.intro @rf_22 (And.intro @rf_23 (And.intro @rf_24 (And.intro @rf_25 (And.intro @rf_26 (And.intro @rf_27 (And.intro @rf_28 (And.intro @rf_29 (And.intro @rf_30 (And.intro @rf_43 (And.intro @rf_44 (And.intro @rf_45 (And.intro @rf_46 (And.intro @rf_47 (And.intro @rf_48 (And.intro @rf_49 (And.intro @rf_50 (And.intro @rf_51 (And.intro @rf_52 (And.intro @rf_53 (And.intro @rf_54 (And.intro @rf_55 (And.intro @rf_56 (And.intro @rf_57 (And.intro @rf_89 (And.intro @rf_90 (And.intro @rf_91 (And.intro @rf_92 (And.intro @rf_93 (And.intro @rf_94 (And.intro @rf_95 (And.intro @rf_96 (And.intro @rf_99 (And.intro @rf_100 (And.intro @rf_101 (And.intro @rf_164 (And.intro @rf_175 (@rf_4))))))))))))))))))))))))))))))))))))))))))))))))))))))))))))))))))))))))))))))))))))))))))))))))))))))))))))))))))))))))))))))))))))))))))))))))))))))))))))))))))))))))))))))))))))))

set_option linter.defProp false in
/-- Plain rules, in one. -/
def EVL := And.intro @Nat.zero_add (And.intro @Nat.add_zero (And.intro @if_true.{1} (And.intro @if_false.{1} (And.intro @cond_true.{1} (And.intro @cond_false.{1} (And.intro @List.map_toArray.{0, 0} (And.intro @List.map_cons.{0, 0} (And.intro @List.map_nil.{0, 0} (And.intro @Bool.false_eq_true (And.intro @Nat.le_refl (And.intro @true_or (And.intro @or_true (And.intro @true_and (And.intro @beq_self_eq_true.{0} (And.intro @Bool.not_true (And.intro @Bool.not_false (And.intro @List.getElem?_cons_zero.{0} (And.intro @List.getElem?_cons_succ.{0} (And.intro @Option.bind_some.{0, 0} (And.intro @Int.ofNat_lt (And.intro @Int.ofNat_le (And.intro @decide_true (@decide_false)))))))))))))))))))))))

end Go.Proofs.YtkjbbbjebidniaaGreatDoor
