/- The function awake returns true; and the rules of a general walk over a heap of its own. -/
import Derived.Test.YtkjbbbjebidniaaGreatDoorM3
import Derived.Test.YtkjbbbjebidniaaGreatDoorZVK
import Derived.Test.YtkjbbbjebidniaaGreatDoorShelf
/- awake: it returns true, and leaves what was there as it was. -/

namespace Go.Proofs.YtkjbbbjebidniaaGreatDoor
open Go Go.RowKit
set_option linter.unusedSimpArgs false
set_option linter.unusedVariables false

theorem below_sat {P : Program} {ρ : Rho} {wa : AW} {w w' : World} (S : Sat P ρ wa w) (hb : Below w.heap.size w w') : Sat P ρ wa w' ∧ Mv ρ ρ wa wa w w' := by
  refine ⟨⟨fun i img h => ?_, fun i img h => ?_, S.inj⟩, ⟨Le.refl _, fun i img h1 h2 => (by rw [h1] at h2; cases h2), fun i h1 h2 => absurd h2 (by omega), Nat.le_refl _, hb.size, Nat.le_refl _, fun _ _ _ => rfl, fun _ _ _ _ h => h, fun _ _ h => h, fun b hb' _ => hb.block b hb', hb.os, hb.tape, hb.output⟩⟩
  · have := S.dom i img h; exact ⟨this.1, Nat.lt_of_lt_of_le this.2 hb.size⟩
  · obtain ⟨oa, h1, h2⟩ := S.obj i img h
    exact ⟨oa, h1, h2.imp id fun ⟨o, h3, h4⟩ => ⟨o, (hb.block _ (S.dom i img h).2).trans h3, h4⟩⟩

theorem strings_list : ∀ {l l' : List Value} {ρ : Rho} {xs : List ByteArray}, VRs ρ l l' → stringsOf l = some xs → l' = xs.map Value.string
  | _, _, ρ, xs, .nil, h => by simp only [stringsOf, Option.some.injEq] at h; subst h; rfl
  | _, _, ρ, xs, @VRs.cons _ a b la lb hx hs, h => by
    cases hx with
    | string s =>
      simp only [stringsOf] at h
      split at h
      · rename_i r hr
        simp only [Option.some.injEq] at h; subst h
        rw [strings_list hs hr]; rfl
      · simp at h
    | _ => simp [stringsOf] at h

theorem join_ok : JoinOk Tryz.prog 80 := by
  intro args wa v wa' h ρ w args' S hv
  unfold joinA at h
  split at h
  · rename_i a n c sep heq
    rw [heq] at hv
    split at h
    case h_2 => simp at h
    rename_i l hl
    split at h
    case h_2 => simp at h
    rename_i xs hxs
    dsimp only at h
    cases hc : (Nat.ble xs.length 1000000 && Nat.ble n c && Nat.ble (Lib.join (xs.map (·.data.toList)) sep.data.toList).length 1000000) with
    | false => rw [hc] at h; simp at h
    | true =>
      rw [hc] at h; simp only [cond_true, Except.ok.injEq, Prod.mk.injEq] at h
      obtain ⟨q1, q2⟩ := h; subst q1; subst q2
      simp only [Bool.and_eq_true] at hc
      obtain ⟨⟨c1, c2⟩, c3⟩ := hc
      have c1 := Nat.le_of_ble_eq_true c1
      have c2 := Nat.le_of_ble_eq_true c2
      have c3 := Nat.le_of_ble_eq_true c3
      generalize hal : args'.toList = al at hv
      cases hv with
      | cons h1 h2 =>
        cases h2 with
        | cons h3 h4 =>
          cases h4
          cases h3
          cases h1 with
          | @slice b off _ _ c' img hb hcap =>
            have hal' : args' = #[.slice (some ⟨img.blk, off, none⟩) n c', .string sep] := Array.ext' (by rw [hal])
            subst hal'
            obtain ⟨l', r1, r2, r3⟩ := cells_ok S hb hl
            have hl' := strings_list r1 hxs
            have hlen : xs.length = n := by rw [← r2, r1.length, hl']; simp
            subst hlen
            have hblk : img.blk < w.heap.size := (S.dom b img hb).2
            have key := Tryz.strings_Join img.blk off c' xs sep w (fun j x hx => r3 j (.string x) (by rw [hl']; simp [hx])) hblk (by omega) (Nat.le_trans c2 (cap_le hcap)) (by omega)
            refine key.mono fun e w' ⟨he, hbl⟩ => ?_
            obtain ⟨s1, s2⟩ := below_sat S hbl
            exact ⟨ρ, _, he, .string _, s1, s2⟩
          | @slice0 b off off' c' sz u img hb hm hcap =>
            have hal' : args' = #[.slice (some ⟨img.blk, off', none⟩) 0 c', .string sep] := Array.ext' (by rw [hal])
            subst hal'
            have hl0 : l = [] := by
              obtain ⟨_, _, r2, _⟩ := cells_ok S hb hl
              exact List.eq_nil_of_length_eq_zero r2
            subst hl0
            simp only [stringsOf, Option.some.injEq] at hxs
            subst hxs
            have key := Tryz.strings_Join_none (some ⟨img.blk, off', none⟩) c' sep w
            refine key.mono fun e w' ⟨he, hbl⟩ => ?_
            subst hbl
            exact ⟨ρ, _, he, .string _, S, Mv.refl _ _ _⟩
          | @wild b off img hb a2 =>
            have hal' : args' = #[.slice (some a2) 0 0, .string sep] := Array.ext' (by rw [hal])
            subst hal'
            have hl0 : l = [] := by
              obtain ⟨_, _, r2, _⟩ := cells_ok S hb hl
              exact List.eq_nil_of_length_eq_zero r2
            subst hl0
            simp only [stringsOf, Option.some.injEq] at hxs
            subst hxs
            have key := Tryz.strings_Join_none (some a2) 0 sep w
            refine key.mono fun e w' ⟨he, hbl⟩ => ?_
            subst hbl
            exact ⟨ρ, _, he, .string _, S, Mv.refl _ _ _⟩
  · rename_i c sep heq
    rw [heq] at hv
    simp only [Except.ok.injEq, Prod.mk.injEq] at h
    obtain ⟨q1, q2⟩ := h; subst q1; subst q2
    generalize hal : args'.toList = al at hv
    cases hv with
    | cons h1 h2 =>
      cases h2 with
      | cons h3 h4 =>
        cases h4
        cases h3
        cases h1
        have hal' : args' = #[.slice none 0 c, .string sep] := Array.ext' (by rw [hal])
        subst hal'
        have key := Tryz.strings_Join_none none c sep w
        refine key.mono fun e w' ⟨he, hbl⟩ => ?_
        subst hbl
        exact ⟨ρ, _, he, .string _, S, Mv.refl _ _ _⟩
  · simp at h

theorem noCount : NoCount Tryz.prog := by
  have h : Tryz.prog.funcs.toList.all (fun fn => !(fn.name == "runtime.NumGoroutine")) = true := by kernel_rfl
  intro f fn hf _
  have hm : fn ∈ Tryz.prog.funcs.toList := by
    obtain ⟨hlt, rfl⟩ := Array.getElem?_eq_some_iff.1 hf
    simp
  have := List.all_eq_true.1 h fn hm
  simpa using this

theorem mixed : Tryz.prog.follows .mixedOrders = true := by kernel_rfl

def rho0 : Rho := fun i => if i = 0 then some ⟨0, none⟩ else none

theorem rho0_some {i : Nat} {img : Img} (h : rho0 i = some img) : i = 0 ∧ img = ⟨0, none⟩ := by
  unfold rho0 at h
  split at h
  · cases h; exact ⟨by assumption, rfl⟩
  · cases h

theorem noHeap_sat {w : World} (hw : 0 < w.heap.size) : Sat Tryz.prog rho0 noHeap w :=
  ⟨fun i img h => by obtain ⟨rfl, rfl⟩ := rho0_some h; exact ⟨Nat.zero_lt_one, hw⟩,
    fun i img h => by obtain ⟨rfl, rfl⟩ := rho0_some h; exact ⟨.dead, rfl, .inl rfl⟩,
    fun i j im jm h h' _ l1 _ => by obtain ⟨rfl, rfl⟩ := rho0_some h; exact absurd rfl l1⟩

/-- The example that the law asks for first. -/
theorem awake_calls (w : World) (hw : 0 < w.heap.size) : Calls Tryz.prog 4 #[] w fun e w' => e = .returned (.bool true) ∧ Below w.heap.size w w' := by
  have ht := awake_true
  cases hr : callA awakeMask 80 Tryz.prog 60 4 #[] noHeap with
  | error e => rw [hr] at ht; simp [isTrue] at ht
  | ok vw =>
    obtain ⟨v, wa'⟩ := vw
    have hv : v = .bool true := by
      rw [hr] at ht
      unfold isTrue at ht
      split at ht
      · rename_i heq; cases heq; rfl
      · cases ht
    subst hv
    refine (callA_ok noCount mixed join_ok awake_ok 60 4 #[] noHeap _ wa' hr rho0 w #[] (noHeap_sat hw) (fun g hg => by simp at hg; subst hg; rfl) .nil).mono fun e w' ⟨ρ', v', h1, h2, h3, h4⟩ => ?_
    cases h2
    exact ⟨h1, h4.os, h4.tape, h4.output, h4.wsize, fun k hk => h4.frame k hk fun i img hi _ hl => by obtain ⟨rfl, rfl⟩ := rho0_some hi; exact absurd rfl hl⟩

end Go.Proofs.YtkjbbbjebidniaaGreatDoor
/- Code reckoned over a heap of its own, at data that is not closed: rules for what code comes to (no world, no order, no draw in sight). -/

namespace Go.Proofs.YtkjbbbjebidniaaGreatDoor
open Go
set_option linter.unusedSimpArgs false
set_option linter.unusedVariables false

section
variable {P : Program} {gs : List Nat}

/-- What a call comes to, over the own heap. -/
def CallT (gs : List Nat) (P : Program) (f : FuncId) (args : Array Value) (wa : AW) (v : Value) (wa' : AW) : Prop :=
  ∀ ρ w (args' : Array Value), Sat P ρ wa w → (∀ g ∈ gs, ρ g = some ⟨g, none⟩) → VRs ρ args.toList args'.toList →
    Calls P f args' w (fun e w' => ∃ ρ' v', e = .returned v' ∧ VR ρ' v v' ∧ Sat P ρ' wa' w' ∧ Mv ρ ρ' wa wa' w w')

/-- Calls whose outcome is known. -/
noncomputable def oracle : List (FuncId × Array Value × AW × Value × AW) → CallA
  | [] => fun _ _ _ => .error []
  | (f0, a0, w0, v, w') :: l => fun f a w => open Classical in if f = f0 ∧ a = a0 ∧ w = w0 then .ok (v, w') else oracle l f a w

theorem oracle_hit (f : FuncId) (a : Array Value) (w : AW) (v : Value) (w' : AW) (l : List (FuncId × Array Value × AW × Value × AW)) : oracle ((f, a, w, v, w') :: l) f a w = .ok (v, w') := by
  simp [oracle]

theorem oracle_skip {f f0 : FuncId} (h : f ≠ f0) (a a0 : Array Value) (w w0 : AW) (v : Value) (w' : AW) (l : List (FuncId × Array Value × AW × Value × AW)) : oracle ((f0, a0, w0, v, w') :: l) f a w = oracle l f a w := by
  simp [oracle, h]

theorem oracle_ok : ∀ (l : List (FuncId × Array Value × AW × Value × AW)), (∀ t ∈ l, CallT gs P t.1 t.2.1 t.2.2.1 t.2.2.2.1 t.2.2.2.2) → CallOk gs P (oracle l)
  | [], _ => fun f args wa v wa' h => by simp [oracle] at h
  | (f0, a0, w0, v0, w0') :: l, hl => fun f args wa v wa' h => by
    simp only [oracle] at h
    split at h
    · rename_i hc
      obtain ⟨rfl, rfl, rfl⟩ := hc
      simp only [Except.ok.injEq, Prod.mk.injEq] at h
      obtain ⟨rfl, rfl⟩ := h
      exact hl (f, args, wa, v0, w0') (by simp)
    · exact oracle_ok l (fun t ht => hl t (by simp [ht])) f args wa v wa' h

/-- What code comes to. -/
def TC (gs : List Nat) (P : Program) (n : Nat) (c : Code) (s : AS) (Q : XA → AS → Prop) : Prop :=
  ∀ ρ a w, Sat P ρ s.w w → AR ρ n s a → (∀ g ∈ gs, ρ g = some ⟨g, none⟩) → ∀ (K : Exit → Act → World → Prop),
    (∀ x s' ρ' a' w', Q x s' → AR ρ' n s' a' → Sat P ρ' s'.w w' → Mv ρ ρ' s.w s'.w w w' → XOk x K a' w') → c.wp P K a w

theorem TC.mono {n : Nat} {c : Code} {s : AS} {Q Q' : XA → AS → Prop} (h : TC gs P n c s Q) (hq : ∀ x s, Q x s → Q' x s) : TC gs P n c s Q' :=
  fun ρ a w S A hg K hK => h ρ a w S A hg K fun x s' ρ' a' w' q => hK x s' ρ' a' w' (hq x s' q)

theorem TC.skip {n : Nat} {s : AS} {Q : XA → AS → Prop} (h : Q .normal s) : TC gs P n .skip s Q :=
  fun ρ a w S A hg K hK => wp_skip (hK .normal s ρ a w h A S (Mv.refl _ _ _))
theorem TC.exit {n : Nat} {s : AS} {id : Nat} {Q : XA → AS → Prop} (h : Q (.exit id) s) : TC gs P n (.exit id) s Q :=
  fun ρ a w S A hg K hK => wp_exit (hK (.exit id) s ρ a w h A S (Mv.refl _ _ _))
theorem TC.ret {n : Nat} {s : AS} {Q : XA → AS → Prop} (h : Q .ret s) : TC gs P n .ret s Q :=
  fun ρ a w S A hg K hK => wp_ret (hK .ret s ρ a w h A S (Mv.refl _ _ _))

/-- Behind one piece of code another. -/
def XA.then (next : AS → Prop) (Q : XA → AS → Prop) : XA → AS → Prop
  | .normal, s => next s
  | x, s => Q x s

theorem TC.seq {n : Nat} {c1 c2 : Code} {s : AS} {Q : XA → AS → Prop} (h : TC gs P n c1 s (XA.then (fun s1 => TC gs P n c2 s1 Q) Q)) : TC gs P n (.seq c1 c2) s Q := by
  intro ρ a w S A hg K hK
  refine wp_seq (h ρ a w S A hg _ fun x s1 ρ1 a1 w1 q A1 S1 M1 => ?_)
  cases x with
  | normal => exact q ρ1 a1 w1 S1 A1 (fun g hgg => M1.ext _ _ (hg g hgg)) K fun x s2 ρ2 a2 w2 q2 A2 S2 M2 => hK x s2 ρ2 a2 w2 q2 A2 S2 (M1.trans S M2)
  | exit id => exact hK (.exit id) s1 ρ1 a1 w1 q A1 S1 M1
  | ret => exact hK .ret s1 ρ1 a1 w1 q A1 S1 M1

theorem TC.cond {n : Nat} {y : Operand} {c1 c2 : Code} {s : AS} {t : Bool} {Q : XA → AS → Prop} (hk : AS.known gs y = true) (hy : s.eval y = .bool t) (h : TC gs P n (if t then c1 else c2) s Q) : TC gs P n (.cond y c1 c2) s Q := by
  intro ρ a w S A hg K hK
  have hv : VR ρ (s.eval y) (a.eval y) := eval_ok hg hk fun t _ => A.tmps t
  rw [hy] at hv
  generalize hay : a.eval y = ay at hv
  cases hv
  exact wp_cond hay (h ρ a w S A hg K hK)

/-- Out of a block. -/
def XA.out (id : Nat) (Q : XA → AS → Prop) : XA → AS → Prop
  | .exit j, s => if j = id then Q .normal s else Q (.exit j) s
  | x, s => Q x s

theorem TC.block {n id : Nat} {c : Code} {s : AS} {Q : XA → AS → Prop} (h : TC gs P n c s (XA.out id Q)) : TC gs P n (.block id c) s Q := by
  intro ρ a w S A hg K hK
  refine wp_block (h ρ a w S A hg _ fun x s1 ρ1 a1 w1 q A1 S1 M1 => ?_)
  cases x with
  | normal => exact hK .normal s1 ρ1 a1 w1 q A1 S1 M1
  | exit j =>
    show Exit.inBlock id K (.exit j) a1 w1
    have q : (if j = id then Q .normal s1 else Q (.exit j) s1) := q
    by_cases e : j = id
    · simp only [Exit.inBlock, if_pos e]; rw [if_pos e] at q; exact hK .normal s1 ρ1 a1 w1 q A1 S1 M1
    · simp only [Exit.inBlock, if_neg e]; rw [if_neg e] at q; exact hK (.exit j) s1 ρ1 a1 w1 q A1 S1 M1
  | ret => exact hK .ret s1 ρ1 a1 w1 q A1 S1 M1

/-- A loop: what holds at each round's head, and what grows less. -/
theorem TC.loop {n : Nat} {c : Code} {s : AS} {Q : XA → AS → Prop} (J : AS → Prop) (μ : AS → Nat) (h0 : J s)
    (round : ∀ s, J s → TC gs P n c s (XA.then (fun s1 => J s1 ∧ μ s1 < μ s) Q)) : TC gs P n (.loop c) s Q := by
  intro ρ a w S A hg K hK
  have key : ∀ m s1 ρ1 a1 w1, μ s1 = m → J s1 → AR ρ1 n s1 a1 → Sat P ρ1 s1.w w1 → Mv ρ ρ1 s.w s1.w w w1 → rounds P c K (m + 1) a1 w1 := by
    intro m
    induction m using Nat.strongRecOn with
    | _ m ih =>
      intro s1 ρ1 a1 w1 hm hJ A1 S1 M1
      refine round s1 hJ ρ1 a1 w1 S1 A1 (fun g hgg => M1.ext _ _ (hg g hgg)) _ fun x s2 ρ2 a2 w2 q A2 S2 M2 => ?_
      cases x with
      | normal =>
        obtain ⟨hJ2, hlt⟩ := q
        have hr := ih (μ s2) (by omega) s2 ρ2 a2 w2 rfl hJ2 A2 S2 (M1.trans S M2)
        -- fewer rounds are enough
        have up : ∀ (i k : Nat) (a : Act) (w : World), i ≤ k → rounds P c K i a w → rounds P c K k a w := by
          intro i
          induction i with
          | zero => intro k a w _ h; exact h.elim
          | succ i ihi =>
            intro k a w hik h
            cases k with
            | zero => omega
            | succ k =>
              refine Code.wp_mono (fun e a' w' q => ?_) h
              cases e with
              | normal => exact ihi k a' w' (by omega) q
              | _ => exact q
        exact up (μ s2 + 1) m a2 w2 (by omega) hr
      | exit id => exact hK (.exit id) s2 ρ2 a2 w2 q A2 S2 (M1.trans S M2)
      | ret => exact hK .ret s2 ρ2 a2 w2 q A2 S2 (M1.trans S M2)
  exact wp_rounds (key (μ s) s ρ a w rfl h0 A S (Mv.refl _ _ _))

/-- A region, drawn or not, by its text's order. -/
theorem TC.region {n id : Nat} {ops : Array Oper} {draw : Bool} {s s' : AS} {Q : XA → AS → Prop} {call : CallA} (hng : NoCount P) (hmix : P.follows .mixedOrders = true) (hn : n ≤ 1000000) (hck : codeOk gs n (.region id ops draw) = true)
    (hcall : CallOk gs P call) (h : opsA P call ops draw 0 ops.toList s = .ok s') (hq : Q .normal s') : TC gs P n (.region id ops draw) s Q := by
  intro ρ a w S A hg K hK
  have hc : codeA P call 1 (.region id ops draw) s = .ok (.normal, s') := by
    rw [codeA_succ]; simp only [stepC, stepK, c_region, h]
  exact codeA_ok hng hmix hcall hn 1 _ hck S A hg hc K fun ρ' a' w' A' S' M' => hK .normal s' ρ' a' w' hq A' S' M'

/-- A function's results. -/
def TRes (P : Program) (fn : Func) (v : Value) (wa' : AW) (x : XA) (s : AS) : Prop :=
  (x = .normal ∨ x = .ret) ∧ s.w = wa' ∧ ∃ vs, resultsA P s fn.results.toList = .ok vs ∧ (match vs with | [u] => u | vs => .tuple ⟨vs⟩) = v

theorem CallT.of_TC {f : FuncId} {fn : Func} {c : Code} {args : Array Value} {wa wa' : AW} {v : Value} (hf : P.funcs[f]? = some fn) (hb : fn.body = some c) (h1 : args.size ≤ 1000) (h2 : args.size ≤ fn.ntmps)
    (h : TC gs P fn.ntmps c { tmps := putArgs 0 args.toList .nil, w := wa } (TRes P fn v wa')) : CallT gs P f args wa v wa' := by
  intro ρ w args' S hg hv
  have A := enter_AR (w := wa) hv h1 h2
  refine calls_of_wp hf hb (h ρ _ w S A hg _ fun x s' ρ' a' w' q A' S' M' => ?_)
  obtain ⟨hx, hw, vs, hres, hvv⟩ := q
  obtain ⟨v', r1, r2⟩ := results_ok S' A' hres
  have p : a'.defers = [] ∧ ∃ u, (results fn a'.tmps).run P w' = .ok u w' ∧ (∃ ρ' v'', Ending.returned u = .returned v'' ∧ VR ρ' v v'' ∧ Sat P ρ' wa' w' ∧ Mv ρ ρ' wa wa' w w') := by
    refine ⟨A'.defers, v', r2, ρ', v', rfl, ?_, ?_, ?_⟩
    · rw [← hvv]; exact r1
    · rw [← hw]; exact S'
    · rw [← hw]; exact M'
  rcases hx with rfl | rfl
  · exact p
  · exact p

end

end Go.Proofs.YtkjbbbjebidniaaGreatDoor
/- Code reckoned over a heap of its own, at data that is not closed: slots as a function; how operations reckon. -/

namespace Go.Proofs.YtkjbbbjebidniaaGreatDoor
open Go
set_option linter.unusedSimpArgs false
set_option linter.unusedVariables false

abbrev Env := Nat → Value
def upd (e : Env) (t : Nat) (v : Value) : Env := fun j => if j = t then v else e j
theorem upd_same (e : Env) (t : Nat) (v : Value) : upd e t v t = v := by simp [upd]
theorem upd_ne (e : Env) {t j : Nat} (v : Value) (h : j ≠ t) : upd e t v j = e j := by simp [upd, h]
theorem upd_at (e : Env) (t : Nat) (v : Value) (j : Nat) : upd e t v j = if j = t then v else e j := rfl

def evE (e : Env) : Operand → Value
  | .tmp t => e t
  | .const v => v
  | .global g => .pointer (some ⟨g, 0, none⟩)
  | .func f => .func (.func f) #[] #[]
theorem evE_tmp (e : Env) (t : Nat) : evE e (.tmp t) = e t := rfl
theorem evE_const (e : Env) (v : Value) : evE e (.const v) = v := rfl
theorem evE_func (e : Env) (f : FuncId) : evE e (.func f) = .func (.func f) #[] #[] := rfl

/-- The slots of a reckoned state, as a function. -/
def Bears (s : AS) (e : Env) : Prop := ∀ t, (s.tmps.get t).getD undef = e t

theorem Bears.eval {s : AS} {e : Env} (h : Bears s e) : s.eval = evE e := by
  funext x
  cases x with
  | tmp t => exact h t
  | _ => rfl

def putE (e : Env) : Option Tmp → Value → Env
  | none, _ => e
  | some t, v => upd e t v

theorem putE_some (e : Env) (t : Tmp) (v : Value) : putE e (some t) v = upd e t v := rfl
theorem putE_none (e : Env) (v : Value) : putE e none v = e := rfl

def wantE (ops : Array Oper) (o : Oper) (e : Env) : Bool :=
  match o.guard with
  | none => true
  | some (j, want) => match (ops[j]?).bind (·.dst) with
    | none => false
    | some t => match e t with
      | .bool b => b == want
      | _ => false

theorem wantE_eq {ops : Array Oper} {o : Oper} {s : AS} {e : Env} (h : Bears s e) : Region.wanted o (yieldedA ops s) = wantE ops o e := by
  unfold Region.wanted wantE
  cases hg : o.guard with
  | none => rfl
  | some jw =>
    obtain ⟨j, want⟩ := jw
    simp only [yieldedA]
    cases hd : (ops[j]?).bind (·.dst) with
    | none => rfl
    | some t =>
      simp only [h t]
      cases e t <;> first | rfl | (rename_i b; cases b <;> cases want <;> rfl)

/-- A call in a region. -/
noncomputable def callE (P : Program) (call : CallA) (c : Call) (e : Env) (w : AW) : Rs (Value × AW) :=
  match c.callee with
  | .builtin .append => appendA P c.argTypes (c.args.map (evE e)) w
  | .builtin .clear => clearA P c.argTypes (c.args.map (evE e)) w
  | .builtin .cap => match o_cap P c (c.args.map (evE e)) w with
    | .ok (.value v, w) => .ok (v, w)
    | .ok (.enter f args, w) => call f args w
    | .error x => .error x
  | .builtin _ => .error [51]
  | .value f => match evE e f with
    | .func (.func g) first captured => match o_fun P g (first ++ c.args.map (evE e) ++ captured) w with
      | .ok (.value v, w) => .ok (v, w)
      | .ok (.enter f args, w) => call f args w
      | .error x => .error x
    | _ => .error [52]
  | .invoke _ _ => .error [53]

/-- What an operation yields. -/
noncomputable def resE (P : Program) (call : CallA) (o : Oper) (e : Env) (w : AW) : Rs (Value × AW) :=
  bif memless o.op then (match valA P (evE e) o with
    | some v => .ok (v, w)
    | none => .error [62])
  else match o.op with
    | .call c => callE P call c e w
    | _ => match memA P (evE e) o w with
      | some r => .ok r
      | none => .error [63]

theorem resE_eq {P : Program} {call : CallA} {ops : Array Oper} {o : Oper} {s : AS} {e : Env} {w : AW} (h : Bears s e) (hs : s.w = w) {r : Value × AW}
    (hr : (bif wantE ops o e then resE P call o e w else .ok (undef, w)) = .ok r) : resA P call ops o s = .ok r := by
  unfold resA
  rw [wantE_eq h]
  cases hw : wantE ops o e with
  | false => rw [hw] at hr; simp only [cond_false] at hr ⊢; rw [hs]; exact hr
  | true =>
    rw [hw] at hr; simp only [cond_true] at hr ⊢
    unfold resE at hr
    unfold opA
    rw [h.eval, hs]
    cases hm : memless o.op with
    | true =>
      rw [hm] at hr; simp only [cond_true] at hr ⊢
      cases hv : valA P (evE e) o with
      | none => rw [hv] at hr; cases hr
      | some v => rw [hv] at hr; simp only [o_val]; exact hr
    | false =>
      rw [hm] at hr; simp only [cond_false] at hr ⊢
      by_cases hc : ∃ c, o.op = .call c
      · obtain ⟨c, hc⟩ := hc
        rw [hc] at hr ⊢
        have hr : callE P call c e w = .ok r := hr
        show (match o_call P c s with
          | .ok (.value v, w) => .ok (v, w)
          | .ok (.enter f args, w) => call f args w
          | .error x => .error x : Rs (Value × AW)) = .ok r
        unfold callE at hr
        unfold o_call
        cases hcal : c.callee with
        | builtin b =>
          rw [hcal] at hr
          cases b <;> first
            | (cases hr; done)
            | (simp only [o_callK, o_append, h.eval, hs]; simp only at hr; rw [hr])
            | (simp only [o_callK, o_clear, h.eval, hs]; simp only at hr; rw [hr])
            | (simp only [o_callK, h.eval, hs]; simp only at hr; exact hr)
        | value f =>
          rw [hcal] at hr
          simp only [o_callK, o_value, h.eval, hs]
          simp only at hr
          split at hr
          · rename_i g first captured hf
            rw [hf]; exact hr
          · cases hr
        | invoke _ _ => rw [hcal] at hr; cases hr
      · have hr : (match memA P (evE e) o w with | some r => .ok r | none => .error [63] : Rs (Value × AW)) = .ok r := by
          revert hr
          cases hop : o.op <;> intro hr <;> first | exact hr | exact absurd ⟨_, hop⟩ hc
        have : opK o.op P o s = o_mem (memA P (evE e) o w) := by
          rw [← h.eval, ← hs]
          revert hc
          cases hop : o.op <;> intro hc <;> first | rfl | exact absurd ⟨_, rfl⟩ hc
        rw [this]
        cases hv : memA P (evE e) o w with
        | none => rw [hv] at hr; cases hr
        | some r2 => rw [hv] at hr; cases hr; obtain ⟨v, w2⟩ := r; rfl

/-- From here on writes are looked for anew. -/
def AW.rs (w : AW) : AW := { heap := w.heap, size := w.size, low := w.size }
def AW.lw (w : AW) (l : Nat) : AW := { heap := w.heap, size := w.size, low := bif Nat.ble l w.low then l else w.low }

/-- A region's operations, one behind the other, whose order is fixed. -/
def opsE (P : Program) (call : CallA) (ops : Array Oper) : List Oper → Env → AW → (Env → AW → Prop) → Prop
  | [], e, w, Q => Q e w
  | o :: rest, e, w, Q => ∃ v w', (bif wantE ops o e then resE P call o e w else .ok (undef, w)) = .ok (v, w') ∧ opsE P call ops rest (putE e o.dst v) w' Q

/-- .. whose order is drawn. -/
def opsD (P : Program) (call : CallA) (ops : Array Oper) : Nat → List Oper → Env → AW → (Env → AW → Prop) → Prop
  | _, [], e, w, Q => Q e w
  | i, o :: rest, e, w, Q => ∃ v w', (bif wantE ops o e then resE P call o e w.rs else .ok (undef, w.rs)) = .ok (v, w') ∧ (w.size ≤ w'.low ∨ solo ops i = true) ∧ opsD P call ops (i + 1) rest (putE e o.dst v) (w'.lw w.low) Q

theorem putE_bears {s s' : AS} {e : Env} {d : Option Tmp} {v : Value} (h : Bears s e) (hd : ∀ t, d = some t → t < 1000000) (hp : AS.put s d v = .ok s') : Bears s' (putE e d v) := by
  obtain ⟨_, h3⟩ := put_spec hp (Nat.le_refl 1000000) hd
  intro t
  rw [h3]
  cases d with
  | none => simp [putE]; exact h t
  | some t0 =>
    simp only [putE, upd, Option.some.injEq]
    by_cases e1 : t = t0
    · subst e1; simp
    · have : ¬ t0 = t := fun h => e1 h.symm
      simp [e1, this]; exact h t

theorem put_ok (s : AS) (d : Option Tmp) (v : Value) (hd : ∀ t, d = some t → t < 1000000) : ∃ s', AS.put s d v = .ok s' := by
  cases d with
  | none => exact ⟨s, rfl⟩
  | some t =>
    have hg := Tb.get_set 32 s.tmps t v t (Nat.lt_of_le_of_lt (hd t rfl) (by decide))
    refine ⟨{ tmps := s.tmps.set 32 t v, w := s.w }, ?_⟩
    unfold AS.put
    simp only [hg, if_true]

theorem opsE_ok {P : Program} {call : CallA} {ops : Array Oper} {Q : Env → AW → Prop} : ∀ (rest : List Oper) (i : Nat) {s : AS} {e : Env} {w : AW}, (∀ o ∈ rest, ∀ t, o.dst = some t → t < 1000000) → Bears s e → s.w = w →
    opsE P call ops rest e w Q → ∃ s' e', opsA P call ops false i rest s = .ok s' ∧ Bears s' e' ∧ Q e' s'.w
  | [], i, s, e, w, hd, hb, hs, h => ⟨s, e, rfl, hb, by rw [hs]; exact h⟩
  | o :: rest, i, s, e, w, hd, hb, hs, h => by
    obtain ⟨v, w', h1, h2⟩ := h
    have hr := resE_eq hb hs h1
    obtain ⟨s1, hp⟩ := put_ok { s with w := w' } o.dst v (hd o (by simp))
    have hb1 : Bears s1 (putE e o.dst v) := putE_bears (s := { s with w := w' }) hb (hd o (by simp)) hp
    have hw1 : s1.w = w' := put_w hp
    obtain ⟨s2, e2, g1, g2, g3⟩ := opsE_ok rest (i + 1) (fun o2 h => hd o2 (by simp [h])) hb1 hw1 h2
    refine ⟨s2, e2, ?_, g2, g3⟩
    simp only [opsA, cond_false, stepA, hr, hp]
    exact g1

theorem opsD_ok {P : Program} {call : CallA} {ops : Array Oper} {Q : Env → AW → Prop} : ∀ (rest : List Oper) (i : Nat) {s : AS} {e : Env} {w : AW}, (∀ o ∈ rest, ∀ t, o.dst = some t → t < 1000000) → Bears s e → s.w = w →
    opsD P call ops i rest e w Q → ∃ s' e', opsA P call ops true i rest s = .ok s' ∧ Bears s' e' ∧ Q e' s'.w
  | [], i, s, e, w, hd, hb, hs, h => ⟨s, e, rfl, hb, by rw [hs]; exact h⟩
  | o :: rest, i, s, e, w, hd, hb, hs, h => by
    obtain ⟨v, w', h1, hc, h2⟩ := h
    have hr := resE_eq (s := s.reset) (w := w.rs) (ops := ops) hb (by rw [← hs]; rfl) h1
    obtain ⟨s1, hp⟩ := put_ok { s.reset with w := w' } o.dst v (hd o (by simp))
    have hb1 : Bears s1 (putE e o.dst v) := putE_bears (s := { s.reset with w := w' }) hb (hd o (by simp)) hp
    have hw1 : s1.w = w' := put_w hp
    have hb2 : Bears (s1.lower s.w.low) (putE e o.dst v) := hb1
    obtain ⟨s2, e2, g1, g2, g3⟩ := opsD_ok rest (i + 1) (fun o2 h => hd o2 (by simp [h])) hb2 (by rw [← hs, ← hw1]; rfl : (s1.lower s.w.low).w = w'.lw w.low) h2
    refine ⟨s2, e2, ?_, g2, g3⟩
    have hcc : (Nat.ble s.w.size s1.w.low || solo ops i) = true := by
      rw [hw1, hs]
      rcases hc with hc | hc
      · rw [Nat.ble_eq_true_of_le hc]; rfl
      · rw [hc]; simp
    simp only [opsA, cond_true, stepA, hr, hp, hcc]
    exact g1

/-- What code comes to, the slots as a function. -/
def TE (n : Nat) (c : Code) (e : Env) (w : AW) (Q : XA → Env → AW → Prop) : Prop :=
  ∀ s, Bears s e → s.w = w → TC [0] Tryz.prog n c s (fun x s' => ∃ e', Bears s' e' ∧ Q x e' s'.w)

theorem TE.mono {n : Nat} {c : Code} {e : Env} {w : AW} {Q Q' : XA → Env → AW → Prop} (h : TE n c e w Q) (hq : ∀ x e w, Q x e w → Q' x e w) : TE n c e w Q' :=
  fun s hb hs => (h s hb hs).mono fun x s' ⟨e', h1, h2⟩ => ⟨e', h1, hq _ _ _ h2⟩

theorem TE.skip {n : Nat} {e : Env} {w : AW} {Q : XA → Env → AW → Prop} (h : Q .normal e w) : TE n .skip e w Q := fun s hb hs => TC.skip ⟨e, hb, by rw [hs]; exact h⟩
theorem TE.exit {n id : Nat} {e : Env} {w : AW} {Q : XA → Env → AW → Prop} (h : Q (.exit id) e w) : TE n (.exit id) e w Q := fun s hb hs => TC.exit ⟨e, hb, by rw [hs]; exact h⟩
theorem TE.ret {n : Nat} {e : Env} {w : AW} {Q : XA → Env → AW → Prop} (h : Q .ret e w) : TE n .ret e w Q := fun s hb hs => TC.ret ⟨e, hb, by rw [hs]; exact h⟩

def XE.then (next : Env → AW → Prop) (Q : XA → Env → AW → Prop) : XA → Env → AW → Prop
  | .normal, e, w => next e w
  | x, e, w => Q x e w
def XE.out (id : Nat) (Q : XA → Env → AW → Prop) : XA → Env → AW → Prop
  | .exit j, e, w => if j = id then Q .normal e w else Q (.exit j) e w
  | x, e, w => Q x e w

theorem TE.seq {n : Nat} {c1 c2 : Code} {e : Env} {w : AW} {Q : XA → Env → AW → Prop} (h : TE n c1 e w (XE.then (fun e1 w1 => TE n c2 e1 w1 Q) Q)) : TE n (.seq c1 c2) e w Q :=
  fun s hb hs => TC.seq ((h s hb hs).mono fun x s' ⟨e', h1, h2⟩ => by
    cases x with
    | normal => exact h2 s' h1 rfl
    | exit id => exact ⟨e', h1, h2⟩
    | ret => exact ⟨e', h1, h2⟩)

theorem TE.cond {n : Nat} {y : Operand} {c1 c2 : Code} {e : Env} {w : AW} {t : Bool} {Q : XA → Env → AW → Prop} (hk : AS.known [0] y = true) (hy : evE e y = .bool t) (h : TE n (if t then c1 else c2) e w Q) : TE n (.cond y c1 c2) e w Q :=
  fun s hb hs => TC.cond hk (by rw [hb.eval]; exact hy) (h s hb hs)

theorem TE.block {n id : Nat} {c : Code} {e : Env} {w : AW} {Q : XA → Env → AW → Prop} (h : TE n c e w (XE.out id Q)) : TE n (.block id c) e w Q :=
  fun s hb hs => TC.block ((h s hb hs).mono fun x s' ⟨e', h1, h2⟩ => by
    cases x with
    | normal => exact ⟨e', h1, h2⟩
    | exit j =>
      have h2 : (if j = id then Q .normal e' s'.w else Q (.exit j) e' s'.w) := h2
      show (if j = id then _ else _)
      split
      · rename_i hj; rw [if_pos hj] at h2; exact ⟨e', h1, h2⟩
      · rename_i hj; rw [if_neg hj] at h2; exact ⟨e', h1, h2⟩
    | ret => exact ⟨e', h1, h2⟩)

theorem TE.loop {n : Nat} {c : Code} {e : Env} {w : AW} {Q : XA → Env → AW → Prop} (J : Env → AW → Prop) (μ : Env → AW → Nat) (h0 : J e w)
    (round : ∀ e w, J e w → TE n c e w (XE.then (fun e1 w1 => J e1 w1 ∧ μ e1 w1 < μ e w) Q)) : TE n (.loop c) e w Q := by
  intro s hb hs
  refine TC.loop (fun s => ∃ e, Bears s e ∧ J e s.w) (fun s => μ (fun t => (s.tmps.get t).getD undef) s.w) ⟨e, hb, by rw [hs]; exact h0⟩ ?_
  rintro s1 ⟨e1, hb1, hJ1⟩
  have he : ∀ s e, Bears s e → (fun t => (s.tmps.get t).getD undef) = e := fun s e h => funext h
  refine (round e1 s1.w hJ1 s1 hb1 rfl).mono fun x s' ⟨e', h1, h2⟩ => ?_
  cases x with
  | normal =>
    obtain ⟨h3, h4⟩ := h2
    refine ⟨⟨e', h1, h3⟩, ?_⟩
    rw [he s' e' h1, he s1 e1 hb1]; exact h4
  | exit id => exact ⟨e', h1, h2⟩
  | ret => exact ⟨e', h1, h2⟩

theorem dst_lt {n id : Nat} {ops : Array Oper} {draw : Bool} (hn : n ≤ 1000000) (hck : codeOk [0] n (.region id ops draw) = true) : ∀ o ∈ ops.toList, ∀ t, o.dst = some t → t < 1000000 := by
  intro o ho t ht
  simp only [codeOk, Bool.and_eq_true] at hck
  have := List.all_eq_true.1 hck.1 o ho
  simp only [opOk, ht, Bool.and_eq_true] at this
  exact Nat.lt_of_lt_of_le (Nat.lt_of_succ_le (Nat.le_of_ble_eq_true this.2)) hn

theorem TE.reg {n id : Nat} {ops : Array Oper} {e : Env} {w : AW} {Q : XA → Env → AW → Prop} {call : CallA} (hn : n ≤ 1000000) (hck : codeOk [0] n (.region id ops false) = true) (hcall : CallOk [0] Tryz.prog call)
    (h : opsE Tryz.prog call ops ops.toList e w (Q .normal)) : TE n (.region id ops false) e w Q := by
  intro s hb hs
  obtain ⟨s', e', h1, h2, h3⟩ := opsE_ok ops.toList 0 (dst_lt hn hck) hb hs h
  exact TC.region noCount mixed hn hck hcall h1 ⟨e', h2, h3⟩

theorem TE.regD {n id : Nat} {ops : Array Oper} {e : Env} {w : AW} {Q : XA → Env → AW → Prop} {call : CallA} (hn : n ≤ 1000000) (hck : codeOk [0] n (.region id ops true) = true) (hcall : CallOk [0] Tryz.prog call)
    (h : opsD Tryz.prog call ops 0 ops.toList e w (Q .normal)) : TE n (.region id ops true) e w Q := by
  intro s hb hs
  obtain ⟨s', e', h1, h2, h3⟩ := opsD_ok ops.toList 0 (dst_lt hn hck) hb hs h
  exact TC.region noCount mixed hn hck hcall h1 ⟨e', h2, h3⟩

/-- The slots at a call. -/
def argsE (l : List Value) : Env := fun j => (l[j]?).getD undef

theorem args_bears (l : List Value) (w : AW) (h : l.length ≤ 1000) : Bears { tmps := putArgs 0 l .nil, w := w } (argsE l) := by
  intro t
  have hg := putArgs_get l 0 .nil t (by omega)
  simp only [hg, Nat.zero_le, true_and, Nat.zero_add, Nat.sub_zero, Tb.get_nil, argsE]
  split
  · rfl
  · rename_i hlt; rw [List.getElem?_eq_none (by omega)]

noncomputable def resultE (P : Program) (e : Env) (w : AW) : ResultVar → Rs Value
  | .tmp t => .ok (e t)
  | .cell a t => match e a with
    | .pointer (some x) => match loadC P t x w with
      | some v => .ok v
      | none => .error [80]
    | _ => .error [81]

noncomputable def resultsE (P : Program) (e : Env) (w : AW) : List ResultVar → Rs (List Value)
  | [] => .ok []
  | r :: rs => match resultE P e w r with
    | .ok v => match resultsE P e w rs with
      | .ok vs => .ok (v :: vs)
      | .error x => .error x
    | .error x => .error x

theorem results_eq {P : Program} {s : AS} {e : Env} (h : Bears s e) : ∀ (l : List ResultVar), resultsA P s l = resultsE P e s.w l
  | [] => rfl
  | r :: l => by
    have hr : resultA P s r = resultE P e s.w r := by
      cases r with
      | tmp t => simp only [resultA, resultE, h t]
      | cell a t => simp only [resultA, resultE, h a]; rfl
    simp only [resultsA, resultsE, hr, results_eq h l]
    cases resultE P e s.w r with
    | error x => rfl
    | ok v => cases resultsE P e s.w l <;> rfl

/-- A function's results. -/
def ERes (fn : Func) (v : Value) (wa' : AW) (x : XA) (e : Env) (w : AW) : Prop :=
  (x = .normal ∨ x = .ret) ∧ w = wa' ∧ ∃ vs, resultsE Tryz.prog e w fn.results.toList = .ok vs ∧ (match vs with | [u] => u | vs => .tuple ⟨vs⟩) = v

theorem CallT.of_TE {f : FuncId} {fn : Func} {c : Code} {args : List Value} {wa wa' : AW} {v : Value} (hf : Tryz.prog.funcs[f]? = some fn) (hb : fn.body = some c) (h1 : args.length ≤ 1000) (h2 : args.length ≤ fn.ntmps)
    (h : TE fn.ntmps c (argsE args) wa (ERes fn v wa')) : CallT [0] Tryz.prog f ⟨args⟩ wa v wa' :=
  CallT.of_TC hf hb h1 h2 ((h _ (args_bears args wa h1) rfl).mono fun x s ⟨e, q1, q2, q3, vs, q4, q5⟩ => ⟨q2, q3, vs, by rw [results_eq q1]; exact q4, q5⟩)

end Go.Proofs.YtkjbbbjebidniaaGreatDoor
/- Code reckoned over a heap of its own: the heap that mirrors a world. -/

namespace Go.Proofs.YtkjbbbjebidniaaGreatDoor
open Go Go.RowKit
set_option linter.unusedSimpArgs false
set_option linter.unusedVariables false

/-- A cell that can be read: numbers, strings, pointers and slices into what is there. -/
def niceV (n : Nat) : Value → Bool
  | .bool _ | .int _ _ | .string _ | .pointer none | .slice none _ _ | .map none | .nilFunc | .nilIface => true
  | .pointer (some a) => a.spot.isNone && decide (a.block < n)
  | .slice (some a) _ _ => a.spot.isNone && decide (a.block < n)
  | _ => false

def mirV (n : Nat) (v : Value) : Value := if niceV n v then v else .chan none

def mirO (n : Nat) : Obj → AObj
  | .cells c e _ => if c.toList.all Value.oneCell' then .row (c.toList.map (mirV n)) e 2 else .dead
  | _ => .dead

noncomputable def mirT (w : World) : Nat → Tb AObj
  | 0 => .nil
  | i + 1 => (mirT w i).set (i + 1) i (match w.heap[i]? with | some o => mirO w.heap.size o | none => .dead)

noncomputable def mirror (w : World) : AW := { heap := mirT w w.heap.size, size := w.heap.size, low := w.heap.size }

theorem mirT_get (w : World) (n j : Nat) : (mirT w n).get j = if j < n then some (match w.heap[j]? with | some o => mirO w.heap.size o | none => .dead) else none := by
  induction n with
  | zero => simp [mirT, Tb.get_nil]
  | succ n ih =>
    simp only [mirT]
    rw [Tb.get_set (n + 1) _ n _ j (lt_pow n), ih]
    by_cases e : j = n
    · subst e; simp
    · rw [if_neg e]
      by_cases h : j < n
      · rw [if_pos h, if_pos (by omega)]
      · rw [if_neg h, if_neg (by omega)]

def rhoId (w : World) : Rho := fun i => if i < w.heap.size then some ⟨i, none⟩ else none

theorem rhoId_some {w : World} {i : Nat} {img : Img} (h : rhoId w i = some img) : i < w.heap.size ∧ img = ⟨i, none⟩ := by
  unfold rhoId at h
  split at h
  · cases h; exact ⟨by assumption, rfl⟩
  · cases h

theorem rhoId_at {w : World} {i : Nat} (h : i < w.heap.size) : rhoId w i = some ⟨i, none⟩ := by unfold rhoId; rw [if_pos h]

theorem nice_refl {w : World} {v : Value} (h : niceV w.heap.size v = true) : VR (rhoId w) v v := by
  cases v with
  | bool b => exact .bool b
  | int k n => exact .int k n
  | string s => exact .string s
  | pointer a =>
    cases a with
    | none => exact .nilptr
    | some a =>
      obtain ⟨b, off, spot⟩ := a
      simp only [niceV, Bool.and_eq_true, decide_eq_true_eq, Option.isNone_iff_eq_none] at h
      obtain ⟨h1, h2⟩ := h
      subst h1
      exact .ptr (rhoId_at h2)
  | slice a l c =>
    cases a with
    | none => exact .nilslice l c
    | some a =>
      obtain ⟨b, off, spot⟩ := a
      simp only [niceV, Bool.and_eq_true, decide_eq_true_eq, Option.isNone_iff_eq_none] at h
      obtain ⟨h1, h2⟩ := h
      subst h1
      exact .slice (rhoId_at h2) rfl
  | map r =>
    cases r with
    | none => exact .nilmap
    | some r => simp [niceV] at h
  | nilFunc => exact .nilfunc
  | nilIface => exact .niliface
  | _ => simp [niceV] at h

theorem mir_vr {w : World} {v : Value} (h : v.oneCell' = true) : VR (rhoId w) (mirV w.heap.size v) v := by
  unfold mirV
  split
  · rename_i hn; exact nice_refl hn
  · rename_i hn
    refine .poison v ⟨h, fun b hb => ?_⟩
    subst hb
    simp [niceV] at hn

theorem mir_vrs {w : World} : ∀ {l : List Value}, l.all Value.oneCell' = true → VRs (rhoId w) (l.map (mirV w.heap.size)) l
  | [], _ => .nil
  | v :: l, h => by
    simp only [List.all_cons, Bool.and_eq_true] at h
    exact .cons (mir_vr h.1) (mir_vrs h.2)

theorem mirror_sat {P : Program} (w : World) : Sat P (rhoId w) (mirror w) w where
  dom := fun i img h => by obtain ⟨h1, rfl⟩ := rhoId_some h; exact ⟨h1, h1⟩
  obj := fun i img h => by
    obtain ⟨h1, rfl⟩ := rhoId_some h
    refine ⟨_, by show (mirT w w.heap.size).get i = _; rw [mirT_get, if_pos h1], ?_⟩
    have hb : w.heap[i]? = some w.heap[i] := by simp [h1]
    rw [hb]
    simp only
    cases ho : w.heap[i] with
    | cells c e fz =>
      simp only [mirO]
      split
      · rename_i hall
        refine .inr ⟨.cells c e fz, rfl, ?_⟩
        exact .row (c' := c.toList) (mir_vrs hall) (.inr rfl) rfl
      · exact .inl rfl
    | _ => exact .inl rfl
  inj := fun i j im jm hi hj hb _ _ _ => by
    obtain ⟨_, rfl⟩ := rhoId_some hi
    obtain ⟨_, rfl⟩ := rhoId_some hj
    exact hb

theorem mirror_ro (w : World) {i : Nat} (hl : (mirror w).heap.get i ≠ some .dead) (hi : i < w.heap.size) : Ro (mirror w) i := by
  have hg : (mirror w).heap.get i = some (match w.heap[i]? with | some o => mirO w.heap.size o | none => .dead) := by
    show (mirT w w.heap.size).get i = _; rw [mirT_get, if_pos hi]
  rw [hg] at hl
  have hb : w.heap[i]? = some w.heap[i] := by simp [hi]
  rw [hb] at hl hg
  simp only at hl hg
  cases ho : w.heap[i] with
  | cells c e fz =>
    rw [ho] at hl hg
    simp only [mirO] at hl hg
    split at hl
    · rename_i hall; rw [if_pos hall] at hg; exact ⟨_, _, hg⟩
    · exact absurd rfl hl
  | _ => rw [ho] at hl; exact absurd rfl hl

/-- What is shown over the mirror holds in the world, and what was there stays. -/
theorem calls_of_mirror {f : FuncId} {args args' : Array Value} {w : World} {v : Value} {wa' : AW} (hw : 0 < w.heap.size) (hf : flatV v = true) (hv : VRs (rhoId w) args.toList args'.toList)
    (h : CallT [0] Tryz.prog f args (mirror w) v wa') : Calls Tryz.prog f args' w fun e w' => e = .returned v ∧ Below w.heap.size w w' := by
  refine (h (rhoId w) w args' (mirror_sat w) (fun g hg => by simp at hg; subst hg; exact rhoId_at hw) hv).mono fun e w' ⟨ρ', v', h1, h2, h3, h4⟩ => ?_
  have := flat_eq h2 hf
  subst this
  refine ⟨h1, h4.os, h4.tape, h4.output, h4.wsize, fun k hk => h4.frame k hk fun i img hi _ hl => ?_⟩
  obtain ⟨h5, rfl⟩ := rhoId_some hi
  exact .inl (mirror_ro w hl h5)

end Go.Proofs.YtkjbbbjebidniaaGreatDoor
/- Code reckoned over a heap of its own: rules for rewriting. -/

namespace Go.Proofs.YtkjbbbjebidniaaGreatDoor
open Go Go.RowKit
set_option linter.unusedSimpArgs false
set_option linter.unusedVariables false

/-- What follows a value. -/
def KK {α : Type} (r : Rs α) (k : α → Prop) : Prop :=
  match r with
  | .ok a => k a
  | .error _ => False
theorem KK_ok {α : Type} (a : α) (k : α → Prop) : KK (.ok a) k = k a := rfl

section
variable {P : Program} {call : CallA} {ops : Array Oper}

theorem opsE_nil (e : Env) (w : AW) (Q : Env → AW → Prop) : opsE P call ops [] e w Q = Q e w := rfl
theorem opsE_cons (o : Oper) (rest : List Oper) (e : Env) (w : AW) (Q : Env → AW → Prop) :
    opsE P call ops (o :: rest) e w Q = KK (bif wantE ops o e then resE P call o e w else .ok (undef, w)) (fun r => opsE P call ops rest (putE e o.dst r.1) r.2 Q) := by
  apply propext
  constructor
  · rintro ⟨v, w', h1, h2⟩; rw [h1]; exact h2
  · intro h
    cases hr : (bif wantE ops o e then resE P call o e w else .ok (undef, w) : Rs (Value × AW)) with
    | error x => rw [hr] at h; exact h.elim
    | ok r => rw [hr] at h; obtain ⟨v, w'⟩ := r; exact ⟨v, w', hr, h⟩

theorem opsD_nil (i : Nat) (e : Env) (w : AW) (Q : Env → AW → Prop) : opsD P call ops i [] e w Q = Q e w := by cases i <;> rfl
theorem opsD_cons (i : Nat) (o : Oper) (rest : List Oper) (e : Env) (w : AW) (Q : Env → AW → Prop) :
    opsD P call ops i (o :: rest) e w Q = KK (bif wantE ops o e then resE P call o e w.rs else .ok (undef, w.rs)) (fun r => (w.size ≤ r.2.low ∨ solo ops i = true) ∧ opsD P call ops (i + 1) rest (putE e o.dst r.1) (r.2.lw w.low) Q) := by
  apply propext
  constructor
  · rintro ⟨v, w', h1, h2⟩; rw [h1]; exact h2
  · intro h
    cases hr : (bif wantE ops o e then resE P call o e w.rs else .ok (undef, w.rs) : Rs (Value × AW)) with
    | error x => rw [hr] at h; exact h.elim
    | ok r => rw [hr] at h; obtain ⟨v, w'⟩ := r; exact ⟨v, w', hr, h⟩

theorem rs_lw (w : AW) (h : w.low ≤ w.size) : w.rs.lw w.low = w := by
  unfold AW.rs AW.lw
  simp only [Nat.ble_eq_true_of_le h, cond_true]
theorem rs_le (w : AW) : w.size ≤ w.rs.low := Nat.le_refl _
theorem rs_rs (w : AW) : w.rs.rs = w.rs := rfl

theorem want_none (o : Oper) (e : Env) (h : o.guard = none) : wantE ops o e = true := by unfold wantE; rw [h]

def valR (v : Option Value) (w : AW) : Rs (Value × AW) :=
  match v with
  | some v => .ok (v, w)
  | none => .error [62]
def memR (v : Option (Value × AW)) : Rs (Value × AW) :=
  match v with
  | some r => .ok r
  | none => .error [63]
theorem valR_some (v : Value) (w : AW) : valR (some v) w = .ok (v, w) := rfl
theorem memR_some (r : Value × AW) : memR (some r) = .ok r := rfl

theorem res_val (o : Oper) (e : Env) (w : AW) (h : memless o.op = true) : resE P call o e w = valR (valK o.op P (evE e) o) w := by
  unfold resE; rw [h]; rfl
theorem res_mem (o : Oper) (e : Env) (w : AW) (h : memless o.op = false) (hc : ∀ c, o.op ≠ .call c) : resE P call o e w = memR (memK o.op P (evE e) o w) := by
  unfold resE; rw [h]
  simp only [cond_false]
  cases hop : o.op <;> first | exact absurd hop (hc _) | (show (match memA P (evE e) o w with | some r => _ | none => _) = _; unfold memA; rw [hop]; rfl)
theorem res_call (d : Option Tmp) (c : Call) (ty : TypeId) (pos : String) (af : Array Edge) (g : Option (Nat × Bool)) (e : Env) (w : AW) (h : memless (.call c) = false) :
    resE P call ⟨d, .call c, ty, pos, af, g⟩ e w = callE P call c e w := by
  unfold resE; simp only [h, cond_false]

/-- A call of a function with a body. -/
theorem call_fun {f : FuncId} {args : Array Operand} {tys : Array TypeId} {e : Env} {w : AW} {fn : Func} {c : Code} (hf : P.funcs[f]? = some fn) (hb : fn.body = some c) :
    callE P call ⟨.value (.func f), args, tys⟩ e w = call f (args.map (evE e)) w := by
  unfold callE
  simp only [evE_func, o_fun, hf, hb]
  simp

/-- Two values. -/
noncomputable def binV (P : Program) (op : BinOp) (xt : TypeId) (x y : Operand) (vx vy : Value) : Option Value :=
  bif flatV vx && flatV vy then
    (match pureA P (do eqGuard op xt x y vx vy; binOp op xt vx vy) with
    | some v => bif flatV v then some v else none
    | none => none)
  else match P.underlying xt with
    | some d => bif nilCmp d vx vy then
        (match op with
        | .eql => some (.bool false)
        | .neq => some (.bool true)
        | _ => none)
      else none
    | none => none

theorem pureA_bind {α β : Type} (s : Sem α) (f : α → Sem β) : pureA P (s >>= f) = (pureA P s).bind fun a => pureA P (f a) := by
  show pureA P (s.bind f) = _
  induction s with
  | pure a => rfl
  | program k ih => exact ih P
  | mark m k ih => exact ih
  | _ => rfl

theorem v_bin (e : Operand → Value) (d : Option Tmp) (op : BinOp) (xt : TypeId) (x y : Operand) (yt ty : TypeId) (pos : String) (af : Array Edge) (g : Option (Nat × Bool)) :
    v_binOp P e ⟨d, .binOp op xt x y yt, ty, pos, af, g⟩ op xt x y = binV P op xt x y (e x) (e y) := by
  unfold v_binOp binV
  cases hf : (flatV (e x) && flatV (e y)) with
  | false => rfl
  | true =>
    simp only [cond_true]
    have hall : (Op.binOp op xt x y yt).operands.all (fun x => flatV (e x)) = true := by
      rw [Bool.and_eq_true] at hf
      simp [Op.operands, hf.1, hf.2]
    unfold flatA
    simp only [hall, cond_true]
    have he : execOp e ⟨d, .binOp op xt x y yt, ty, pos, af, g⟩ = ((do eqGuard op xt x y (e x) (e y); binOp op xt (e x) (e y)) >>= fun v => pure (.value v)) := rfl
    rw [he, pureA_bind]
    cases pureA P (do eqGuard op xt x y (e x) (e y); binOp op xt (e x) (e y)) <;> rfl

section
variable (xt : TypeId) (x y : Operand) (k : IntKind) (a b : Int)
theorem bin_add : binV P .add xt x y (.int k a) (.int k b) = some (.int k (k.wrap (a + b))) := by simp [binV, flatV, flat1, eqGuard, binOp, Op.intArith]; rfl
theorem bin_sub : binV P .sub xt x y (.int k a) (.int k b) = some (.int k (k.wrap (a - b))) := by simp [binV, flatV, flat1, eqGuard, binOp, Op.intArith]; rfl
theorem bin_eql : binV P .eql xt x y (.int k a) (.int k b) = some (.bool (a == b)) := by simp [binV, flatV, flat1, eqGuard, binOp, Op.intCmp]; rfl
theorem bin_neq : binV P .neq xt x y (.int k a) (.int k b) = some (.bool (a != b)) := by simp [binV, flatV, flat1, eqGuard, binOp, Op.intCmp]; rfl
theorem bin_lss : binV P .lss xt x y (.int k a) (.int k b) = some (.bool (decide (a < b))) := by simp [binV, flatV, flat1, eqGuard, binOp, Op.intCmp]; rfl
theorem bin_leq : binV P .leq xt x y (.int k a) (.int k b) = some (.bool (decide (a ≤ b))) := by simp [binV, flatV, flat1, eqGuard, binOp, Op.intCmp]; rfl
theorem bin_gtr : binV P .gtr xt x y (.int k a) (.int k b) = some (.bool (decide (a > b))) := by simp [binV, flatV, flat1, eqGuard, binOp, Op.intCmp]; rfl
theorem bin_geq : binV P .geq xt x y (.int k a) (.int k b) = some (.bool (decide (a ≥ b))) := by simp [binV, flatV, flat1, eqGuard, binOp, Op.intCmp]; rfl
end

section
variable (d : Option Tmp) (ty : TypeId) (pos : String) (af : Array Edge) (g : Option (Nat × Bool)) (e : Env) (w : AW)

theorem opsE_go (op : Op) (rest : List Oper) (Q : Env → AW → Prop) :
    opsE P call ops (⟨d, op, ty, pos, af, none⟩ :: rest) e w Q = KK (resE P call ⟨d, op, ty, pos, af, none⟩ e w) (fun r => opsE P call ops rest (putE e d r.1) r.2 Q) := by
  rw [opsE_cons]; rfl
theorem opsD_go (i : Nat) (op : Op) (rest : List Oper) (Q : Env → AW → Prop) :
    opsD P call ops i (⟨d, op, ty, pos, af, none⟩ :: rest) e w Q = KK (resE P call ⟨d, op, ty, pos, af, none⟩ e w.rs) (fun r => (w.size ≤ r.2.low ∨ solo ops i = true) ∧ opsD P call ops (i + 1) rest (putE e d r.1) (r.2.lw w.low) Q) := by
  rw [opsD_cons]; rfl

/-- Does a guard let by? -/
def guardB (v : Value) (want : Bool) : Bool :=
  match v with
  | .bool b => b == want
  | _ => false
theorem guardB_bool (b want : Bool) : guardB (.bool b) want = (b == want) := rfl

theorem opsE_if (op : Op) (j : Nat) (want : Bool) (t : Tmp) (rest : List Oper) (Q : Env → AW → Prop) (hj : (ops[j]?).bind (·.dst) = some t) :
    opsE P call ops (⟨d, op, ty, pos, af, some (j, want)⟩ :: rest) e w Q = KK (bif guardB (e t) want then resE P call ⟨d, op, ty, pos, af, some (j, want)⟩ e w else .ok (undef, w)) (fun r => opsE P call ops rest (putE e d r.1) r.2 Q) := by
  rw [opsE_cons]
  have : wantE ops ⟨d, op, ty, pos, af, some (j, want)⟩ e = guardB (e t) want := by
    unfold wantE guardB
    simp only [hj]
    all_goals (cases e t <;> rfl)
  rw [this]

def pickV (vc va vb : Value) : Option Value :=
  match vc with
  | .bool t => some (bif t then va else vb)
  | _ => none
theorem pickV_bool (t : Bool) (va vb : Value) : pickV (.bool t) va vb = some (bif t then va else vb) := rfl

theorem res_move (x : Operand) : resE P call ⟨d, .move x, ty, pos, af, g⟩ e w = .ok (evE e x, w) := rfl
theorem res_assign (x : Operand) : resE P call ⟨d, .assign x, ty, pos, af, g⟩ e w = .ok (evE e x, w) := rfl
theorem res_pick (c a b : Operand) : resE P call ⟨d, .pick c a b, ty, pos, af, g⟩ e w = valR (pickV (evE e c) (evE e a) (evE e b)) w := by
  rw [res_val _ _ _ rfl]; rfl
theorem res_extract (t : Operand) (ix : Nat) : resE P call ⟨d, .extract t ix, ty, pos, af, g⟩ e w = valR (v_extract P (evE e) t ix) w := by rw [res_val _ _ _ rfl]; rfl
theorem res_nilCheck (x : Operand) : resE P call ⟨d, .nilCheck x, ty, pos, af, g⟩ e w = valR (v_nilCheck P (evE e) x) w := by rw [res_val _ _ _ rfl]; rfl
theorem res_makeFunc (f : FuncId) (a b : Array Operand) : resE P call ⟨d, .makeFunc (.func f) a b, ty, pos, af, g⟩ e w = .ok (.func (.func f) (a.map (evE e)) (b.map (evE e)), w) := by rw [res_val _ _ _ rfl]; rfl
theorem res_fieldAddr (st : TypeId) (x : Operand) (f : Nat) : resE P call ⟨d, .fieldAddr st x f, ty, pos, af, g⟩ e w = valR (v_fieldAddr P (evE e) st x f) w := by rw [res_val _ _ _ rfl]; rfl
theorem res_field (st : TypeId) (x : Operand) (f : Nat) : resE P call ⟨d, .field st x f, ty, pos, af, g⟩ e w = valR (v_field P (evE e) st x f) w := by rw [res_val _ _ _ rfl]; rfl
theorem res_indexAddr (t : TypeId) (x ix : Operand) : resE P call ⟨d, .indexAddr t x ix, ty, pos, af, g⟩ e w = valR (v_indexAddr P (evE e) t x ix) w := by rw [res_val _ _ _ rfl]; rfl
theorem res_build (t : TypeId) (ps : Array (Nat × Operand)) : resE P call ⟨d, .build t ps, ty, pos, af, g⟩ e w = valR (v_build P (evE e) t ps) w := by rw [res_val _ _ _ rfl]; rfl
theorem res_binOp (op : BinOp) (xt yt : TypeId) (x y : Operand) : resE P call ⟨d, .binOp op xt x y yt, ty, pos, af, g⟩ e w = valR (binV P op xt x y (evE e x) (evE e y)) w := by
  rw [res_val _ _ _ rfl, ← v_bin (P := P) (evE e) d op xt x y yt ty pos af g]; rfl

/-- How long a value is. -/
def lenV : Value → Option Value
  | .slice _ n _ => some (goInt n)
  | .string s => some (goInt s.size)
  | _ => none
theorem lenV_slice (a : Option Addr) (n c : Nat) : lenV (.slice a n c) = some (goInt n) := rfl
theorem lenV_string (s : ByteArray) : lenV (.string s) = some (goInt s.size) := rfl

theorem pureA_underlying {t : TypeId} {u : TypeDesc} (h : P.underlying t = some u) : pureA P (underlying t) = some u := by
  unfold underlying
  rw [pureA_bind]
  show (some P).bind (fun p => pureA P (match p.underlying t with | some d => pure d | none => stuck "no such type")) = some u
  simp only [Option.bind_some, h]
  rfl

theorem res_len {t el : TypeId} (x : Operand) (hu : P.underlying t = some (.slice el)) {a : Option Addr} {n c : Nat} (hx : evE e x = .slice a n c) :
    resE P call ⟨d, .call ⟨.builtin .len, #[x], #[t]⟩, ty, pos, af, g⟩ e w = .ok (goInt n, w) := by
  rw [res_val _ _ _ rfl]
  have : v_call P (evE e) ⟨d, .call ⟨.builtin .len, #[x], #[t]⟩, ty, pos, af, g⟩ ⟨.builtin .len, #[x], #[t]⟩ = some (goInt n) := by
    unfold v_call
    cases a with
    | some a => simp [hx, hu]
    | none =>
      have hall : (Op.call ⟨.builtin .len, #[x], #[t]⟩).operands.all (fun x => flatV (evE e x)) = true := by
        simp [Op.operands, Call.operands, hx, flatV, flat1]
      simp only [List.getElem?_toArray, List.getElem?_cons_zero, hx, flatA, hall, cond_true]
      have hp : pureA P (execOp (evE e) ⟨d, .call ⟨.builtin .len, #[x], #[t]⟩, ty, pos, af, g⟩) = some (.value (goInt n)) := by
        have he : execOp (evE e) ⟨d, .call ⟨.builtin .len, #[x], #[t]⟩, ty, pos, af, g⟩ = (Builtin.len_ #[t] ty #[evE e x] >>= fun v => pure (.value v)) := by
          simp only [execOp, resolve, pure_bind, invoke, builtin, List.map_toArray, List.map_cons, List.map_nil]
        have hl : Builtin.len_ #[t] ty #[evE e x] = (underlying t >>= fun u => match u, evE e x with
          | .string, .string s => pure (goInt s.size)
          | .array n _, _ => pure (goInt n)
          | .pointer arr, _ => do
            let .array n _ ← underlying arr | stuck "len: pointer to array expected"
            pure (goInt n)
          | .slice _, .slice _ n _ => pure (goInt n)
          | .map _ _, .map none | .chan _ _, .chan none => pure (goInt 0)
          | .map _ _, .map (some r) => do
            let .map entries _ ← getObj r | stuck "len: map expected"
            pure (goInt entries.size)
          | .chan _ _, .chan (some r) => do
            let .chan _ buf _ _ _ timer ← getObj r | stuck "len: channel expected"
            pure (goInt (if timer then 0 else buf.size))
          | _, _ => stuck "len: string, array, pointer to array, slice, map or channel expected") := rfl
        rw [he, pureA_bind, hl, pureA_bind, pureA_underlying hu, hx]
        rfl
      simp only [hp]; rfl
  have hv : valK (Op.call ⟨.builtin .len, #[x], #[t]⟩) P (evE e) ⟨d, .call ⟨.builtin .len, #[x], #[t]⟩, ty, pos, af, g⟩ = v_call P (evE e) ⟨d, .call ⟨.builtin .len, #[x], #[t]⟩, ty, pos, af, g⟩ ⟨.builtin .len, #[x], #[t]⟩ := rfl
  show valR (valK (Op.call ⟨.builtin .len, #[x], #[t]⟩) P (evE e) ⟨d, .call ⟨.builtin .len, #[x], #[t]⟩, ty, pos, af, g⟩) w = _
  rw [hv, this]; rfl

theorem res_box (el : TypeId) (x : Operand) : resE P call ⟨d, .box el x, ty, pos, af, g⟩ e w = memR (m_box P (evE e) el x w) := by rw [res_mem _ _ _ rfl (fun c h => by cases h)]; rfl
theorem res_alloc (el : TypeId) : resE P call ⟨d, .alloc el, ty, pos, af, g⟩ e w = memR (m_alloc P (evE e) el w) := by rw [res_mem _ _ _ rfl (fun c h => by cases h)]; rfl
theorem res_load (t : TypeId) (x : Operand) : resE P call ⟨d, .load t x, ty, pos, af, g⟩ e w = memR (m_load P (evE e) t x w) := by rw [res_mem _ _ _ rfl (fun c h => by cases h)]; rfl
theorem res_store (t : TypeId) (x v : Operand) : resE P call ⟨d, .store t x v, ty, pos, af, g⟩ e w = memR (m_store P (evE e) t x v w) := by rw [res_mem _ _ _ rfl (fun c h => by cases h)]; rfl
theorem res_fun {f : FuncId} {fn : Func} {c : Code} (xs : Array Operand) (ts : Array TypeId) (hf : P.funcs[f]? = some fn) (hb : fn.body = some c) :
    resE P call ⟨d, .call ⟨.value (.func f), xs, ts⟩, ty, pos, af, g⟩ e w = call f (xs.map (evE e)) w := by
  rw [res_call _ _ _ _ _ _ _ _ rfl, call_fun hf hb]
end

end

end Go.Proofs.YtkjbbbjebidniaaGreatDoor
/- number, sign, CompareRow. -/

namespace Go.Proofs.YtkjbbbjebidniaaGreatDoor
open Go Go.RowKit
set_option linter.unusedSimpArgs false
set_option linter.unusedVariables false

def num (a b : Int) : Int := if a < b then -1 else if a > b then 1 else 0

/-- The end of a function. -/
theorem ERes.of {fn : Func} {t : Tmp} {v : Value} {w : AW} {x : XA} {e : Env} (hr : fn.results.toList = [.tmp t]) (hx : x = .normal ∨ x = .ret) (hv : e t = v) : ERes fn v w x e w :=
  ⟨hx, rfl, [v], by rw [hr]; simp only [resultsE, resultE, hv], rfl⟩

theorem number_ok (a b : Int) (h : AW) : CallT [0] Tryz.prog 96 #[.int .i64 a, .int .i64 b] h (.int .i64 (num a b)) h := by
  refine CallT.of_TE (args := [.int .i64 a, .int .i64 b]) Tryz.func96 rfl (by simp) (by show _ ≤ 11; simp) ?_
  have a0 : argsE [.int .i64 a, .int .i64 b] 0 = .int .i64 a := rfl
  have a1 : argsE [.int .i64 a, .int .i64 b] 1 = .int .i64 b := rfl
  refine TE.seq ?_; (refine TE.reg (call := oracle []) (by show 11 ≤ 1000000; decide) (by kernel_rfl) (oracle_ok [] (by simp)) ?_); (simp only [opsE_go, opsE_nil, opsD_go, opsD_nil, res_move, res_assign, res_binOp, res_pick, pickV_bool, guardB_bool, evE_tmp, evE_const, evE_func, valR_some, memR_some, KK_ok, putE_some, putE_none, upd_at, XE.then, XE.out, bin_add, bin_sub, bin_eql, bin_neq, bin_lss, bin_leq, bin_gtr, bin_geq, Nat.reduceEqDiff, if_true, if_false, if_pos, if_neg, cond_true, cond_false, reduceIte, List.map_toArray, List.map_cons, List.map_nil, a0, a1])
  refine TE.seq (TE.seq ?_); (refine TE.reg (call := oracle []) (by show 11 ≤ 1000000; decide) (by kernel_rfl) (oracle_ok [] (by simp)) ?_); (simp only [opsE_go, opsE_nil, opsD_go, opsD_nil, res_move, res_assign, res_binOp, res_pick, pickV_bool, guardB_bool, evE_tmp, evE_const, evE_func, valR_some, memR_some, KK_ok, putE_some, putE_none, upd_at, XE.then, XE.out, bin_add, bin_sub, bin_eql, bin_neq, bin_lss, bin_leq, bin_gtr, bin_geq, Nat.reduceEqDiff, if_true, if_false, if_pos, if_neg, cond_true, cond_false, reduceIte, List.map_toArray, List.map_cons, List.map_nil, a0, a1])
  by_cases h1 : a < b
  · refine TE.cond (t := true) rfl (by (simp only [opsE_go, opsE_nil, opsD_go, opsD_nil, res_move, res_assign, res_binOp, res_pick, pickV_bool, guardB_bool, evE_tmp, evE_const, evE_func, valR_some, memR_some, KK_ok, putE_some, putE_none, upd_at, XE.then, XE.out, bin_add, bin_sub, bin_eql, bin_neq, bin_lss, bin_leq, bin_gtr, bin_geq, Nat.reduceEqDiff, if_true, if_false, if_pos, if_neg, cond_true, cond_false, reduceIte, List.map_toArray, List.map_cons, List.map_nil, h1, decide_true])) ?_; (simp only [opsE_go, opsE_nil, opsD_go, opsD_nil, res_move, res_assign, res_binOp, res_pick, pickV_bool, guardB_bool, evE_tmp, evE_const, evE_func, valR_some, memR_some, KK_ok, putE_some, putE_none, upd_at, XE.then, XE.out, bin_add, bin_sub, bin_eql, bin_neq, bin_lss, bin_leq, bin_gtr, bin_geq, Nat.reduceEqDiff, if_true, if_false, if_pos, if_neg, cond_true, cond_false, reduceIte, List.map_toArray, List.map_cons, List.map_nil])
    refine TE.seq ?_; (refine TE.reg (call := oracle []) (by show 11 ≤ 1000000; decide) (by kernel_rfl) (oracle_ok [] (by simp)) ?_); (simp only [opsE_go, opsE_nil, opsD_go, opsD_nil, res_move, res_assign, res_binOp, res_pick, pickV_bool, guardB_bool, evE_tmp, evE_const, evE_func, valR_some, memR_some, KK_ok, putE_some, putE_none, upd_at, XE.then, XE.out, bin_add, bin_sub, bin_eql, bin_neq, bin_lss, bin_leq, bin_gtr, bin_geq, Nat.reduceEqDiff, if_true, if_false, if_pos, if_neg, cond_true, cond_false, reduceIte, List.map_toArray, List.map_cons, List.map_nil, a0, a1])
    refine TE.ret (.of (t := 4) rfl (.inr rfl) ?_); (simp only [opsE_go, opsE_nil, opsD_go, opsD_nil, res_move, res_assign, res_binOp, res_pick, pickV_bool, guardB_bool, evE_tmp, evE_const, evE_func, valR_some, memR_some, KK_ok, putE_some, putE_none, upd_at, XE.then, XE.out, bin_add, bin_sub, bin_eql, bin_neq, bin_lss, bin_leq, bin_gtr, bin_geq, Nat.reduceEqDiff, if_true, if_false, if_pos, if_neg, cond_true, cond_false, reduceIte, List.map_toArray, List.map_cons, List.map_nil, num, h1])
  · refine TE.cond (t := false) rfl (by (simp only [opsE_go, opsE_nil, opsD_go, opsD_nil, res_move, res_assign, res_binOp, res_pick, pickV_bool, guardB_bool, evE_tmp, evE_const, evE_func, valR_some, memR_some, KK_ok, putE_some, putE_none, upd_at, XE.then, XE.out, bin_add, bin_sub, bin_eql, bin_neq, bin_lss, bin_leq, bin_gtr, bin_geq, Nat.reduceEqDiff, if_true, if_false, if_pos, if_neg, cond_true, cond_false, reduceIte, List.map_toArray, List.map_cons, List.map_nil, h1, decide_false])) ?_; (simp only [opsE_go, opsE_nil, opsD_go, opsD_nil, res_move, res_assign, res_binOp, res_pick, pickV_bool, guardB_bool, evE_tmp, evE_const, evE_func, valR_some, memR_some, KK_ok, putE_some, putE_none, upd_at, XE.then, XE.out, bin_add, bin_sub, bin_eql, bin_neq, bin_lss, bin_leq, bin_gtr, bin_geq, Nat.reduceEqDiff, if_true, if_false, if_pos, if_neg, cond_true, cond_false, reduceIte, List.map_toArray, List.map_cons, List.map_nil, Bool.false_eq_true])
    refine TE.skip ?_; (simp only [opsE_go, opsE_nil, opsD_go, opsD_nil, res_move, res_assign, res_binOp, res_pick, pickV_bool, guardB_bool, evE_tmp, evE_const, evE_func, valR_some, memR_some, KK_ok, putE_some, putE_none, upd_at, XE.then, XE.out, bin_add, bin_sub, bin_eql, bin_neq, bin_lss, bin_leq, bin_gtr, bin_geq, Nat.reduceEqDiff, if_true, if_false, if_pos, if_neg, cond_true, cond_false, reduceIte, List.map_toArray, List.map_cons, List.map_nil])
    refine TE.seq (TE.seq ?_); (refine TE.reg (call := oracle []) (by show 11 ≤ 1000000; decide) (by kernel_rfl) (oracle_ok [] (by simp)) ?_); (simp only [opsE_go, opsE_nil, opsD_go, opsD_nil, res_move, res_assign, res_binOp, res_pick, pickV_bool, guardB_bool, evE_tmp, evE_const, evE_func, valR_some, memR_some, KK_ok, putE_some, putE_none, upd_at, XE.then, XE.out, bin_add, bin_sub, bin_eql, bin_neq, bin_lss, bin_leq, bin_gtr, bin_geq, Nat.reduceEqDiff, if_true, if_false, if_pos, if_neg, cond_true, cond_false, reduceIte, List.map_toArray, List.map_cons, List.map_nil, a0, a1])
    by_cases h2 : a > b
    · refine TE.cond (t := true) rfl (by (simp only [opsE_go, opsE_nil, opsD_go, opsD_nil, res_move, res_assign, res_binOp, res_pick, pickV_bool, guardB_bool, evE_tmp, evE_const, evE_func, valR_some, memR_some, KK_ok, putE_some, putE_none, upd_at, XE.then, XE.out, bin_add, bin_sub, bin_eql, bin_neq, bin_lss, bin_leq, bin_gtr, bin_geq, Nat.reduceEqDiff, if_true, if_false, if_pos, if_neg, cond_true, cond_false, reduceIte, List.map_toArray, List.map_cons, List.map_nil, h2, decide_true])) ?_; (simp only [opsE_go, opsE_nil, opsD_go, opsD_nil, res_move, res_assign, res_binOp, res_pick, pickV_bool, guardB_bool, evE_tmp, evE_const, evE_func, valR_some, memR_some, KK_ok, putE_some, putE_none, upd_at, XE.then, XE.out, bin_add, bin_sub, bin_eql, bin_neq, bin_lss, bin_leq, bin_gtr, bin_geq, Nat.reduceEqDiff, if_true, if_false, if_pos, if_neg, cond_true, cond_false, reduceIte, List.map_toArray, List.map_cons, List.map_nil])
      refine TE.seq ?_; (refine TE.reg (call := oracle []) (by show 11 ≤ 1000000; decide) (by kernel_rfl) (oracle_ok [] (by simp)) ?_); (simp only [opsE_go, opsE_nil, opsD_go, opsD_nil, res_move, res_assign, res_binOp, res_pick, pickV_bool, guardB_bool, evE_tmp, evE_const, evE_func, valR_some, memR_some, KK_ok, putE_some, putE_none, upd_at, XE.then, XE.out, bin_add, bin_sub, bin_eql, bin_neq, bin_lss, bin_leq, bin_gtr, bin_geq, Nat.reduceEqDiff, if_true, if_false, if_pos, if_neg, cond_true, cond_false, reduceIte, List.map_toArray, List.map_cons, List.map_nil, a0, a1])
      refine TE.ret (.of (t := 4) rfl (.inr rfl) ?_); (simp only [opsE_go, opsE_nil, opsD_go, opsD_nil, res_move, res_assign, res_binOp, res_pick, pickV_bool, guardB_bool, evE_tmp, evE_const, evE_func, valR_some, memR_some, KK_ok, putE_some, putE_none, upd_at, XE.then, XE.out, bin_add, bin_sub, bin_eql, bin_neq, bin_lss, bin_leq, bin_gtr, bin_geq, Nat.reduceEqDiff, if_true, if_false, if_pos, if_neg, cond_true, cond_false, reduceIte, List.map_toArray, List.map_cons, List.map_nil, num, h1, h2])
    · refine TE.cond (t := false) rfl (by (simp only [opsE_go, opsE_nil, opsD_go, opsD_nil, res_move, res_assign, res_binOp, res_pick, pickV_bool, guardB_bool, evE_tmp, evE_const, evE_func, valR_some, memR_some, KK_ok, putE_some, putE_none, upd_at, XE.then, XE.out, bin_add, bin_sub, bin_eql, bin_neq, bin_lss, bin_leq, bin_gtr, bin_geq, Nat.reduceEqDiff, if_true, if_false, if_pos, if_neg, cond_true, cond_false, reduceIte, List.map_toArray, List.map_cons, List.map_nil, h2, decide_false])) ?_; (simp only [opsE_go, opsE_nil, opsD_go, opsD_nil, res_move, res_assign, res_binOp, res_pick, pickV_bool, guardB_bool, evE_tmp, evE_const, evE_func, valR_some, memR_some, KK_ok, putE_some, putE_none, upd_at, XE.then, XE.out, bin_add, bin_sub, bin_eql, bin_neq, bin_lss, bin_leq, bin_gtr, bin_geq, Nat.reduceEqDiff, if_true, if_false, if_pos, if_neg, cond_true, cond_false, reduceIte, List.map_toArray, List.map_cons, List.map_nil, Bool.false_eq_true])
      refine TE.skip ?_; (simp only [opsE_go, opsE_nil, opsD_go, opsD_nil, res_move, res_assign, res_binOp, res_pick, pickV_bool, guardB_bool, evE_tmp, evE_const, evE_func, valR_some, memR_some, KK_ok, putE_some, putE_none, upd_at, XE.then, XE.out, bin_add, bin_sub, bin_eql, bin_neq, bin_lss, bin_leq, bin_gtr, bin_geq, Nat.reduceEqDiff, if_true, if_false, if_pos, if_neg, cond_true, cond_false, reduceIte, List.map_toArray, List.map_cons, List.map_nil])
      refine TE.seq ?_; (refine TE.reg (call := oracle []) (by show 11 ≤ 1000000; decide) (by kernel_rfl) (oracle_ok [] (by simp)) ?_); (simp only [opsE_go, opsE_nil, opsD_go, opsD_nil, res_move, res_assign, res_binOp, res_pick, pickV_bool, guardB_bool, evE_tmp, evE_const, evE_func, valR_some, memR_some, KK_ok, putE_some, putE_none, upd_at, XE.then, XE.out, bin_add, bin_sub, bin_eql, bin_neq, bin_lss, bin_leq, bin_gtr, bin_geq, Nat.reduceEqDiff, if_true, if_false, if_pos, if_neg, cond_true, cond_false, reduceIte, List.map_toArray, List.map_cons, List.map_nil, a0, a1])
      refine TE.ret (.of (t := 4) rfl (.inr rfl) ?_); (simp only [opsE_go, opsE_nil, opsD_go, opsD_nil, res_move, res_assign, res_binOp, res_pick, pickV_bool, guardB_bool, evE_tmp, evE_const, evE_func, valR_some, memR_some, KK_ok, putE_some, putE_none, upd_at, XE.then, XE.out, bin_add, bin_sub, bin_eql, bin_neq, bin_lss, bin_leq, bin_gtr, bin_geq, Nat.reduceEqDiff, if_true, if_false, if_pos, if_neg, cond_true, cond_false, reduceIte, List.map_toArray, List.map_cons, List.map_nil, num, h1, h2])

end Go.Proofs.YtkjbbbjebidniaaGreatDoor
/- Code reckoned over a heap of its own: memory, and what types say. -/

namespace Go.Proofs.YtkjbbbjebidniaaGreatDoor
open Go Go.RowKit
set_option linter.unusedSimpArgs false
set_option linter.unusedVariables false

/-- What was there is as it was; there may be more. -/
structure Gr (w w' : AW) : Prop where
  low : w'.low = w.low
  size : w.size ≤ w'.size
  same : ∀ i, i < w.size → w'.heap.get i = w.heap.get i

theorem Gr.refl (w : AW) : Gr w w := ⟨rfl, Nat.le_refl _, fun _ _ => rfl⟩
theorem Gr.trans {a b c : AW} (h : Gr a b) (k : Gr b c) : Gr a c :=
  ⟨k.low.trans h.low, Nat.le_trans h.size k.size, fun i hi => (k.same i (Nat.lt_of_lt_of_le hi h.size)).trans (h.same i hi)⟩

theorem push_gr {w w1 : AW} {o : AObj} (h : w.push o = some w1) : Gr w w1 ∧ w1.size = w.size + 1 ∧ w1.heap.get w.size = some o := by
  obtain ⟨h1, h2, h3⟩ := push_spec h
  exact ⟨⟨h2, by omega, fun i hi => by rw [h3, if_neg (by omega)]⟩, h1, by rw [h3, if_pos rfl]⟩

/-- A write into what is new. -/
theorem upd_gr {w w1 w2 : AW} {i : Nat} {o : AObj} (hl : w.low ≤ w.size) (g : Gr w w1) (hi : w.size ≤ i) (h : w1.upd i o = some w2) : Gr w w2 ∧ w2.size = w1.size ∧ (∀ j, w2.heap.get j = if j = i then some o else w1.heap.get j) := by
  obtain ⟨h1, ⟨h2, h3, h4⟩, h5⟩ := upd_spec h
  refine ⟨⟨?_, by rw [h1]; exact g.size, fun j hj => by rw [h5, if_neg (by omega)]; exact g.same j hj⟩, h1, h5⟩
  have := g.low
  unfold AW.upd at h
  dsimp only at h
  split at h
  · cases h
    show (bif Nat.ble w1.low i then w1.low else i) = w.low
    rw [Nat.ble_eq_true_of_le (by omega)]; exact this
  · cases h

theorem cell_at {w : AW} {b off : Nat} {c : List Value} {e : TypeId} {k : Nat} (h : w.heap.get b = some (.row c e k)) : w.cell ⟨b, off, none⟩ = c[off]? := by simp only [AW.cell, h]
theorem Gr.cell {w w' : AW} (g : Gr w w') {b off : Nat} (hb : b < w.size) : w'.cell ⟨b, off, none⟩ = w.cell ⟨b, off, none⟩ := by simp only [AW.cell, g.same b hb]
theorem Gr.cells {w w' : AW} (g : Gr w w') {b off n : Nat} (hb : b < w.size) : w'.cells ⟨b, off, none⟩ n = w.cells ⟨b, off, none⟩ n := by simp only [AW.cells, g.same b hb]

section
variable {P : Program} {call : CallA} (d : Option Tmp) (ty : TypeId) (pos : String) (af : Array Edge) (g : Option (Nat × Bool)) (e : Env) (w : AW)

noncomputable def boxW (el : TypeId) (v : Value) (w : AW) : Option (Value × AW) :=
  match w.push (.row v.cells.toList el 0) with
  | some s' => some (.pointer (some ⟨w.size, 0, none⟩), s')
  | none => none
theorem res_boxW (el : TypeId) (x : Operand) : resE P call ⟨d, .box el x, ty, pos, af, g⟩ e w = memR (boxW el (evE e x) w) := by rw [res_box]; rfl
theorem boxW_ok (el : TypeId) (v : Value) (w : AW) : ∃ w1, boxW el v w = some (.pointer (some ⟨w.size, 0, none⟩), w1) ∧ Gr w w1 ∧ w1.size = w.size + 1 ∧ w1.heap.get w.size = some (.row v.cells.toList el 0) := by
  obtain ⟨w1, h⟩ := push_some w (.row v.cells.toList el 0)
  obtain ⟨h1, h2, h3⟩ := push_gr h
  exact ⟨w1, by unfold boxW; rw [h], h1, h2, h3⟩

def offV (v : Value) (k : Nat) : Option Value :=
  match v with
  | .pointer (some a) => some (.pointer (some (a.add k)))
  | _ => none
theorem offV_ptr (b o k : Nat) : offV (.pointer (some ⟨b, o, none⟩)) k = some (.pointer (some ⟨b, o + k, none⟩)) := by simp only [offV, Addr_add]

def faOk (P : Program) (st f off : Nat) : Bool :=
  match P.underlying st with
  | some (.struct fs) => match fs[f]? with
    | some fd => match P.info? fd.type with
      | some i => !Nat.beq i.size 0 && Nat.beq fd.offset off
      | none => false
    | none => false
  | _ => false
theorem fa_ok {st f off : Nat} (h : faOk P st f off = true) (e : Operand → Value) (x : Operand) : v_fieldAddr P e st x f = offV (e x) off := by
  unfold faOk at h
  split at h
  case h_2 => cases h
  rename_i fs hu
  split at h
  case h_2 => cases h
  rename_i fd hf
  split at h
  case h_2 => cases h
  rename_i i hi
  simp only [Bool.and_eq_true, Bool.not_eq_true'] at h
  have ho := Nat.eq_of_beq_eq_true h.2
  unfold v_fieldAddr
  simp only [hu, hf, hi]
  cases hx : e x with
  | pointer a =>
    cases a with
    | some a => simp only [h.1, cond_false, ho, offV]
    | none => rfl
  | _ => rfl

noncomputable def loadW (P : Program) (t : TypeId) (v : Value) (w : AW) : Option (Value × AW) :=
  match v with
  | .pointer (some a) => match loadC P t a w with
    | some v => some (v, w)
    | none => none
  | _ => none
theorem res_loadW (t : TypeId) (x : Operand) : resE P call ⟨d, .load t x, ty, pos, af, g⟩ e w = memR (loadW P t (evE e x) w) := by
  rw [res_load]
  unfold m_load loadW
  cases evE e x with
  | pointer a => cases a <;> rfl
  | _ => rfl

/-- A type of one cell. -/
def oneOk (P : Program) (t : Nat) : Bool :=
  match P.underlying t, P.info? t with
  | some d, some i => !isAggD d && Nat.beq i.size 1
  | _, _ => false
/-- A type of n cells. -/
def aggOk (P : Program) (t n : Nat) : Bool :=
  match P.underlying t, P.info? t with
  | some d, some i => isAggD d && Nat.beq i.size n
  | _, _ => false
theorem load_one {t : Nat} (h : oneOk P t = true) {b o : Nat} {w : AW} {v : Value} (hc : w.cell ⟨b, o, none⟩ = some v) : loadW P t (.pointer (some ⟨b, o, none⟩)) w = some (v, w) := by
  unfold oneOk at h
  split at h
  case h_2 => cases h
  rename_i d i hd hi
  simp only [Bool.and_eq_true, Bool.not_eq_true'] at h
  simp only [loadW, loadC, hd, hi, h.1, cond_false, hc]
theorem load_agg {t n : Nat} (h : aggOk P t n = true) {b o : Nat} {w : AW} {l : List Value} (hc : w.cells ⟨b, o, none⟩ n = some l) : loadW P t (.pointer (some ⟨b, o, none⟩)) w = some (.agg ⟨l⟩, w) := by
  unfold aggOk at h
  split at h
  case h_2 => cases h
  rename_i d i hd hi
  simp only [Bool.and_eq_true] at h
  have := Nat.eq_of_beq_eq_true h.2
  simp only [loadW, loadC, hd, hi, h.1, cond_true, this, hc]

/-- A slice type whose elements have n cells. -/
def slOk (P : Program) (t n : Nat) : Bool :=
  match P.underlying t with
  | some (.slice el) => match P.info? el with
    | some i => Nat.beq i.size n
    | none => false
  | _ => false
def ixV (n : Nat) (v ix : Value) : Option Value :=
  match v, ix with
  | .slice (some a) len _, .int _ i => bif decide (0 ≤ i) && decide (i < len) then some (.pointer (some (a.add (i.toNat * n)))) else none
  | _, _ => none
theorem ixV_ok (n b o len c : Nat) (k : IntKind) (i : Nat) (h : i < len) : ixV n (.slice (some ⟨b, o, none⟩) len c) (.int k (i : Int)) = some (.pointer (some ⟨b, o + i * n, none⟩)) := by
  have h1 : (0 : Int) ≤ (i : Int) := by omega
  have h2 : (i : Int) < (len : Int) := by omega
  simp only [ixV, h1, h2, decide_true, Bool.and_self, cond_true, Int.toNat_natCast, Addr_add]
theorem ix_ok {t n : Nat} (h : slOk P t n = true) (e : Operand → Value) (x ix : Operand) {a : Option Addr} {len c : Nat} (hx : e x = .slice a len c) : v_indexAddr P e t x ix = ixV n (e x) (e ix) := by
  unfold slOk at h
  split at h
  case h_2 => cases h
  rename_i el hu
  split at h
  case h_2 => cases h
  rename_i i hi
  have hn := Nat.eq_of_beq_eq_true h
  unfold v_indexAddr ixV
  simp only [hu, hx]
  cases a with
  | none => rfl
  | some a => cases e ix <;> first | rfl | simp only [hi, hn]

theorem len_ok' {t n : Nat} (h : slOk P t n = true) (x : Operand) {a : Option Addr} {len c : Nat} (hx : evE e x = .slice a len c) :
    resE P call ⟨d, .call ⟨.builtin .len, #[x], #[t]⟩, ty, pos, af, g⟩ e w = .ok (goInt len, w) := by
  unfold slOk at h
  split at h
  case h_2 => cases h
  rename_i el hu
  exact res_len d ty pos af g e w x hu hx
end

end Go.Proofs.YtkjbbbjebidniaaGreatDoor
/- What the types and the functions say, as rules for rewriting (printed by mkU7.py). -/

namespace Go.Proofs.YtkjbbbjebidniaaGreatDoor
open Go Go.RowKit
set_option linter.unusedVariables false

theorem fa_25_0 (e : Operand → Value) (x : Operand) : v_fieldAddr Tryz.prog e 25 x 0 = offV (e x) 0 := fa_ok (by kernel_rfl) e x
theorem fa_25_1 (e : Operand → Value) (x : Operand) : v_fieldAddr Tryz.prog e 25 x 1 = offV (e x) 1 := fa_ok (by kernel_rfl) e x
theorem fa_33_0 (e : Operand → Value) (x : Operand) : v_fieldAddr Tryz.prog e 33 x 0 = offV (e x) 0 := fa_ok (by kernel_rfl) e x
theorem fa_33_1 (e : Operand → Value) (x : Operand) : v_fieldAddr Tryz.prog e 33 x 1 = offV (e x) 1 := fa_ok (by kernel_rfl) e x
theorem fa_33_2 (e : Operand → Value) (x : Operand) : v_fieldAddr Tryz.prog e 33 x 2 = offV (e x) 2 := fa_ok (by kernel_rfl) e x
theorem fa_41_0 (e : Operand → Value) (x : Operand) : v_fieldAddr Tryz.prog e 41 x 0 = offV (e x) 0 := fa_ok (by kernel_rfl) e x
theorem fa_41_1 (e : Operand → Value) (x : Operand) : v_fieldAddr Tryz.prog e 41 x 1 = offV (e x) 1 := fa_ok (by kernel_rfl) e x
theorem fa_52_0 (e : Operand → Value) (x : Operand) : v_fieldAddr Tryz.prog e 52 x 0 = offV (e x) 0 := fa_ok (by kernel_rfl) e x
theorem fa_52_1 (e : Operand → Value) (x : Operand) : v_fieldAddr Tryz.prog e 52 x 1 = offV (e x) 1 := fa_ok (by kernel_rfl) e x
theorem fa_52_2 (e : Operand → Value) (x : Operand) : v_fieldAddr Tryz.prog e 52 x 2 = offV (e x) 2 := fa_ok (by kernel_rfl) e x
theorem fa_64_0 (e : Operand → Value) (x : Operand) : v_fieldAddr Tryz.prog e 64 x 0 = offV (e x) 0 := fa_ok (by kernel_rfl) e x
theorem fa_64_1 (e : Operand → Value) (x : Operand) : v_fieldAddr Tryz.prog e 64 x 1 = offV (e x) 1 := fa_ok (by kernel_rfl) e x
theorem fa_66_0 (e : Operand → Value) (x : Operand) : v_fieldAddr Tryz.prog e 66 x 0 = offV (e x) 0 := fa_ok (by kernel_rfl) e x
theorem fa_66_1 (e : Operand → Value) (x : Operand) : v_fieldAddr Tryz.prog e 66 x 1 = offV (e x) 3 := fa_ok (by kernel_rfl) e x
theorem fa_71_0 (e : Operand → Value) (x : Operand) : v_fieldAddr Tryz.prog e 71 x 0 = offV (e x) 0 := fa_ok (by kernel_rfl) e x
theorem fa_113_0 (e : Operand → Value) (x : Operand) : v_fieldAddr Tryz.prog e 113 x 0 = offV (e x) 0 := fa_ok (by kernel_rfl) e x
theorem fa_113_1 (e : Operand → Value) (x : Operand) : v_fieldAddr Tryz.prog e 113 x 1 = offV (e x) 1 := fa_ok (by kernel_rfl) e x
theorem fa_113_2 (e : Operand → Value) (x : Operand) : v_fieldAddr Tryz.prog e 113 x 2 = offV (e x) 3 := fa_ok (by kernel_rfl) e x
theorem fa_113_3 (e : Operand → Value) (x : Operand) : v_fieldAddr Tryz.prog e 113 x 3 = offV (e x) 4 := fa_ok (by kernel_rfl) e x
theorem fa_113_4 (e : Operand → Value) (x : Operand) : v_fieldAddr Tryz.prog e 113 x 4 = offV (e x) 5 := fa_ok (by kernel_rfl) e x
theorem fa_113_5 (e : Operand → Value) (x : Operand) : v_fieldAddr Tryz.prog e 113 x 5 = offV (e x) 6 := fa_ok (by kernel_rfl) e x
theorem fa_113_6 (e : Operand → Value) (x : Operand) : v_fieldAddr Tryz.prog e 113 x 6 = offV (e x) 7 := fa_ok (by kernel_rfl) e x
theorem fa_121_0 (e : Operand → Value) (x : Operand) : v_fieldAddr Tryz.prog e 121 x 0 = offV (e x) 0 := fa_ok (by kernel_rfl) e x
theorem fa_121_1 (e : Operand → Value) (x : Operand) : v_fieldAddr Tryz.prog e 121 x 1 = offV (e x) 1 := fa_ok (by kernel_rfl) e x
theorem fa_123_0 (e : Operand → Value) (x : Operand) : v_fieldAddr Tryz.prog e 123 x 0 = offV (e x) 0 := fa_ok (by kernel_rfl) e x
theorem fa_123_1 (e : Operand → Value) (x : Operand) : v_fieldAddr Tryz.prog e 123 x 1 = offV (e x) 10 := fa_ok (by kernel_rfl) e x
theorem ty_2 : oneOk Tryz.prog 2 = true := by kernel_rfl
theorem ty_3 : oneOk Tryz.prog 3 = true := by kernel_rfl
theorem ty_9 : oneOk Tryz.prog 9 = true := by kernel_rfl
theorem ty_22 : oneOk Tryz.prog 22 = true := by kernel_rfl
theorem ty_23 : oneOk Tryz.prog 23 = true := by kernel_rfl
theorem ty_25 : aggOk Tryz.prog 25 3 = true := by kernel_rfl
theorem ty_26 : oneOk Tryz.prog 26 = true := by kernel_rfl
theorem ty_29 : oneOk Tryz.prog 29 = true := by kernel_rfl
theorem ty_31 : oneOk Tryz.prog 31 = true := by kernel_rfl
theorem ty_33 : aggOk Tryz.prog 33 3 = true := by kernel_rfl
theorem ty_38 : oneOk Tryz.prog 38 = true := by kernel_rfl
theorem ty_41 : aggOk Tryz.prog 41 2 = true := by kernel_rfl
theorem ty_52 : aggOk Tryz.prog 52 3 = true := by kernel_rfl
theorem ty_62 : oneOk Tryz.prog 62 = true := by kernel_rfl
theorem ty_64 : aggOk Tryz.prog 64 2 = true := by kernel_rfl
theorem ty_66 : aggOk Tryz.prog 66 4 = true := by kernel_rfl
theorem ty_102 : oneOk Tryz.prog 102 = true := by kernel_rfl
theorem ty_113 : aggOk Tryz.prog 113 10 = true := by kernel_rfl
theorem ty_119 : oneOk Tryz.prog 119 = true := by kernel_rfl
theorem ty_121 : aggOk Tryz.prog 121 2 = true := by kernel_rfl
theorem ty_123 : aggOk Tryz.prog 123 11 = true := by kernel_rfl
theorem sl_22 : slOk Tryz.prog 22 2 = true := by kernel_rfl
theorem sl_23 : slOk Tryz.prog 23 3 = true := by kernel_rfl
theorem sl_26 : slOk Tryz.prog 26 3 = true := by kernel_rfl
theorem sl_29 : slOk Tryz.prog 29 2 = true := by kernel_rfl
theorem sl_31 : slOk Tryz.prog 31 2 = true := by kernel_rfl
theorem sl_38 : slOk Tryz.prog 38 2 = true := by kernel_rfl
theorem sl_62 : slOk Tryz.prog 62 4 = true := by kernel_rfl
theorem sl_102 : slOk Tryz.prog 102 1 = true := by kernel_rfl
theorem sl_119 : slOk Tryz.prog 119 11 = true := by kernel_rfl
theorem sl_255 : slOk Tryz.prog 255 1 = true := by kernel_rfl
section
variable {call : CallA} (d : Option Tmp) (ty : TypeId) (pos : String) (af : Array Edge) (g : Option (Nat × Bool)) (e : Env) (w : AW) (xs : Array Operand) (ts : Array TypeId)
theorem rf_3 : resE Tryz.prog call ⟨d, .call ⟨.value (.func 3), xs, ts⟩, ty, pos, af, g⟩ e w = call 3 (xs.map (evE e)) w := res_fun d ty pos af g e w xs ts Tryz.func3 rfl
theorem rf_4 : resE Tryz.prog call ⟨d, .call ⟨.value (.func 4), xs, ts⟩, ty, pos, af, g⟩ e w = call 4 (xs.map (evE e)) w := res_fun d ty pos af g e w xs ts Tryz.func4 rfl
theorem rf_5 : resE Tryz.prog call ⟨d, .call ⟨.value (.func 5), xs, ts⟩, ty, pos, af, g⟩ e w = call 5 (xs.map (evE e)) w := res_fun d ty pos af g e w xs ts Tryz.func5 rfl
theorem rf_6 : resE Tryz.prog call ⟨d, .call ⟨.value (.func 6), xs, ts⟩, ty, pos, af, g⟩ e w = call 6 (xs.map (evE e)) w := res_fun d ty pos af g e w xs ts Tryz.func6 rfl
theorem rf_7 : resE Tryz.prog call ⟨d, .call ⟨.value (.func 7), xs, ts⟩, ty, pos, af, g⟩ e w = call 7 (xs.map (evE e)) w := res_fun d ty pos af g e w xs ts Tryz.func7 rfl
theorem rf_8 : resE Tryz.prog call ⟨d, .call ⟨.value (.func 8), xs, ts⟩, ty, pos, af, g⟩ e w = call 8 (xs.map (evE e)) w := res_fun d ty pos af g e w xs ts Tryz.func8 rfl
theorem rf_9 : resE Tryz.prog call ⟨d, .call ⟨.value (.func 9), xs, ts⟩, ty, pos, af, g⟩ e w = call 9 (xs.map (evE e)) w := res_fun d ty pos af g e w xs ts Tryz.func9 rfl
theorem rf_10 : resE Tryz.prog call ⟨d, .call ⟨.value (.func 10), xs, ts⟩, ty, pos, af, g⟩ e w = call 10 (xs.map (evE e)) w := res_fun d ty pos af g e w xs ts Tryz.func10 rfl
theorem rf_16 : resE Tryz.prog call ⟨d, .call ⟨.value (.func 16), xs, ts⟩, ty, pos, af, g⟩ e w = call 16 (xs.map (evE e)) w := res_fun d ty pos af g e w xs ts Tryz.func16 rfl
theorem rf_17 : resE Tryz.prog call ⟨d, .call ⟨.value (.func 17), xs, ts⟩, ty, pos, af, g⟩ e w = call 17 (xs.map (evE e)) w := res_fun d ty pos af g e w xs ts Tryz.func17 rfl
theorem rf_18 : resE Tryz.prog call ⟨d, .call ⟨.value (.func 18), xs, ts⟩, ty, pos, af, g⟩ e w = call 18 (xs.map (evE e)) w := res_fun d ty pos af g e w xs ts Tryz.func18 rfl
theorem rf_19 : resE Tryz.prog call ⟨d, .call ⟨.value (.func 19), xs, ts⟩, ty, pos, af, g⟩ e w = call 19 (xs.map (evE e)) w := res_fun d ty pos af g e w xs ts Tryz.func19 rfl
theorem rf_20 : resE Tryz.prog call ⟨d, .call ⟨.value (.func 20), xs, ts⟩, ty, pos, af, g⟩ e w = call 20 (xs.map (evE e)) w := res_fun d ty pos af g e w xs ts Tryz.func20 rfl
theorem rf_21 : resE Tryz.prog call ⟨d, .call ⟨.value (.func 21), xs, ts⟩, ty, pos, af, g⟩ e w = call 21 (xs.map (evE e)) w := res_fun d ty pos af g e w xs ts Tryz.func21 rfl
theorem rf_22 : resE Tryz.prog call ⟨d, .call ⟨.value (.func 22), xs, ts⟩, ty, pos, af, g⟩ e w = call 22 (xs.map (evE e)) w := res_fun d ty pos af g e w xs ts Tryz.func22 rfl
theorem rf_23 : resE Tryz.prog call ⟨d, .call ⟨.value (.func 23), xs, ts⟩, ty, pos, af, g⟩ e w = call 23 (xs.map (evE e)) w := res_fun d ty pos af g e w xs ts Tryz.func23 rfl
theorem rf_24 : resE Tryz.prog call ⟨d, .call ⟨.value (.func 24), xs, ts⟩, ty, pos, af, g⟩ e w = call 24 (xs.map (evE e)) w := res_fun d ty pos af g e w xs ts Tryz.func24 rfl
theorem rf_25 : resE Tryz.prog call ⟨d, .call ⟨.value (.func 25), xs, ts⟩, ty, pos, af, g⟩ e w = call 25 (xs.map (evE e)) w := res_fun d ty pos af g e w xs ts Tryz.func25 rfl
theorem rf_26 : resE Tryz.prog call ⟨d, .call ⟨.value (.func 26), xs, ts⟩, ty, pos, af, g⟩ e w = call 26 (xs.map (evE e)) w := res_fun d ty pos af g e w xs ts Tryz.func26 rfl
theorem rf_27 : resE Tryz.prog call ⟨d, .call ⟨.value (.func 27), xs, ts⟩, ty, pos, af, g⟩ e w = call 27 (xs.map (evE e)) w := res_fun d ty pos af g e w xs ts Tryz.func27 rfl
theorem rf_28 : resE Tryz.prog call ⟨d, .call ⟨.value (.func 28), xs, ts⟩, ty, pos, af, g⟩ e w = call 28 (xs.map (evE e)) w := res_fun d ty pos af g e w xs ts Tryz.func28 rfl
theorem rf_29 : resE Tryz.prog call ⟨d, .call ⟨.value (.func 29), xs, ts⟩, ty, pos, af, g⟩ e w = call 29 (xs.map (evE e)) w := res_fun d ty pos af g e w xs ts Tryz.func29 rfl
theorem rf_30 : resE Tryz.prog call ⟨d, .call ⟨.value (.func 30), xs, ts⟩, ty, pos, af, g⟩ e w = call 30 (xs.map (evE e)) w := res_fun d ty pos af g e w xs ts Tryz.func30 rfl
theorem rf_43 : resE Tryz.prog call ⟨d, .call ⟨.value (.func 43), xs, ts⟩, ty, pos, af, g⟩ e w = call 43 (xs.map (evE e)) w := res_fun d ty pos af g e w xs ts Tryz.func43 rfl
theorem rf_44 : resE Tryz.prog call ⟨d, .call ⟨.value (.func 44), xs, ts⟩, ty, pos, af, g⟩ e w = call 44 (xs.map (evE e)) w := res_fun d ty pos af g e w xs ts Tryz.func44 rfl
theorem rf_45 : resE Tryz.prog call ⟨d, .call ⟨.value (.func 45), xs, ts⟩, ty, pos, af, g⟩ e w = call 45 (xs.map (evE e)) w := res_fun d ty pos af g e w xs ts Tryz.func45 rfl
theorem rf_46 : resE Tryz.prog call ⟨d, .call ⟨.value (.func 46), xs, ts⟩, ty, pos, af, g⟩ e w = call 46 (xs.map (evE e)) w := res_fun d ty pos af g e w xs ts Tryz.func46 rfl
theorem rf_47 : resE Tryz.prog call ⟨d, .call ⟨.value (.func 47), xs, ts⟩, ty, pos, af, g⟩ e w = call 47 (xs.map (evE e)) w := res_fun d ty pos af g e w xs ts Tryz.func47 rfl
theorem rf_48 : resE Tryz.prog call ⟨d, .call ⟨.value (.func 48), xs, ts⟩, ty, pos, af, g⟩ e w = call 48 (xs.map (evE e)) w := res_fun d ty pos af g e w xs ts Tryz.func48 rfl
theorem rf_49 : resE Tryz.prog call ⟨d, .call ⟨.value (.func 49), xs, ts⟩, ty, pos, af, g⟩ e w = call 49 (xs.map (evE e)) w := res_fun d ty pos af g e w xs ts Tryz.func49 rfl
theorem rf_50 : resE Tryz.prog call ⟨d, .call ⟨.value (.func 50), xs, ts⟩, ty, pos, af, g⟩ e w = call 50 (xs.map (evE e)) w := res_fun d ty pos af g e w xs ts Tryz.func50 rfl
theorem rf_51 : resE Tryz.prog call ⟨d, .call ⟨.value (.func 51), xs, ts⟩, ty, pos, af, g⟩ e w = call 51 (xs.map (evE e)) w := res_fun d ty pos af g e w xs ts Tryz.func51 rfl
theorem rf_52 : resE Tryz.prog call ⟨d, .call ⟨.value (.func 52), xs, ts⟩, ty, pos, af, g⟩ e w = call 52 (xs.map (evE e)) w := res_fun d ty pos af g e w xs ts Tryz.func52 rfl
theorem rf_53 : resE Tryz.prog call ⟨d, .call ⟨.value (.func 53), xs, ts⟩, ty, pos, af, g⟩ e w = call 53 (xs.map (evE e)) w := res_fun d ty pos af g e w xs ts Tryz.func53 rfl
theorem rf_54 : resE Tryz.prog call ⟨d, .call ⟨.value (.func 54), xs, ts⟩, ty, pos, af, g⟩ e w = call 54 (xs.map (evE e)) w := res_fun d ty pos af g e w xs ts Tryz.func54 rfl
theorem rf_55 : resE Tryz.prog call ⟨d, .call ⟨.value (.func 55), xs, ts⟩, ty, pos, af, g⟩ e w = call 55 (xs.map (evE e)) w := res_fun d ty pos af g e w xs ts Tryz.func55 rfl
theorem rf_56 : resE Tryz.prog call ⟨d, .call ⟨.value (.func 56), xs, ts⟩, ty, pos, af, g⟩ e w = call 56 (xs.map (evE e)) w := res_fun d ty pos af g e w xs ts Tryz.func56 rfl
theorem rf_57 : resE Tryz.prog call ⟨d, .call ⟨.value (.func 57), xs, ts⟩, ty, pos, af, g⟩ e w = call 57 (xs.map (evE e)) w := res_fun d ty pos af g e w xs ts Tryz.func57 rfl
theorem rf_89 : resE Tryz.prog call ⟨d, .call ⟨.value (.func 89), xs, ts⟩, ty, pos, af, g⟩ e w = call 89 (xs.map (evE e)) w := res_fun d ty pos af g e w xs ts Tryz.func89 rfl
theorem rf_90 : resE Tryz.prog call ⟨d, .call ⟨.value (.func 90), xs, ts⟩, ty, pos, af, g⟩ e w = call 90 (xs.map (evE e)) w := res_fun d ty pos af g e w xs ts Tryz.func90 rfl
theorem rf_91 : resE Tryz.prog call ⟨d, .call ⟨.value (.func 91), xs, ts⟩, ty, pos, af, g⟩ e w = call 91 (xs.map (evE e)) w := res_fun d ty pos af g e w xs ts Tryz.func91 rfl
theorem rf_92 : resE Tryz.prog call ⟨d, .call ⟨.value (.func 92), xs, ts⟩, ty, pos, af, g⟩ e w = call 92 (xs.map (evE e)) w := res_fun d ty pos af g e w xs ts Tryz.func92 rfl
theorem rf_93 : resE Tryz.prog call ⟨d, .call ⟨.value (.func 93), xs, ts⟩, ty, pos, af, g⟩ e w = call 93 (xs.map (evE e)) w := res_fun d ty pos af g e w xs ts Tryz.func93 rfl
theorem rf_94 : resE Tryz.prog call ⟨d, .call ⟨.value (.func 94), xs, ts⟩, ty, pos, af, g⟩ e w = call 94 (xs.map (evE e)) w := res_fun d ty pos af g e w xs ts Tryz.func94 rfl
theorem rf_95 : resE Tryz.prog call ⟨d, .call ⟨.value (.func 95), xs, ts⟩, ty, pos, af, g⟩ e w = call 95 (xs.map (evE e)) w := res_fun d ty pos af g e w xs ts Tryz.func95 rfl
theorem rf_96 : resE Tryz.prog call ⟨d, .call ⟨.value (.func 96), xs, ts⟩, ty, pos, af, g⟩ e w = call 96 (xs.map (evE e)) w := res_fun d ty pos af g e w xs ts Tryz.func96 rfl
theorem rf_99 : resE Tryz.prog call ⟨d, .call ⟨.value (.func 99), xs, ts⟩, ty, pos, af, g⟩ e w = call 99 (xs.map (evE e)) w := res_fun d ty pos af g e w xs ts Tryz.func99 rfl
theorem rf_100 : resE Tryz.prog call ⟨d, .call ⟨.value (.func 100), xs, ts⟩, ty, pos, af, g⟩ e w = call 100 (xs.map (evE e)) w := res_fun d ty pos af g e w xs ts Tryz.func100 rfl
theorem rf_101 : resE Tryz.prog call ⟨d, .call ⟨.value (.func 101), xs, ts⟩, ty, pos, af, g⟩ e w = call 101 (xs.map (evE e)) w := res_fun d ty pos af g e w xs ts Tryz.func101 rfl
theorem rf_164 : resE Tryz.prog call ⟨d, .call ⟨.value (.func 164), xs, ts⟩, ty, pos, af, g⟩ e w = call 164 (xs.map (evE e)) w := res_fun d ty pos af g e w xs ts Tryz.func164 rfl
theorem rf_175 : resE Tryz.prog call ⟨d, .call ⟨.value (.func 175), xs, ts⟩, ty, pos, af, g⟩ e w = call 175 (xs.map (evE e)) w := res_fun d ty pos af g e w xs ts Tryz.func175 rfl
end

end Go.Proofs.YtkjbbbjebidniaaGreatDoor
/- CompareRow, sign. -/

namespace Go.Proofs.YtkjbbbjebidniaaGreatDoor
open Go Go.RowKit
set_option linter.unusedSimpArgs false
set_option linter.unusedVariables false

/-- A call that leaves what was there. -/
def CallG (f : FuncId) (args : List Value) (w : AW) (v : Value) : Prop := ∃ w', CallT [0] Tryz.prog f ⟨args⟩ w v w' ∧ Gr w w'

theorem CallG.of {f : FuncId} {args : List Value} {w : AW} {v : Value} (h : CallT [0] Tryz.prog f ⟨args⟩ w v w) : CallG f args w v := ⟨w, h, Gr.refl _⟩

def rowV (t s : Int) : Value := .agg #[.int .i64 t, .int .i64 s]

/-- Compare two rows' names. -/
def cmpR (t s u v : Int) : Int := if num t u ≠ 0 then num t u else num s v

theorem sign_ok (b : Bool) (w : AW) : CallT [0] Tryz.prog 94 #[.bool b] w (.int .i64 (if b then -1 else 1)) w := by
  refine CallT.of_TE (args := [.bool b]) Tryz.func94 rfl (by simp) (by show _ ≤ 4; simp) ?_
  have a0 : argsE [.bool b] 0 = .bool b := rfl
  refine TE.seq ?_; (refine TE.reg (call := oracle []) (by show 4 ≤ 1000000; decide) (by kernel_rfl) (oracle_ok [] (by simp)) ?_); (simp only [opsE_go, opsE_nil, opsD_go, opsD_nil, res_move, res_assign, res_binOp, res_pick, res_boxW, res_loadW, res_fieldAddr, res_indexAddr, res_extract, pickV_bool, guardB_bool, evE_tmp, evE_const, evE_func, valR_some, memR_some, KK_ok, putE_some, putE_none, upd_at, XE.then, XE.out, bin_add, bin_sub, bin_eql, bin_neq, bin_lss, bin_leq, bin_gtr, bin_geq, offV_ptr, Nat.reduceEqDiff, Nat.reduceAdd, Nat.zero_add, Nat.add_zero, if_true, if_false, if_pos, if_neg, cond_true, cond_false, reduceIte, List.map_toArray, List.map_cons, List.map_nil, oracle_hit, fa_25_0, fa_25_1, fa_33_0, fa_33_1, fa_33_2, fa_41_0, fa_41_1, fa_52_0, fa_52_1, fa_52_2, fa_64_0, fa_64_1, fa_66_0, fa_66_1, fa_71_0, fa_113_0, fa_113_1, fa_113_2, fa_113_3, fa_113_4, fa_113_5, fa_113_6, fa_121_0, fa_121_1, fa_123_0, fa_123_1, rf_5, rf_6, rf_7, rf_8, rf_9, rf_10, rf_16, rf_17, rf_18, rf_19, rf_20, rf_21, rf_22, rf_23, rf_24, rf_25, rf_26, rf_27, rf_28, rf_29, rf_30, rf_43, rf_44, rf_45, rf_46, rf_47, rf_48, rf_49, rf_50, rf_51, rf_52, rf_53, rf_54, rf_55, rf_56, rf_57, rf_89, rf_90, rf_91, rf_92, rf_93, rf_94, rf_95, rf_96, rf_99, rf_100, rf_101, rf_164, rf_175, rf_4, a0])
  refine TE.seq (TE.seq ?_); (refine TE.reg (call := oracle []) (by show 4 ≤ 1000000; decide) (by kernel_rfl) (oracle_ok [] (by simp)) ?_); (simp only [opsE_go, opsE_nil, opsD_go, opsD_nil, res_move, res_assign, res_binOp, res_pick, res_boxW, res_loadW, res_fieldAddr, res_indexAddr, res_extract, pickV_bool, guardB_bool, evE_tmp, evE_const, evE_func, valR_some, memR_some, KK_ok, putE_some, putE_none, upd_at, XE.then, XE.out, bin_add, bin_sub, bin_eql, bin_neq, bin_lss, bin_leq, bin_gtr, bin_geq, offV_ptr, Nat.reduceEqDiff, Nat.reduceAdd, Nat.zero_add, Nat.add_zero, if_true, if_false, if_pos, if_neg, cond_true, cond_false, reduceIte, List.map_toArray, List.map_cons, List.map_nil, oracle_hit, fa_25_0, fa_25_1, fa_33_0, fa_33_1, fa_33_2, fa_41_0, fa_41_1, fa_52_0, fa_52_1, fa_52_2, fa_64_0, fa_64_1, fa_66_0, fa_66_1, fa_71_0, fa_113_0, fa_113_1, fa_113_2, fa_113_3, fa_113_4, fa_113_5, fa_113_6, fa_121_0, fa_121_1, fa_123_0, fa_123_1, rf_5, rf_6, rf_7, rf_8, rf_9, rf_10, rf_16, rf_17, rf_18, rf_19, rf_20, rf_21, rf_22, rf_23, rf_24, rf_25, rf_26, rf_27, rf_28, rf_29, rf_30, rf_43, rf_44, rf_45, rf_46, rf_47, rf_48, rf_49, rf_50, rf_51, rf_52, rf_53, rf_54, rf_55, rf_56, rf_57, rf_89, rf_90, rf_91, rf_92, rf_93, rf_94, rf_95, rf_96, rf_99, rf_100, rf_101, rf_164, rf_175, rf_4, a0])
  cases b
  · refine TE.cond (t := false) rfl (by (simp only [opsE_go, opsE_nil, opsD_go, opsD_nil, res_move, res_assign, res_binOp, res_pick, res_boxW, res_loadW, res_fieldAddr, res_indexAddr, res_extract, pickV_bool, guardB_bool, evE_tmp, evE_const, evE_func, valR_some, memR_some, KK_ok, putE_some, putE_none, upd_at, XE.then, XE.out, bin_add, bin_sub, bin_eql, bin_neq, bin_lss, bin_leq, bin_gtr, bin_geq, offV_ptr, Nat.reduceEqDiff, Nat.reduceAdd, Nat.zero_add, Nat.add_zero, if_true, if_false, if_pos, if_neg, cond_true, cond_false, reduceIte, List.map_toArray, List.map_cons, List.map_nil, oracle_hit, fa_25_0, fa_25_1, fa_33_0, fa_33_1, fa_33_2, fa_41_0, fa_41_1, fa_52_0, fa_52_1, fa_52_2, fa_64_0, fa_64_1, fa_66_0, fa_66_1, fa_71_0, fa_113_0, fa_113_1, fa_113_2, fa_113_3, fa_113_4, fa_113_5, fa_113_6, fa_121_0, fa_121_1, fa_123_0, fa_123_1, rf_5, rf_6, rf_7, rf_8, rf_9, rf_10, rf_16, rf_17, rf_18, rf_19, rf_20, rf_21, rf_22, rf_23, rf_24, rf_25, rf_26, rf_27, rf_28, rf_29, rf_30, rf_43, rf_44, rf_45, rf_46, rf_47, rf_48, rf_49, rf_50, rf_51, rf_52, rf_53, rf_54, rf_55, rf_56, rf_57, rf_89, rf_90, rf_91, rf_92, rf_93, rf_94, rf_95, rf_96, rf_99, rf_100, rf_101, rf_164, rf_175, rf_4])) ?_; (simp only [opsE_go, opsE_nil, opsD_go, opsD_nil, res_move, res_assign, res_binOp, res_pick, res_boxW, res_loadW, res_fieldAddr, res_indexAddr, res_extract, pickV_bool, guardB_bool, evE_tmp, evE_const, evE_func, valR_some, memR_some, KK_ok, putE_some, putE_none, upd_at, XE.then, XE.out, bin_add, bin_sub, bin_eql, bin_neq, bin_lss, bin_leq, bin_gtr, bin_geq, offV_ptr, Nat.reduceEqDiff, Nat.reduceAdd, Nat.zero_add, Nat.add_zero, if_true, if_false, if_pos, if_neg, cond_true, cond_false, reduceIte, List.map_toArray, List.map_cons, List.map_nil, oracle_hit, fa_25_0, fa_25_1, fa_33_0, fa_33_1, fa_33_2, fa_41_0, fa_41_1, fa_52_0, fa_52_1, fa_52_2, fa_64_0, fa_64_1, fa_66_0, fa_66_1, fa_71_0, fa_113_0, fa_113_1, fa_113_2, fa_113_3, fa_113_4, fa_113_5, fa_113_6, fa_121_0, fa_121_1, fa_123_0, fa_123_1, rf_5, rf_6, rf_7, rf_8, rf_9, rf_10, rf_16, rf_17, rf_18, rf_19, rf_20, rf_21, rf_22, rf_23, rf_24, rf_25, rf_26, rf_27, rf_28, rf_29, rf_30, rf_43, rf_44, rf_45, rf_46, rf_47, rf_48, rf_49, rf_50, rf_51, rf_52, rf_53, rf_54, rf_55, rf_56, rf_57, rf_89, rf_90, rf_91, rf_92, rf_93, rf_94, rf_95, rf_96, rf_99, rf_100, rf_101, rf_164, rf_175, rf_4, Bool.false_eq_true])
    refine TE.skip ?_; (simp only [opsE_go, opsE_nil, opsD_go, opsD_nil, res_move, res_assign, res_binOp, res_pick, res_boxW, res_loadW, res_fieldAddr, res_indexAddr, res_extract, pickV_bool, guardB_bool, evE_tmp, evE_const, evE_func, valR_some, memR_some, KK_ok, putE_some, putE_none, upd_at, XE.then, XE.out, bin_add, bin_sub, bin_eql, bin_neq, bin_lss, bin_leq, bin_gtr, bin_geq, offV_ptr, Nat.reduceEqDiff, Nat.reduceAdd, Nat.zero_add, Nat.add_zero, if_true, if_false, if_pos, if_neg, cond_true, cond_false, reduceIte, List.map_toArray, List.map_cons, List.map_nil, oracle_hit, fa_25_0, fa_25_1, fa_33_0, fa_33_1, fa_33_2, fa_41_0, fa_41_1, fa_52_0, fa_52_1, fa_52_2, fa_64_0, fa_64_1, fa_66_0, fa_66_1, fa_71_0, fa_113_0, fa_113_1, fa_113_2, fa_113_3, fa_113_4, fa_113_5, fa_113_6, fa_121_0, fa_121_1, fa_123_0, fa_123_1, rf_5, rf_6, rf_7, rf_8, rf_9, rf_10, rf_16, rf_17, rf_18, rf_19, rf_20, rf_21, rf_22, rf_23, rf_24, rf_25, rf_26, rf_27, rf_28, rf_29, rf_30, rf_43, rf_44, rf_45, rf_46, rf_47, rf_48, rf_49, rf_50, rf_51, rf_52, rf_53, rf_54, rf_55, rf_56, rf_57, rf_89, rf_90, rf_91, rf_92, rf_93, rf_94, rf_95, rf_96, rf_99, rf_100, rf_101, rf_164, rf_175, rf_4])
    refine TE.seq ?_; (refine TE.reg (call := oracle []) (by show 4 ≤ 1000000; decide) (by kernel_rfl) (oracle_ok [] (by simp)) ?_); (simp only [opsE_go, opsE_nil, opsD_go, opsD_nil, res_move, res_assign, res_binOp, res_pick, res_boxW, res_loadW, res_fieldAddr, res_indexAddr, res_extract, pickV_bool, guardB_bool, evE_tmp, evE_const, evE_func, valR_some, memR_some, KK_ok, putE_some, putE_none, upd_at, XE.then, XE.out, bin_add, bin_sub, bin_eql, bin_neq, bin_lss, bin_leq, bin_gtr, bin_geq, offV_ptr, Nat.reduceEqDiff, Nat.reduceAdd, Nat.zero_add, Nat.add_zero, if_true, if_false, if_pos, if_neg, cond_true, cond_false, reduceIte, List.map_toArray, List.map_cons, List.map_nil, oracle_hit, fa_25_0, fa_25_1, fa_33_0, fa_33_1, fa_33_2, fa_41_0, fa_41_1, fa_52_0, fa_52_1, fa_52_2, fa_64_0, fa_64_1, fa_66_0, fa_66_1, fa_71_0, fa_113_0, fa_113_1, fa_113_2, fa_113_3, fa_113_4, fa_113_5, fa_113_6, fa_121_0, fa_121_1, fa_123_0, fa_123_1, rf_5, rf_6, rf_7, rf_8, rf_9, rf_10, rf_16, rf_17, rf_18, rf_19, rf_20, rf_21, rf_22, rf_23, rf_24, rf_25, rf_26, rf_27, rf_28, rf_29, rf_30, rf_43, rf_44, rf_45, rf_46, rf_47, rf_48, rf_49, rf_50, rf_51, rf_52, rf_53, rf_54, rf_55, rf_56, rf_57, rf_89, rf_90, rf_91, rf_92, rf_93, rf_94, rf_95, rf_96, rf_99, rf_100, rf_101, rf_164, rf_175, rf_4])
    refine TE.ret (.of (t := 2) rfl (.inr rfl) ?_); (simp only [opsE_go, opsE_nil, opsD_go, opsD_nil, res_move, res_assign, res_binOp, res_pick, res_boxW, res_loadW, res_fieldAddr, res_indexAddr, res_extract, pickV_bool, guardB_bool, evE_tmp, evE_const, evE_func, valR_some, memR_some, KK_ok, putE_some, putE_none, upd_at, XE.then, XE.out, bin_add, bin_sub, bin_eql, bin_neq, bin_lss, bin_leq, bin_gtr, bin_geq, offV_ptr, Nat.reduceEqDiff, Nat.reduceAdd, Nat.zero_add, Nat.add_zero, if_true, if_false, if_pos, if_neg, cond_true, cond_false, reduceIte, List.map_toArray, List.map_cons, List.map_nil, oracle_hit, fa_25_0, fa_25_1, fa_33_0, fa_33_1, fa_33_2, fa_41_0, fa_41_1, fa_52_0, fa_52_1, fa_52_2, fa_64_0, fa_64_1, fa_66_0, fa_66_1, fa_71_0, fa_113_0, fa_113_1, fa_113_2, fa_113_3, fa_113_4, fa_113_5, fa_113_6, fa_121_0, fa_121_1, fa_123_0, fa_123_1, rf_5, rf_6, rf_7, rf_8, rf_9, rf_10, rf_16, rf_17, rf_18, rf_19, rf_20, rf_21, rf_22, rf_23, rf_24, rf_25, rf_26, rf_27, rf_28, rf_29, rf_30, rf_43, rf_44, rf_45, rf_46, rf_47, rf_48, rf_49, rf_50, rf_51, rf_52, rf_53, rf_54, rf_55, rf_56, rf_57, rf_89, rf_90, rf_91, rf_92, rf_93, rf_94, rf_95, rf_96, rf_99, rf_100, rf_101, rf_164, rf_175, rf_4, Bool.false_eq_true])
  · refine TE.cond (t := true) rfl (by (simp only [opsE_go, opsE_nil, opsD_go, opsD_nil, res_move, res_assign, res_binOp, res_pick, res_boxW, res_loadW, res_fieldAddr, res_indexAddr, res_extract, pickV_bool, guardB_bool, evE_tmp, evE_const, evE_func, valR_some, memR_some, KK_ok, putE_some, putE_none, upd_at, XE.then, XE.out, bin_add, bin_sub, bin_eql, bin_neq, bin_lss, bin_leq, bin_gtr, bin_geq, offV_ptr, Nat.reduceEqDiff, Nat.reduceAdd, Nat.zero_add, Nat.add_zero, if_true, if_false, if_pos, if_neg, cond_true, cond_false, reduceIte, List.map_toArray, List.map_cons, List.map_nil, oracle_hit, fa_25_0, fa_25_1, fa_33_0, fa_33_1, fa_33_2, fa_41_0, fa_41_1, fa_52_0, fa_52_1, fa_52_2, fa_64_0, fa_64_1, fa_66_0, fa_66_1, fa_71_0, fa_113_0, fa_113_1, fa_113_2, fa_113_3, fa_113_4, fa_113_5, fa_113_6, fa_121_0, fa_121_1, fa_123_0, fa_123_1, rf_5, rf_6, rf_7, rf_8, rf_9, rf_10, rf_16, rf_17, rf_18, rf_19, rf_20, rf_21, rf_22, rf_23, rf_24, rf_25, rf_26, rf_27, rf_28, rf_29, rf_30, rf_43, rf_44, rf_45, rf_46, rf_47, rf_48, rf_49, rf_50, rf_51, rf_52, rf_53, rf_54, rf_55, rf_56, rf_57, rf_89, rf_90, rf_91, rf_92, rf_93, rf_94, rf_95, rf_96, rf_99, rf_100, rf_101, rf_164, rf_175, rf_4])) ?_; (simp only [opsE_go, opsE_nil, opsD_go, opsD_nil, res_move, res_assign, res_binOp, res_pick, res_boxW, res_loadW, res_fieldAddr, res_indexAddr, res_extract, pickV_bool, guardB_bool, evE_tmp, evE_const, evE_func, valR_some, memR_some, KK_ok, putE_some, putE_none, upd_at, XE.then, XE.out, bin_add, bin_sub, bin_eql, bin_neq, bin_lss, bin_leq, bin_gtr, bin_geq, offV_ptr, Nat.reduceEqDiff, Nat.reduceAdd, Nat.zero_add, Nat.add_zero, if_true, if_false, if_pos, if_neg, cond_true, cond_false, reduceIte, List.map_toArray, List.map_cons, List.map_nil, oracle_hit, fa_25_0, fa_25_1, fa_33_0, fa_33_1, fa_33_2, fa_41_0, fa_41_1, fa_52_0, fa_52_1, fa_52_2, fa_64_0, fa_64_1, fa_66_0, fa_66_1, fa_71_0, fa_113_0, fa_113_1, fa_113_2, fa_113_3, fa_113_4, fa_113_5, fa_113_6, fa_121_0, fa_121_1, fa_123_0, fa_123_1, rf_5, rf_6, rf_7, rf_8, rf_9, rf_10, rf_16, rf_17, rf_18, rf_19, rf_20, rf_21, rf_22, rf_23, rf_24, rf_25, rf_26, rf_27, rf_28, rf_29, rf_30, rf_43, rf_44, rf_45, rf_46, rf_47, rf_48, rf_49, rf_50, rf_51, rf_52, rf_53, rf_54, rf_55, rf_56, rf_57, rf_89, rf_90, rf_91, rf_92, rf_93, rf_94, rf_95, rf_96, rf_99, rf_100, rf_101, rf_164, rf_175, rf_4])
    refine TE.seq ?_; (refine TE.reg (call := oracle []) (by show 4 ≤ 1000000; decide) (by kernel_rfl) (oracle_ok [] (by simp)) ?_); (simp only [opsE_go, opsE_nil, opsD_go, opsD_nil, res_move, res_assign, res_binOp, res_pick, res_boxW, res_loadW, res_fieldAddr, res_indexAddr, res_extract, pickV_bool, guardB_bool, evE_tmp, evE_const, evE_func, valR_some, memR_some, KK_ok, putE_some, putE_none, upd_at, XE.then, XE.out, bin_add, bin_sub, bin_eql, bin_neq, bin_lss, bin_leq, bin_gtr, bin_geq, offV_ptr, Nat.reduceEqDiff, Nat.reduceAdd, Nat.zero_add, Nat.add_zero, if_true, if_false, if_pos, if_neg, cond_true, cond_false, reduceIte, List.map_toArray, List.map_cons, List.map_nil, oracle_hit, fa_25_0, fa_25_1, fa_33_0, fa_33_1, fa_33_2, fa_41_0, fa_41_1, fa_52_0, fa_52_1, fa_52_2, fa_64_0, fa_64_1, fa_66_0, fa_66_1, fa_71_0, fa_113_0, fa_113_1, fa_113_2, fa_113_3, fa_113_4, fa_113_5, fa_113_6, fa_121_0, fa_121_1, fa_123_0, fa_123_1, rf_5, rf_6, rf_7, rf_8, rf_9, rf_10, rf_16, rf_17, rf_18, rf_19, rf_20, rf_21, rf_22, rf_23, rf_24, rf_25, rf_26, rf_27, rf_28, rf_29, rf_30, rf_43, rf_44, rf_45, rf_46, rf_47, rf_48, rf_49, rf_50, rf_51, rf_52, rf_53, rf_54, rf_55, rf_56, rf_57, rf_89, rf_90, rf_91, rf_92, rf_93, rf_94, rf_95, rf_96, rf_99, rf_100, rf_101, rf_164, rf_175, rf_4])
    refine TE.ret (.of (t := 2) rfl (.inr rfl) ?_); (simp only [opsE_go, opsE_nil, opsD_go, opsD_nil, res_move, res_assign, res_binOp, res_pick, res_boxW, res_loadW, res_fieldAddr, res_indexAddr, res_extract, pickV_bool, guardB_bool, evE_tmp, evE_const, evE_func, valR_some, memR_some, KK_ok, putE_some, putE_none, upd_at, XE.then, XE.out, bin_add, bin_sub, bin_eql, bin_neq, bin_lss, bin_leq, bin_gtr, bin_geq, offV_ptr, Nat.reduceEqDiff, Nat.reduceAdd, Nat.zero_add, Nat.add_zero, if_true, if_false, if_pos, if_neg, cond_true, cond_false, reduceIte, List.map_toArray, List.map_cons, List.map_nil, oracle_hit, fa_25_0, fa_25_1, fa_33_0, fa_33_1, fa_33_2, fa_41_0, fa_41_1, fa_52_0, fa_52_1, fa_52_2, fa_64_0, fa_64_1, fa_66_0, fa_66_1, fa_71_0, fa_113_0, fa_113_1, fa_113_2, fa_113_3, fa_113_4, fa_113_5, fa_113_6, fa_121_0, fa_121_1, fa_123_0, fa_123_1, rf_5, rf_6, rf_7, rf_8, rf_9, rf_10, rf_16, rf_17, rf_18, rf_19, rf_20, rf_21, rf_22, rf_23, rf_24, rf_25, rf_26, rf_27, rf_28, rf_29, rf_30, rf_43, rf_44, rf_45, rf_46, rf_47, rf_48, rf_49, rf_50, rf_51, rf_52, rf_53, rf_54, rf_55, rf_56, rf_57, rf_89, rf_90, rf_91, rf_92, rf_93, rf_94, rf_95, rf_96, rf_99, rf_100, rf_101, rf_164, rf_175, rf_4])

theorem cmpRow_ok (t s u v : Int) (w : AW) : CallG 101 [rowV t s, rowV u v] w (.int .i64 (cmpR t s u v)) := by
  obtain ⟨w1, b1, g1, z1, r1⟩ := boxW_ok 41 (rowV t s) w
  obtain ⟨w2, b2, g2, z2, r2⟩ := boxW_ok 41 (rowV u v) w1
  have r1' : w2.heap.get w.size = some (.row [.int .i64 t, .int .i64 s] 41 0) := by rw [g2.same _ (by omega)]; exact r1
  have r2' : w2.heap.get w1.size = some (.row [.int .i64 u, .int .i64 v] 41 0) := r2
  have c0 : w2.cell ⟨w.size, 0, none⟩ = some (.int .i64 t) := by rw [cell_at r1']; rfl
  have c1 : w2.cell ⟨w.size, 1, none⟩ = some (.int .i64 s) := by rw [cell_at r1']; rfl
  have c2 : w2.cell ⟨w1.size, 0, none⟩ = some (.int .i64 u) := by rw [cell_at r2']; rfl
  have c3 : w2.cell ⟨w1.size, 1, none⟩ = some (.int .i64 v) := by rw [cell_at r2']; rfl
  have l0 := load_one ty_3 c0
  have l1 := load_one ty_3 c1
  have l2 := load_one ty_3 c2
  have l3 := load_one ty_3 c3
  refine ⟨w2, ?_, g1.trans g2⟩
  refine CallT.of_TE (args := [rowV t s, rowV u v]) Tryz.func101 rfl (by simp) (by show _ ≤ 19; simp) ?_
  have a0 : argsE [rowV t s, rowV u v] 0 = rowV t s := rfl
  have a1 : argsE [rowV t s, rowV u v] 1 = rowV u v := rfl
  refine TE.seq ?_; (refine TE.reg (call := oracle []) (by show 19 ≤ 1000000; decide) (by kernel_rfl) (oracle_ok [] (by simp)) ?_); (simp only [opsE_go, opsE_nil, opsD_go, opsD_nil, res_move, res_assign, res_binOp, res_pick, res_boxW, res_loadW, res_fieldAddr, res_indexAddr, res_extract, pickV_bool, guardB_bool, evE_tmp, evE_const, evE_func, valR_some, memR_some, KK_ok, putE_some, putE_none, upd_at, XE.then, XE.out, bin_add, bin_sub, bin_eql, bin_neq, bin_lss, bin_leq, bin_gtr, bin_geq, offV_ptr, Nat.reduceEqDiff, Nat.reduceAdd, Nat.zero_add, Nat.add_zero, if_true, if_false, if_pos, if_neg, cond_true, cond_false, reduceIte, List.map_toArray, List.map_cons, List.map_nil, oracle_hit, fa_25_0, fa_25_1, fa_33_0, fa_33_1, fa_33_2, fa_41_0, fa_41_1, fa_52_0, fa_52_1, fa_52_2, fa_64_0, fa_64_1, fa_66_0, fa_66_1, fa_71_0, fa_113_0, fa_113_1, fa_113_2, fa_113_3, fa_113_4, fa_113_5, fa_113_6, fa_121_0, fa_121_1, fa_123_0, fa_123_1, rf_5, rf_6, rf_7, rf_8, rf_9, rf_10, rf_16, rf_17, rf_18, rf_19, rf_20, rf_21, rf_22, rf_23, rf_24, rf_25, rf_26, rf_27, rf_28, rf_29, rf_30, rf_43, rf_44, rf_45, rf_46, rf_47, rf_48, rf_49, rf_50, rf_51, rf_52, rf_53, rf_54, rf_55, rf_56, rf_57, rf_89, rf_90, rf_91, rf_92, rf_93, rf_94, rf_95, rf_96, rf_99, rf_100, rf_101, rf_164, rf_175, rf_4, a0, a1, b1, b2])
  have k1 := number_ok t u w2
  refine TE.seq (TE.seq ?_); (refine TE.reg (call := oracle [(96, #[.int .i64 t, .int .i64 u], w2, .int .i64 (num t u), w2)]) (by show 19 ≤ 1000000; decide) (by kernel_rfl) (oracle_ok _ (by simpa using k1)) ?_); (simp only [opsE_go, opsE_nil, opsD_go, opsD_nil, res_move, res_assign, res_binOp, res_pick, res_boxW, res_loadW, res_fieldAddr, res_indexAddr, res_extract, pickV_bool, guardB_bool, evE_tmp, evE_const, evE_func, valR_some, memR_some, KK_ok, putE_some, putE_none, upd_at, XE.then, XE.out, bin_add, bin_sub, bin_eql, bin_neq, bin_lss, bin_leq, bin_gtr, bin_geq, offV_ptr, Nat.reduceEqDiff, Nat.reduceAdd, Nat.zero_add, Nat.add_zero, if_true, if_false, if_pos, if_neg, cond_true, cond_false, reduceIte, List.map_toArray, List.map_cons, List.map_nil, oracle_hit, fa_25_0, fa_25_1, fa_33_0, fa_33_1, fa_33_2, fa_41_0, fa_41_1, fa_52_0, fa_52_1, fa_52_2, fa_64_0, fa_64_1, fa_66_0, fa_66_1, fa_71_0, fa_113_0, fa_113_1, fa_113_2, fa_113_3, fa_113_4, fa_113_5, fa_113_6, fa_121_0, fa_121_1, fa_123_0, fa_123_1, rf_5, rf_6, rf_7, rf_8, rf_9, rf_10, rf_16, rf_17, rf_18, rf_19, rf_20, rf_21, rf_22, rf_23, rf_24, rf_25, rf_26, rf_27, rf_28, rf_29, rf_30, rf_43, rf_44, rf_45, rf_46, rf_47, rf_48, rf_49, rf_50, rf_51, rf_52, rf_53, rf_54, rf_55, rf_56, rf_57, rf_89, rf_90, rf_91, rf_92, rf_93, rf_94, rf_95, rf_96, rf_99, rf_100, rf_101, rf_164, rf_175, rf_4, l0, l2])
  refine TE.seq ?_; (refine TE.reg (call := oracle []) (by show 19 ≤ 1000000; decide) (by kernel_rfl) (oracle_ok [] (by simp)) ?_); (simp only [opsE_go, opsE_nil, opsD_go, opsD_nil, res_move, res_assign, res_binOp, res_pick, res_boxW, res_loadW, res_fieldAddr, res_indexAddr, res_extract, pickV_bool, guardB_bool, evE_tmp, evE_const, evE_func, valR_some, memR_some, KK_ok, putE_some, putE_none, upd_at, XE.then, XE.out, bin_add, bin_sub, bin_eql, bin_neq, bin_lss, bin_leq, bin_gtr, bin_geq, offV_ptr, Nat.reduceEqDiff, Nat.reduceAdd, Nat.zero_add, Nat.add_zero, if_true, if_false, if_pos, if_neg, cond_true, cond_false, reduceIte, List.map_toArray, List.map_cons, List.map_nil, oracle_hit, fa_25_0, fa_25_1, fa_33_0, fa_33_1, fa_33_2, fa_41_0, fa_41_1, fa_52_0, fa_52_1, fa_52_2, fa_64_0, fa_64_1, fa_66_0, fa_66_1, fa_71_0, fa_113_0, fa_113_1, fa_113_2, fa_113_3, fa_113_4, fa_113_5, fa_113_6, fa_121_0, fa_121_1, fa_123_0, fa_123_1, rf_5, rf_6, rf_7, rf_8, rf_9, rf_10, rf_16, rf_17, rf_18, rf_19, rf_20, rf_21, rf_22, rf_23, rf_24, rf_25, rf_26, rf_27, rf_28, rf_29, rf_30, rf_43, rf_44, rf_45, rf_46, rf_47, rf_48, rf_49, rf_50, rf_51, rf_52, rf_53, rf_54, rf_55, rf_56, rf_57, rf_89, rf_90, rf_91, rf_92, rf_93, rf_94, rf_95, rf_96, rf_99, rf_100, rf_101, rf_164, rf_175, rf_4])
  by_cases h : num t u = 0
  · refine TE.cond (t := false) rfl (by (simp only [opsE_go, opsE_nil, opsD_go, opsD_nil, res_move, res_assign, res_binOp, res_pick, res_boxW, res_loadW, res_fieldAddr, res_indexAddr, res_extract, pickV_bool, guardB_bool, evE_tmp, evE_const, evE_func, valR_some, memR_some, KK_ok, putE_some, putE_none, upd_at, XE.then, XE.out, bin_add, bin_sub, bin_eql, bin_neq, bin_lss, bin_leq, bin_gtr, bin_geq, offV_ptr, Nat.reduceEqDiff, Nat.reduceAdd, Nat.zero_add, Nat.add_zero, if_true, if_false, if_pos, if_neg, cond_true, cond_false, reduceIte, List.map_toArray, List.map_cons, List.map_nil, oracle_hit, fa_25_0, fa_25_1, fa_33_0, fa_33_1, fa_33_2, fa_41_0, fa_41_1, fa_52_0, fa_52_1, fa_52_2, fa_64_0, fa_64_1, fa_66_0, fa_66_1, fa_71_0, fa_113_0, fa_113_1, fa_113_2, fa_113_3, fa_113_4, fa_113_5, fa_113_6, fa_121_0, fa_121_1, fa_123_0, fa_123_1, rf_5, rf_6, rf_7, rf_8, rf_9, rf_10, rf_16, rf_17, rf_18, rf_19, rf_20, rf_21, rf_22, rf_23, rf_24, rf_25, rf_26, rf_27, rf_28, rf_29, rf_30, rf_43, rf_44, rf_45, rf_46, rf_47, rf_48, rf_49, rf_50, rf_51, rf_52, rf_53, rf_54, rf_55, rf_56, rf_57, rf_89, rf_90, rf_91, rf_92, rf_93, rf_94, rf_95, rf_96, rf_99, rf_100, rf_101, rf_164, rf_175, rf_4, h]); rfl) ?_; (simp only [opsE_go, opsE_nil, opsD_go, opsD_nil, res_move, res_assign, res_binOp, res_pick, res_boxW, res_loadW, res_fieldAddr, res_indexAddr, res_extract, pickV_bool, guardB_bool, evE_tmp, evE_const, evE_func, valR_some, memR_some, KK_ok, putE_some, putE_none, upd_at, XE.then, XE.out, bin_add, bin_sub, bin_eql, bin_neq, bin_lss, bin_leq, bin_gtr, bin_geq, offV_ptr, Nat.reduceEqDiff, Nat.reduceAdd, Nat.zero_add, Nat.add_zero, if_true, if_false, if_pos, if_neg, cond_true, cond_false, reduceIte, List.map_toArray, List.map_cons, List.map_nil, oracle_hit, fa_25_0, fa_25_1, fa_33_0, fa_33_1, fa_33_2, fa_41_0, fa_41_1, fa_52_0, fa_52_1, fa_52_2, fa_64_0, fa_64_1, fa_66_0, fa_66_1, fa_71_0, fa_113_0, fa_113_1, fa_113_2, fa_113_3, fa_113_4, fa_113_5, fa_113_6, fa_121_0, fa_121_1, fa_123_0, fa_123_1, rf_5, rf_6, rf_7, rf_8, rf_9, rf_10, rf_16, rf_17, rf_18, rf_19, rf_20, rf_21, rf_22, rf_23, rf_24, rf_25, rf_26, rf_27, rf_28, rf_29, rf_30, rf_43, rf_44, rf_45, rf_46, rf_47, rf_48, rf_49, rf_50, rf_51, rf_52, rf_53, rf_54, rf_55, rf_56, rf_57, rf_89, rf_90, rf_91, rf_92, rf_93, rf_94, rf_95, rf_96, rf_99, rf_100, rf_101, rf_164, rf_175, rf_4, Bool.false_eq_true])
    refine TE.skip ?_; (simp only [opsE_go, opsE_nil, opsD_go, opsD_nil, res_move, res_assign, res_binOp, res_pick, res_boxW, res_loadW, res_fieldAddr, res_indexAddr, res_extract, pickV_bool, guardB_bool, evE_tmp, evE_const, evE_func, valR_some, memR_some, KK_ok, putE_some, putE_none, upd_at, XE.then, XE.out, bin_add, bin_sub, bin_eql, bin_neq, bin_lss, bin_leq, bin_gtr, bin_geq, offV_ptr, Nat.reduceEqDiff, Nat.reduceAdd, Nat.zero_add, Nat.add_zero, if_true, if_false, if_pos, if_neg, cond_true, cond_false, reduceIte, List.map_toArray, List.map_cons, List.map_nil, oracle_hit, fa_25_0, fa_25_1, fa_33_0, fa_33_1, fa_33_2, fa_41_0, fa_41_1, fa_52_0, fa_52_1, fa_52_2, fa_64_0, fa_64_1, fa_66_0, fa_66_1, fa_71_0, fa_113_0, fa_113_1, fa_113_2, fa_113_3, fa_113_4, fa_113_5, fa_113_6, fa_121_0, fa_121_1, fa_123_0, fa_123_1, rf_5, rf_6, rf_7, rf_8, rf_9, rf_10, rf_16, rf_17, rf_18, rf_19, rf_20, rf_21, rf_22, rf_23, rf_24, rf_25, rf_26, rf_27, rf_28, rf_29, rf_30, rf_43, rf_44, rf_45, rf_46, rf_47, rf_48, rf_49, rf_50, rf_51, rf_52, rf_53, rf_54, rf_55, rf_56, rf_57, rf_89, rf_90, rf_91, rf_92, rf_93, rf_94, rf_95, rf_96, rf_99, rf_100, rf_101, rf_164, rf_175, rf_4])
    have k2 := number_ok s v w2
    refine TE.seq ?_; (refine TE.reg (call := oracle [(96, #[.int .i64 s, .int .i64 v], w2, .int .i64 (num s v), w2)]) (by show 19 ≤ 1000000; decide) (by kernel_rfl) (oracle_ok _ (by simpa using k2)) ?_); (simp only [opsE_go, opsE_nil, opsD_go, opsD_nil, res_move, res_assign, res_binOp, res_pick, res_boxW, res_loadW, res_fieldAddr, res_indexAddr, res_extract, pickV_bool, guardB_bool, evE_tmp, evE_const, evE_func, valR_some, memR_some, KK_ok, putE_some, putE_none, upd_at, XE.then, XE.out, bin_add, bin_sub, bin_eql, bin_neq, bin_lss, bin_leq, bin_gtr, bin_geq, offV_ptr, Nat.reduceEqDiff, Nat.reduceAdd, Nat.zero_add, Nat.add_zero, if_true, if_false, if_pos, if_neg, cond_true, cond_false, reduceIte, List.map_toArray, List.map_cons, List.map_nil, oracle_hit, fa_25_0, fa_25_1, fa_33_0, fa_33_1, fa_33_2, fa_41_0, fa_41_1, fa_52_0, fa_52_1, fa_52_2, fa_64_0, fa_64_1, fa_66_0, fa_66_1, fa_71_0, fa_113_0, fa_113_1, fa_113_2, fa_113_3, fa_113_4, fa_113_5, fa_113_6, fa_121_0, fa_121_1, fa_123_0, fa_123_1, rf_5, rf_6, rf_7, rf_8, rf_9, rf_10, rf_16, rf_17, rf_18, rf_19, rf_20, rf_21, rf_22, rf_23, rf_24, rf_25, rf_26, rf_27, rf_28, rf_29, rf_30, rf_43, rf_44, rf_45, rf_46, rf_47, rf_48, rf_49, rf_50, rf_51, rf_52, rf_53, rf_54, rf_55, rf_56, rf_57, rf_89, rf_90, rf_91, rf_92, rf_93, rf_94, rf_95, rf_96, rf_99, rf_100, rf_101, rf_164, rf_175, rf_4, l1, l3])
    refine TE.ret (.of (t := 4) rfl (.inr rfl) ?_); (simp only [opsE_go, opsE_nil, opsD_go, opsD_nil, res_move, res_assign, res_binOp, res_pick, res_boxW, res_loadW, res_fieldAddr, res_indexAddr, res_extract, pickV_bool, guardB_bool, evE_tmp, evE_const, evE_func, valR_some, memR_some, KK_ok, putE_some, putE_none, upd_at, XE.then, XE.out, bin_add, bin_sub, bin_eql, bin_neq, bin_lss, bin_leq, bin_gtr, bin_geq, offV_ptr, Nat.reduceEqDiff, Nat.reduceAdd, Nat.zero_add, Nat.add_zero, if_true, if_false, if_pos, if_neg, cond_true, cond_false, reduceIte, List.map_toArray, List.map_cons, List.map_nil, oracle_hit, fa_25_0, fa_25_1, fa_33_0, fa_33_1, fa_33_2, fa_41_0, fa_41_1, fa_52_0, fa_52_1, fa_52_2, fa_64_0, fa_64_1, fa_66_0, fa_66_1, fa_71_0, fa_113_0, fa_113_1, fa_113_2, fa_113_3, fa_113_4, fa_113_5, fa_113_6, fa_121_0, fa_121_1, fa_123_0, fa_123_1, rf_5, rf_6, rf_7, rf_8, rf_9, rf_10, rf_16, rf_17, rf_18, rf_19, rf_20, rf_21, rf_22, rf_23, rf_24, rf_25, rf_26, rf_27, rf_28, rf_29, rf_30, rf_43, rf_44, rf_45, rf_46, rf_47, rf_48, rf_49, rf_50, rf_51, rf_52, rf_53, rf_54, rf_55, rf_56, rf_57, rf_89, rf_90, rf_91, rf_92, rf_93, rf_94, rf_95, rf_96, rf_99, rf_100, rf_101, rf_164, rf_175, rf_4, cmpR, h, ne_eq, not_true_eq_false])
  · refine TE.cond (t := true) rfl (by (simp only [opsE_go, opsE_nil, opsD_go, opsD_nil, res_move, res_assign, res_binOp, res_pick, res_boxW, res_loadW, res_fieldAddr, res_indexAddr, res_extract, pickV_bool, guardB_bool, evE_tmp, evE_const, evE_func, valR_some, memR_some, KK_ok, putE_some, putE_none, upd_at, XE.then, XE.out, bin_add, bin_sub, bin_eql, bin_neq, bin_lss, bin_leq, bin_gtr, bin_geq, offV_ptr, Nat.reduceEqDiff, Nat.reduceAdd, Nat.zero_add, Nat.add_zero, if_true, if_false, if_pos, if_neg, cond_true, cond_false, reduceIte, List.map_toArray, List.map_cons, List.map_nil, oracle_hit, fa_25_0, fa_25_1, fa_33_0, fa_33_1, fa_33_2, fa_41_0, fa_41_1, fa_52_0, fa_52_1, fa_52_2, fa_64_0, fa_64_1, fa_66_0, fa_66_1, fa_71_0, fa_113_0, fa_113_1, fa_113_2, fa_113_3, fa_113_4, fa_113_5, fa_113_6, fa_121_0, fa_121_1, fa_123_0, fa_123_1, rf_5, rf_6, rf_7, rf_8, rf_9, rf_10, rf_16, rf_17, rf_18, rf_19, rf_20, rf_21, rf_22, rf_23, rf_24, rf_25, rf_26, rf_27, rf_28, rf_29, rf_30, rf_43, rf_44, rf_45, rf_46, rf_47, rf_48, rf_49, rf_50, rf_51, rf_52, rf_53, rf_54, rf_55, rf_56, rf_57, rf_89, rf_90, rf_91, rf_92, rf_93, rf_94, rf_95, rf_96, rf_99, rf_100, rf_101, rf_164, rf_175, rf_4, bne_iff_ne, ne_eq, h]); simp [h]) ?_; (simp only [opsE_go, opsE_nil, opsD_go, opsD_nil, res_move, res_assign, res_binOp, res_pick, res_boxW, res_loadW, res_fieldAddr, res_indexAddr, res_extract, pickV_bool, guardB_bool, evE_tmp, evE_const, evE_func, valR_some, memR_some, KK_ok, putE_some, putE_none, upd_at, XE.then, XE.out, bin_add, bin_sub, bin_eql, bin_neq, bin_lss, bin_leq, bin_gtr, bin_geq, offV_ptr, Nat.reduceEqDiff, Nat.reduceAdd, Nat.zero_add, Nat.add_zero, if_true, if_false, if_pos, if_neg, cond_true, cond_false, reduceIte, List.map_toArray, List.map_cons, List.map_nil, oracle_hit, fa_25_0, fa_25_1, fa_33_0, fa_33_1, fa_33_2, fa_41_0, fa_41_1, fa_52_0, fa_52_1, fa_52_2, fa_64_0, fa_64_1, fa_66_0, fa_66_1, fa_71_0, fa_113_0, fa_113_1, fa_113_2, fa_113_3, fa_113_4, fa_113_5, fa_113_6, fa_121_0, fa_121_1, fa_123_0, fa_123_1, rf_5, rf_6, rf_7, rf_8, rf_9, rf_10, rf_16, rf_17, rf_18, rf_19, rf_20, rf_21, rf_22, rf_23, rf_24, rf_25, rf_26, rf_27, rf_28, rf_29, rf_30, rf_43, rf_44, rf_45, rf_46, rf_47, rf_48, rf_49, rf_50, rf_51, rf_52, rf_53, rf_54, rf_55, rf_56, rf_57, rf_89, rf_90, rf_91, rf_92, rf_93, rf_94, rf_95, rf_96, rf_99, rf_100, rf_101, rf_164, rf_175, rf_4])
    refine TE.seq ?_; (refine TE.reg (call := oracle []) (by show 19 ≤ 1000000; decide) (by kernel_rfl) (oracle_ok [] (by simp)) ?_); (simp only [opsE_go, opsE_nil, opsD_go, opsD_nil, res_move, res_assign, res_binOp, res_pick, res_boxW, res_loadW, res_fieldAddr, res_indexAddr, res_extract, pickV_bool, guardB_bool, evE_tmp, evE_const, evE_func, valR_some, memR_some, KK_ok, putE_some, putE_none, upd_at, XE.then, XE.out, bin_add, bin_sub, bin_eql, bin_neq, bin_lss, bin_leq, bin_gtr, bin_geq, offV_ptr, Nat.reduceEqDiff, Nat.reduceAdd, Nat.zero_add, Nat.add_zero, if_true, if_false, if_pos, if_neg, cond_true, cond_false, reduceIte, List.map_toArray, List.map_cons, List.map_nil, oracle_hit, fa_25_0, fa_25_1, fa_33_0, fa_33_1, fa_33_2, fa_41_0, fa_41_1, fa_52_0, fa_52_1, fa_52_2, fa_64_0, fa_64_1, fa_66_0, fa_66_1, fa_71_0, fa_113_0, fa_113_1, fa_113_2, fa_113_3, fa_113_4, fa_113_5, fa_113_6, fa_121_0, fa_121_1, fa_123_0, fa_123_1, rf_5, rf_6, rf_7, rf_8, rf_9, rf_10, rf_16, rf_17, rf_18, rf_19, rf_20, rf_21, rf_22, rf_23, rf_24, rf_25, rf_26, rf_27, rf_28, rf_29, rf_30, rf_43, rf_44, rf_45, rf_46, rf_47, rf_48, rf_49, rf_50, rf_51, rf_52, rf_53, rf_54, rf_55, rf_56, rf_57, rf_89, rf_90, rf_91, rf_92, rf_93, rf_94, rf_95, rf_96, rf_99, rf_100, rf_101, rf_164, rf_175, rf_4])
    refine TE.ret (.of (t := 4) rfl (.inr rfl) ?_); (simp only [opsE_go, opsE_nil, opsD_go, opsD_nil, res_move, res_assign, res_binOp, res_pick, res_boxW, res_loadW, res_fieldAddr, res_indexAddr, res_extract, pickV_bool, guardB_bool, evE_tmp, evE_const, evE_func, valR_some, memR_some, KK_ok, putE_some, putE_none, upd_at, XE.then, XE.out, bin_add, bin_sub, bin_eql, bin_neq, bin_lss, bin_leq, bin_gtr, bin_geq, offV_ptr, Nat.reduceEqDiff, Nat.reduceAdd, Nat.zero_add, Nat.add_zero, if_true, if_false, if_pos, if_neg, cond_true, cond_false, reduceIte, List.map_toArray, List.map_cons, List.map_nil, oracle_hit, fa_25_0, fa_25_1, fa_33_0, fa_33_1, fa_33_2, fa_41_0, fa_41_1, fa_52_0, fa_52_1, fa_52_2, fa_64_0, fa_64_1, fa_66_0, fa_66_1, fa_71_0, fa_113_0, fa_113_1, fa_113_2, fa_113_3, fa_113_4, fa_113_5, fa_113_6, fa_121_0, fa_121_1, fa_123_0, fa_123_1, rf_5, rf_6, rf_7, rf_8, rf_9, rf_10, rf_16, rf_17, rf_18, rf_19, rf_20, rf_21, rf_22, rf_23, rf_24, rf_25, rf_26, rf_27, rf_28, rf_29, rf_30, rf_43, rf_44, rf_45, rf_46, rf_47, rf_48, rf_49, rf_50, rf_51, rf_52, rf_53, rf_54, rf_55, rf_56, rf_57, rf_89, rf_90, rf_91, rf_92, rf_93, rf_94, rf_95, rf_96, rf_99, rf_100, rf_101, rf_164, rf_175, rf_4, cmpR, h, ne_eq, not_false_eq_true])

end Go.Proofs.YtkjbbbjebidniaaGreatDoor
