/- The soundness of the reckoner: built-in functions, appends, maps, operations. -/
import Derived.Test.YtkjbbbjebidniaaGreatDoorM1
/- A run of closed code reckoned over a heap of its own: append. -/

namespace Go.Proofs.YtkjbbbjebidniaaGreatDoor
open Go

set_option linter.unusedSimpArgs false
set_option linter.unusedVariables false
section
variable {P : Program}

theorem Sat.heap {ρ : Rho} {wa : AW} {w w1 : World} (S : Sat P ρ wa w) (h : w1.heap = w.heap) : Sat P ρ wa w1 :=
  ⟨fun i img hi => by rw [h]; exact S.dom i img hi, fun i img hi => by rw [h]; exact S.obj i img hi, S.inj⟩

theorem ints_refl {ρ : Rho} {α : Type} (f : α → Int) : ∀ (l : List α), VRs ρ (l.map fun b => Value.int .u8 (f b)) (l.map fun b => Value.int .u8 (f b))
  | [] => .nil
  | x :: l => .cons (.int _ _) (ints_refl f l)

theorem len_ok {ρ : Rho} {x x' : Value} {n : Nat} (hx : VR ρ x x') (h : lenA x = some n) (w : World) : (Builtin.lenOf x').run P w = .ok n w := by
  cases hx <;> simp_all [lenA, Builtin.lenOf]

theorem loadCells_heap {ρ : Rho} {wa : AW} {w : World} (S : Sat P ρ wa w) {b off n : Nat} {img : Img} (hb : ρ b = some img) {l : List Value}
    (h : wa.cells ⟨b, off, none⟩ n = some l) : ∃ l', VRs ρ l l' ∧ l.length = n ∧ ∀ w1 : World, w1.heap = w.heap → (loadCells ⟨img.blk, off, none⟩ n).run P w1 = .ok ⟨l'⟩ w1 := by
  obtain ⟨l', h1, h2, h3⟩ := cells_ok S hb h
  refine ⟨l', h1, h2, fun w1 hw => ?_⟩
  have := run_loadCells_list (P := P) w1 ⟨img.blk, off, none⟩ l' (fun j v hv => by
    rw [Addr_add]; have := h3 j v hv; simpa [World.cell?, hw] using this)
  rw [← h1.length, h2] at this
  exact this

theorem first_ok {ρ : Rho} {wa : AW} {w : World} (S : Sat P ρ wa w) {x x' : Value} {size n : Nat} {l : List Value} (hx : VR ρ x x') (hn : lenA x = some n) (h : firstA wa size n x = some l) :
    ∃ l', VRs ρ l l' ∧ ∀ w1 : World, w1.heap = w.heap → (Builtin.firstCells size n x').run P w1 = .ok ⟨l'⟩ w1 := by
  cases hx with
  | slice hb hc =>
    obtain ⟨l', h1, _, h2⟩ := loadCells_heap S hb h
    exact ⟨l', h1, h2⟩
  | slice0 hb hm hc =>
    simp only [lenA, Option.some.injEq] at hn; subst hn
    have hl : l = [] := by
      simp only [firstA, Nat.zero_mul] at h
      obtain ⟨_, _, h3, _⟩ := cells_ok S hb h
      exact List.eq_nil_of_length_eq_zero h3
    subst hl
    exact ⟨[], .nil, fun w1 _ => by simp [Builtin.firstCells, loadCells, loadCellsFrom]⟩
  | wild hb a =>
    simp only [lenA, Option.some.injEq] at hn; subst hn
    have hl : l = [] := by
      simp only [firstA, Nat.zero_mul] at h
      obtain ⟨_, _, h3, _⟩ := cells_ok S hb h
      exact List.eq_nil_of_length_eq_zero h3
    subst hl
    exact ⟨[], .nil, fun w1 _ => by simp [Builtin.firstCells, loadCells, loadCellsFrom]⟩
  | nilslice l0 c =>
    simp only [firstA] at h
    cases hb : Nat.beq n 0 with
    | false => rw [hb] at h; simp at h
    | true =>
      rw [hb] at h; simp only [cond_true, Option.some.injEq] at h; subst h
      exact ⟨[], .nil, fun w1 _ => by simp [Builtin.firstCells]⟩
  | string s =>
    simp only [firstA, Option.some.injEq] at h; subst h
    refine ⟨_, ints_refl (fun b : UInt8 => (b.toNat : Int)) _, fun w1 _ => ?_⟩
    simp only [Builtin.firstCells, Sem.run_pure]
    congr 1
    apply Array.ext'
    simp
  | _ => simp [firstA] at h

def isIntD : TypeDesc → Bool
  | .int _ => true
  | _ => false

theorem flats_get {ρ : Rho} {z : Value} (hz : flatV z = true) (j : Nat) (v : Value) (h : z.cells.toList[j]? = some v) : VR ρ v v := by
  obtain ⟨u, h1, h2⟩ := (flat_cells (ρ := ρ) z hz).get h
  rw [h] at h1; cases h1; exact h2

theorem VRs_of_all {ρ : Rho} : ∀ {l : List Value}, (∀ v ∈ l, VR ρ v v) → VRs ρ l l
  | [], _ => .nil
  | x :: l, h => .cons (h x (by simp)) (VRs_of_all fun v hv => h v (by simp [hv]))

theorem zeroCells_refl {ρ : Rho} {z : Value} (hz : flatV z = true) (n : Nat) : VRs ρ (Builtin.zeroCells z.cells n).toList (Builtin.zeroCells z.cells n).toList := by
  refine VRs_of_all fun v hv => ?_
  simp only [Builtin.zeroCells, Array.toList_map, List.mem_map, Array.toList_range, List.mem_range] at hv
  obtain ⟨i, hi, rfl⟩ := hv
  have hpos : 0 < z.cells.size := by
    rcases Nat.eq_zero_or_pos z.cells.size with h0 | h0
    · rw [h0] at hi; simp at hi
    · exact h0
  have hlt : i % z.cells.size < z.cells.size := Nat.mod_lt _ hpos
  rw [getElem!_pos z.cells (i % z.cells.size) hlt]
  exact flats_get hz (i % z.cells.size) _ (by rw [Array.getElem?_toList, Array.getElem?_eq_getElem hlt])

theorem zeroCells_size (z : Array Value) (n : Nat) : (Builtin.zeroCells z n).size = n * z.size := by simp [Builtin.zeroCells]

theorem growBy_le (newLen : Nat) : ∀ (r c : Nat), c ≤ 2 * newLen + 200 → Builtin.growBy newLen r c ≤ 2 * newLen + 200
  | 0, c, h => by simpa [Builtin.growBy] using h
  | r + 1, c, h => by
    simp only [Builtin.growBy]
    split
    · exact h
    · exact growBy_le newLen r _ (by omega)

theorem nextcap_le {need c : Nat} (h : c < need) : Builtin.nextslicecap need c ≤ 2 * need + 200 := by
  unfold Builtin.nextslicecap
  split
  · omega
  · split
    · omega
    · exact growBy_le need 4 c (by omega)

/-- How many append adds. -/
def CountIs (P : Program) (xd : TypeDesc) (i : TypeInfo) (x : Value) (n : Nat) : Prop :=
  (isIntD xd = false ∧ ∀ w, (Builtin.lenOf x).run P w = .ok n w) ∨
  (isIntD xd = true ∧ ∃ k l, x = .int k l ∧ IntKind.i64.wrap l = l ∧ ¬ l < 0 ∧ l * (i.bytes : Int) ≤ 281474976710656 ∧ l.toNat = n)

/-- append's cells, in the world. -/
def addedS (zeros : Bool) (elem : TypeId) (size n : Nat) (x : Value) : Sem (Array Value) :=
  if !zeros then Builtin.firstCells size n x else if n * size = 0 then pure #[] else do pure (Builtin.zeroCells (← zeroValue elem).cells n)

theorem added_ok {ρ : Rho} {wa : AW} {w : World} (S : Sat P ρ wa w) {xd : TypeDesc} {elem : TypeId} {i : TypeInfo} {x x' : Value} {n : Nat} {new : List Value} (hi : P.info? elem = some i)
    (hx : VR ρ x x') {z : Value} (hz : i.zero = some z) (hzs : z.cells.toList.length = i.size) (h : addedA wa xd i x = some (n, new)) :
    ∃ (new' : List Value), VRs ρ new new' ∧ CountIs P xd i x' n ∧
      (∀ w1 : World, w1.heap = w.heap → (addedS (isIntD xd) elem i.size n x').run P w1 = .ok ⟨new'⟩ w1) := by
  unfold addedA at h
  by_cases hxd : ∃ k, xd = .int k
  · obtain ⟨k, rfl⟩ := hxd
    simp only [hz] at h
    split at h
    · rename_i k2 l z2 hz2
      cases hz2
      cases hx
      cases hb : (decide (0 ≤ l) && decide (l < 1048576) && decide (l * i.bytes ≤ 281474976710656) && flatV z) with
      | false => rw [hb] at h; simp at h
      | true =>
        rw [hb] at h
        simp only [cond_true, Option.some.injEq, Prod.mk.injEq] at h
        obtain ⟨h1, h2⟩ := h; subst h1; subst h2
        simp only [Bool.and_eq_true, decide_eq_true_eq] at hb
        obtain ⟨⟨⟨b1, b2⟩, b3⟩, b4⟩ := hb
        refine ⟨_, zeroCells_refl b4 _, .inr ⟨rfl, _, l, rfl, IntWalk.i64_in _ (by omega), by omega, b3, rfl⟩, fun w1 _ => ?_⟩
        · simp only [addedS, isIntD, Bool.not_true, Bool.false_eq_true, if_false]
          split
          · rename_i h0
            simp only [Sem.run_pure]
            congr 1
            have hs : (Builtin.zeroCells z.cells l.toNat).size = 0 := by
              rw [zeroCells_size]
              have : z.cells.size = i.size := by simpa using hzs
              rw [this]; exact h0
            have := Array.eq_empty_of_size_eq_zero hs
            rw [this]
          · simp [r_zero hi hz]
    · simp at h
  · have hzf : isIntD xd = false := by cases xd <;> first | rfl | exact absurd ⟨_, rfl⟩ hxd
    have h : (match lenA x with
      | none => none
      | some n => match firstA wa i.size n x with
        | some new => some (n, new)
        | none => none) = some (n, new) := by
      cases xd <;> first | exact h | exact absurd ⟨_, rfl⟩ hxd
    split at h
    · simp at h
    · rename_i n2 hn2
      split at h
      · rename_i new2 hnew
        simp only [Option.some.injEq, Prod.mk.injEq] at h
        obtain ⟨h1, h2⟩ := h; subst h1; subst h2
        obtain ⟨l', v1, v2⟩ := first_ok S hx hn2 hnew
        exact ⟨l', v1, .inl ⟨hzf, fun w1 => len_ok hx hn2 w1⟩, fun w1 hw => by simpa [addedS, hzf] using v2 w1 hw⟩
      · simp at h

theorem append_in {argTypes : Array TypeId} {args : Array Value} {ty sType xType elem : TypeId} {xd : TypeDesc} {i : TypeInfo} {base : Option Addr} {sLen sCap n : Nat} {x : Value} {new : Array Value}
    (h0 : argTypes[0]? = some sType) (h1 : argTypes[1]? = some xType) (a0 : args[0]? = some (.slice base sLen sCap)) (a1 : args[1]? = some x)
    (hu : P.underlying sType = some (.slice elem)) (hux : P.underlying xType = some xd) (hi : P.info? elem = some i) (w w' : World)
    (hn : CountIs P xd i x n) (hle : sLen + n ≤ sCap) (hadd : (addedS (isIntD xd) elem i.size n x).run P w = .ok new w)
    (hst : ∀ a, base = some a → (storeCells (a.add (sLen * i.size)) new.toList).run P w = .ok () w') (hnb : base = none → w' = w) :
    (Builtin.append_ argTypes ty args).run P w = .ok (.slice base (sLen + n) sCap) w' := by
  unfold Builtin.append_
  rcases hn with ⟨hz, hn⟩ | ⟨hz, k, l, rfl, hw, h0l, hb, rfl⟩
  · simp only [addedS, hz, Bool.not_false, if_true] at hadd
    cases base with
    | none =>
      have := hnb rfl; subst this
      cases xd <;> simp [isIntD] at hz <;> simp only [h0, h1, a0, a1, Sem.run_bind, Result.andThen_ok, Sem.run_pure, r_underlying hu, r_sizeOf hi, r_underlying hux, Bool.false_eq_true, if_false, Bool.not_false, if_true, if_pos, if_neg, hn, hle, hadd, not_false_eq_true]
    | some a =>
      have hst := hst a rfl
      cases xd <;> simp [isIntD] at hz <;> simp only [h0, h1, a0, a1, Sem.run_bind, Result.andThen_ok, Sem.run_pure, r_underlying hu, r_sizeOf hi, r_underlying hux, Bool.false_eq_true, if_false, Bool.not_false, if_true, if_pos, if_neg, hn, hle, hadd, not_false_eq_true, hst]
  · simp only [addedS, hz, Bool.not_true, Bool.false_eq_true, if_false] at hadd
    have hb' : ¬ (l * (i.bytes : Int) > 2 ^ 48) := by rw [show (2 : Int) ^ 48 = 281474976710656 from by decide]; omega
    cases base with
    | none =>
      have := hnb rfl; subst this
      cases xd <;> simp [isIntD] at hz
      simp only [h0, h1, a0, a1, r_underlying hu, r_sizeOf hi, r_underlying hux, Sem.run_bind, Result.andThen_ok, Sem.run_pure, if_true, asInt, asIntOf, hw, h0l, if_false, r_typeInfo hi, hb', hle, Bool.not_true, Bool.false_eq_true, hadd]
    | some a =>
      have hst := hst a rfl
      cases xd <;> simp [isIntD] at hz
      simp only [h0, h1, a0, a1, r_underlying hu, r_sizeOf hi, r_underlying hux, Sem.run_bind, Result.andThen_ok, Sem.run_pure, if_true, asInt, asIntOf, hw, h0l, if_false, r_typeInfo hi, hb', hle, Bool.not_true, Bool.false_eq_true, hadd, hst]

theorem append_grow {argTypes : Array TypeId} {args : Array Value} {ty sType xType elem : TypeId} {xd : TypeDesc} {i : TypeInfo} {base : Option Addr} {sLen sCap n : Nat} {x z : Value} {new old : Array Value}
    (h0 : argTypes[0]? = some sType) (h1 : argTypes[1]? = some xType) (a0 : args[0]? = some (.slice base sLen sCap)) (a1 : args[1]? = some x)
    (hu : P.underlying sType = some (.slice elem)) (hux : P.underlying xType = some xd) (hi : P.info? elem = some i) (hz : i.zero = some z) (w w1 : World) (nc : Nat)
    (hn : CountIs P xd i x n) (hle : ¬ sLen + n ≤ sCap) (hneed : sLen + n ≤ 281474976710656) (hcap : Builtin.nextslicecap (sLen + n) sCap * i.bytes ≤ 281474976710656)
    (hw1 : w1 = w.drew) (hnc : nc = sLen + n + w.tape w.drawn (.appendCap (sLen + n) sCap elem) % (2 ^ 63 - (sLen + n)))
    (hold : (Builtin.firstCells i.size sLen (.slice base sLen sCap)).run P w1 = .ok old w1)
    (hadd : (addedS (isIntD xd) elem i.size n x).run P w1 = .ok new w1) :
    (Builtin.append_ argTypes ty args).run P w = .ok (.slice (some ⟨w1.heap.size, 0, none⟩) (sLen + n) nc) { w1 with heap := w1.heap.push (.cells (old ++ new ++ Builtin.zeroCells z.cells (nc - (sLen + n))) elem) } := by
  have hb1 : ¬ (((sLen + n : Nat) : Int) > IntKind.i64.max) := by rw [IntKind.max_i64]; omega
  have hb2 : ¬ (Builtin.nextslicecap (sLen + n) sCap * i.bytes > 2 ^ 48) := by rw [show (2 : Nat) ^ 48 = 281474976710656 from by decide]; omega
  have hch : (choose (.appendCap (sLen + n) sCap elem)).run P w = .ok nc w1 := by
    subst hw1; subst hnc
    simp [Question.forced, Question.cut]
  unfold Builtin.append_
  rcases hn with ⟨hzf, hn⟩ | ⟨hzf, k, l, rfl, hw, h0l, hb, rfl⟩
  · simp only [addedS, hzf, Bool.not_false, if_true] at hadd
    cases xd <;> simp [isIntD] at hzf <;> (simp only [h0, h1, a0, a1, Sem.run_bind, Result.andThen_ok, Sem.run_pure, r_underlying hu, r_sizeOf hi, r_underlying hux, Bool.false_eq_true, if_false, Bool.not_false, if_true, if_pos, if_neg, hn, hle, hadd, not_false_eq_true, r_typeInfo hi, hb1, hb2, false_and, hch, run_askRoom, hold, r_zero hi hz, newRow, run_newObj])
  · simp only [addedS, hzf, Bool.not_true, Bool.false_eq_true, if_false] at hadd
    have hb' : ¬ (l * (i.bytes : Int) > 2 ^ 48) := by rw [show (2 : Int) ^ 48 = 281474976710656 from by decide]; omega
    cases xd <;> simp [isIntD] at hzf
    simp only [h0, h1, a0, a1, r_underlying hu, r_sizeOf hi, r_underlying hux, Sem.run_bind, Result.andThen_ok, Sem.run_pure, if_true, asInt, asIntOf, hw, h0l, if_false, r_typeInfo hi, hb', hle, Bool.not_true, Bool.false_eq_true, hb1, hb2, false_and, hch, run_askRoom, hold, hadd, r_zero hi hz, newRow, run_newObj]

end

end Go.Proofs.YtkjbbbjebidniaaGreatDoor
/- A run of closed code reckoned over a heap of its own: append, whole. -/

namespace Go.Proofs.YtkjbbbjebidniaaGreatDoor
open Go
set_option linter.unusedSimpArgs false
set_option linter.unusedVariables false

section
variable {P : Program}

/-- A row that append made, in a block of its own. -/
theorem grow_new {ρ : Rho} {wa wa' : AW} {w w1 : World} (S : Sat P ρ wa w) {elem : TypeId} {i : TypeInfo} {z : Value} (hi : P.info? elem = some i) {cells cells' : List Value} (hc : VRs ρ cells cells')
    (hp : wa.push (.row cells elem 1) = some wa') {need nc : Nat} (hlen : cells.length = need * i.size) (hzs : z.cells.toList.length = i.size) (hnc : need ≤ nc)
    (hw1 : w1 = w.drew) (cs : Array Value) (hcs : cs.toList = cells' ++ (Builtin.zeroCells z.cells (nc - need)).toList) :
    ∃ ρ', VR ρ' (.slice (some ⟨wa.size, 0, none⟩) need need) (.slice (some ⟨w1.heap.size, 0, none⟩) need nc) ∧ Sat P ρ' wa' { w1 with heap := w1.heap.push (.cells cs elem) } ∧
      Mv ρ ρ' wa wa' w { w1 with heap := w1.heap.push (.cells cs elem) } ∧ ρ' = ρ.with wa.size ⟨w.heap.size, some (need * i.size + (nc - need) * i.size, i.size)⟩ := by
  subst hw1
  have hl := hc.length
  have hzsz : z.cells.size = i.size := by simpa using hzs
  obtain ⟨h1, h2⟩ := push_ok (P := P) S hp (some (need * i.size + (nc - need) * i.size, i.size)) (.cells cs elem (0, 0))
    (by
      have : cs = ⟨cells' ++ (Builtin.zeroCells z.cells (nc - need)).toList⟩ := Array.ext' (by rw [hcs])
      rw [this]
      exact .grown hc hi rfl (by rw [← hl, hlen]; simp [zeroCells_size, hzsz]))
    { w.drew with heap := w.drew.heap.push (.cells cs elem) } rfl rfl rfl rfl
  refine ⟨_, ?_, h1, h2, rfl⟩
  refine .slice (Rho.with_same _ _ _) ⟨hnc, ?_⟩
  simp only [Nat.zero_add]
  rw [← Nat.add_mul]
  exact Nat.mul_le_mul_right _ (by omega)

/-- A row that append lengthened where it lay: the old name of it is dead. -/
theorem alias_ok {ρ : Rho} {wa wa1 wa' : AW} {w w' : World} (S : Sat P ρ wa w) {b : Nat} {img : Img} (hb : ρ b = some img) {c : List Value} {e : TypeId} (hg : wa.heap.get b = some (.row c e 1)) {oa : AObj} {o' : Obj}
    (hp : wa.push oa = some wa1) (hd : wa1.upd b .dead = some wa') (ho : ∀ ρ', Le ρ ρ' → OR P ρ' img oa o')
    (hblk : w'.heap[img.blk]? = some o') (hoth : ∀ k, k ≠ img.blk → w'.heap[k]? = w.heap[k]?) (hsz : w'.heap.size = w.heap.size)
    (hos : w'.os = w.os) (ht : w'.tape = w.tape) (hout : w'.output = w.output) :
    Sat P (ρ.with wa.size img) wa' w' ∧ Mv ρ (ρ.with wa.size img) wa wa' w w' := by
  obtain ⟨hs, hl, hgp⟩ := push_spec hp
  obtain ⟨hs2, ⟨hl1, hl2, hl3⟩, hgu⟩ := upd_spec hd
  have hle := S.le img
  have hbs := S.dom b img hb
  have hget : ∀ j, wa'.heap.get j = if j = b then some .dead else if j = wa.size then some oa else wa.heap.get j := fun j => by rw [hgu, hgp]
  refine ⟨⟨?_, ?_, ?_⟩, ⟨hle, ?_, fun i h1 h2 => (by have e : i = wa.size := (by omega); subst e; exact ⟨_, Rho.with_same _ _ _⟩), by omega, by omega, by omega, ?_, ?_, ?_, ?_, hos, ht, hout⟩⟩
  · intro j jm h
    by_cases ej : j = wa.size
    · subst ej; rw [Rho.with_same] at h; cases h; omega
    · rw [Rho.with_ne _ _ ej] at h; have := S.dom j jm h; omega
  · intro j jm h
    by_cases ej : j = wa.size
    · subst ej; rw [Rho.with_same] at h; cases h
      refine ⟨oa, ?_, .inr ⟨o', hblk, ho _ hle⟩⟩
      rw [hget, if_neg (by omega), if_pos rfl]
    · rw [Rho.with_ne _ _ ej] at h
      by_cases eb : j = b
      · subst eb; exact ⟨.dead, by rw [hget, if_pos rfl], .inl rfl⟩
      · obtain ⟨ob, h1, h2⟩ := S.obj j jm h
        refine ⟨ob, by rw [hget, if_neg eb, if_neg ej]; exact h1, ?_⟩
        rcases h2 with h2 | ⟨o2, h2, h3⟩
        · exact .inl h2
        · by_cases hdd : ob = .dead
          · exact .inl hdd
          · refine .inr ⟨o2, ?_, h3.mono hle⟩
            rw [hoth]
            · exact h2
            · intro hbb
              exact eb (S.inj b j img jm hb h hbb.symm (by rw [hg]; simp) (by rw [h1]; simpa using hdd) (fun ⟨x, y, hr⟩ => by rw [hg] at hr; simp at hr)).symm
  · intro x y xm ym hx hy he l1 l2 nr
    rw [hget] at l1 l2
    have nb : ∀ k, (if k = b then some AObj.dead else if k = wa.size then some oa else wa.heap.get k) ≠ some .dead → k ≠ b := fun k hk e => by rw [if_pos e] at hk; exact hk rfl
    have hxb := nb x l1; have hyb := nb y l2
    rw [if_neg hxb] at l1; rw [if_neg hyb] at l2
    by_cases ex : x = wa.size
    · by_cases ey : y = wa.size
      · rw [ex, ey]
      · exfalso
        subst ex; rw [Rho.with_same] at hx; cases hx
        rw [Rho.with_ne _ _ ey] at hy
        rw [if_neg ey] at l2
        exact hyb (S.inj b y img ym hb hy he (by rw [hg]; simp) l2 (fun ⟨x, y, hr⟩ => by rw [hg] at hr; simp at hr)).symm
    · rw [Rho.with_ne _ _ ex] at hx
      rw [if_neg ex] at l1
      by_cases ey : y = wa.size
      · exfalso
        subst ey; rw [Rho.with_same] at hy; cases hy
        exact hxb (S.inj b x img xm hb hx he.symm (by rw [hg]; simp) l1 (fun ⟨x, y, hr⟩ => by rw [hg] at hr; simp at hr)).symm
      · rw [Rho.with_ne _ _ ey] at hy
        rw [if_neg ey] at l2
        exact S.inj x y xm ym hx hy he l1 l2 (fun ⟨c0, e0, hr⟩ => nr ⟨c0, e0, by rw [hget, if_neg hxb, if_neg ex]; exact hr⟩)
  · intro j jm h1 h2
    by_cases ej : j = wa.size
    · subst ej; rw [Rho.with_same] at h2; cases h2
      exact ⟨Nat.le_refl _, .inr ⟨b, img, hb, rfl, by rw [hg]; simp, fun ⟨x, y, hr⟩ => by rw [hg] at hr; simp at hr, hl2⟩⟩
    · rw [Rho.with_ne _ _ ej, h1] at h2; cases h2
  · intro j h1 h2; rw [hget, if_neg (by omega), if_neg (by omega)]
  · intro j c0 e0 h1 h2
    have : j ≠ b := fun e => by subst e; rw [hg] at h2; simp at h2
    rw [hget, if_neg this, if_neg (by omega)]; exact h2
  · intro j h1 h2
    have : j ≠ b := fun e => by subst e; rw [hg] at h2; simp at h2
    rw [hget, if_neg this, if_neg (by omega)]; exact h2
  · intro k hk hall
    by_cases ek : k = img.blk
    · rcases hall b img hb ek.symm (by rw [hg]; simp) with ⟨c0, e0, hr⟩ | hlt
      · rw [hg] at hr; simp at hr
      · omega
    · exact hoth k ek

end

end Go.Proofs.YtkjbbbjebidniaaGreatDoor
/- A run of closed code reckoned over a heap of its own: append, whole, and the other operations that touch memory. -/

namespace Go.Proofs.YtkjbbbjebidniaaGreatDoor
open Go
set_option linter.unusedSimpArgs false
set_option linter.unusedVariables false

section
variable {P : Program}

theorem cap_le {m : Option (Nat × Nat)} {off c c' : Nat} (h : CapOk m off c c') : c ≤ c' := by unfold CapOk at h; split at h <;> omega

theorem overA_nil {c c2 : List Value} {off : Nat} (h : overA c off [] = some c2) : c2 = c := by
  unfold overA at h
  cases hb : Nat.ble (off + ([] : List Value).length) c.length with
  | false => rw [hb] at h; simp at h
  | true => rw [hb] at h; simp only [cond_true, Option.some.injEq] at h; rw [← h]; simp

theorem append_ok {ρ : Rho} {wa wa' : AW} {w : World} (S : Sat P ρ wa w) {argTypes : Array TypeId} {args args' : Array Value} {v : Value} (ty : TypeId)
    (ha : VRs ρ args.toList args'.toList) (h : appendA P argTypes args wa = .ok (v, wa')) :
    ∃ ρ' v' w', (Builtin.append_ argTypes ty args').run P w = .ok v' w' ∧ VR ρ' v v' ∧ Sat P ρ' wa' w' ∧ Mv ρ ρ' wa wa' w w' := by
  unfold appendA at h
  split at h
  case h_2 => simp at h
  rename_i sType xType base sLen sCap x t0 t1 a0 a1
  split at h
  case h_2 => simp at h
  rename_i elem xd hu hux
  split at h
  · simp at h
  rename_i i hi
  split at h
  case h_2 => simp at h
  rename_i n new z old hadd hz hold
  cases hc1 : (Nat.beq new.length (n * i.size) && Nat.beq z.cells.toList.length i.size) with
  | false => rw [hc1] at h; simp at h
  | true =>
    rw [hc1] at h; simp only [cond_true] at h
    simp only [Bool.and_eq_true] at hc1
    have hnl := Nat.eq_of_beq_eq_true hc1.1
    have hzs := Nat.eq_of_beq_eq_true hc1.2
    obtain ⟨s', b0, hs⟩ := ha.get (i := 0) (v := .slice base sLen sCap) (by simpa using a0)
    obtain ⟨x', b1, hx⟩ := ha.get (i := 1) (v := x) (by simpa using a1)
    have b0 : args'[0]? = some s' := by simpa using b0
    have b1 : args'[1]? = some x' := by simpa using b1
    obtain ⟨new', hnew, hcount, haddS⟩ := added_ok S hi hx hz hzs hadd
    have hnl' : new'.length = n * i.size := by rw [← hnew.length]; exact hnl
    cases hc2 : Nat.ble (sLen + n) sCap with
    | true =>
      rw [hc2] at h; simp only [cond_true] at h
      have hle := Nat.le_of_ble_eq_true hc2
      cases hn0 : Nat.beq n 0 with
      | true =>
        rw [hn0] at h; simp only [cond_true, Except.ok.injEq, Prod.mk.injEq] at h
        obtain ⟨h1, h2⟩ := h; subst h1; subst h2
        have hn0 := Nat.eq_of_beq_eq_true hn0
        subst hn0
        have : new = [] := List.eq_nil_of_length_eq_zero (by rw [hnl]; simp)
        subst this
        have : new' = [] := List.eq_nil_of_length_eq_zero (by rw [hnl']; simp)
        subst this
        refine ⟨ρ, s', w, ?_, hs, S, Mv.refl _ _ _⟩
        cases hs with
        | nilslice l c =>
          exact append_in t0 t1 b0 b1 hu hux hi w w hcount hle (haddS w rfl) (fun a ea => by cases ea) (fun e => rfl)
        | @slice b off _ _ c' img hb hcap =>
          exact append_in t0 t1 b0 b1 hu hux hi w w hcount (Nat.le_trans hle (cap_le hcap)) (haddS w rfl) (fun a ea => by cases ea; rfl) (fun e => by cases e)
        | @slice0 b off off' c' sz u img hb hmore hcap =>
          exact append_in t0 t1 b0 b1 hu hux hi w w hcount (by omega) (haddS w rfl) (fun a ea => by cases ea; rfl) (fun e => by cases e)
        | @wild b off img hb a2 =>
          exact append_in t0 t1 b0 b1 hu hux hi w w hcount (by omega) (haddS w rfl) (fun a ea => by cases ea; rfl) (fun e => by cases e)
      | false =>
      rw [hn0] at h; simp only [cond_false] at h
      unfold inPlaceA at h
      split at h
      · simp at h
      rename_i a
      split at h
      case h_2 => simp at h
      rename_i c e k hsp hg
      cases hc3 : (Nat.ble k 1 && new.all oneC) with
      | false => rw [hc3] at h; simp at h
      | true =>
        rw [hc3] at h; simp only [cond_true] at h
        simp only [Bool.and_eq_true] at hc3
        split at h
        case h_2 => simp at h
        rename_i c2 hov
        split at h
        case h_2 => simp at h
        rename_i s2 hupd
        simp only [Except.ok.injEq, Prod.mk.injEq] at h
        obtain ⟨h1, h2⟩ := h; subst h1; subst h2
        have hk1 := Nat.le_of_ble_eq_true hc3.1
        cases hs with
        | @slice b off _ _ c' img hb hcap =>
          obtain ⟨w', r1, r2, r3⟩ := over_row (P := P) S hb hg hk1 hnew hc3.2 hov hupd
          refine ⟨ρ, .slice (some ⟨img.blk, off, none⟩) (sLen + n) c', w', ?_, .slice hb hcap, r2, r3⟩
          exact append_in t0 t1 b0 b1 hu hux hi w w' hcount (Nat.le_trans hle (cap_le hcap)) (haddS w rfl)
            (fun a ea => by cases ea; rw [Addr_add]; exact r1) (fun e => by cases e)
        | @wild b off img hb a2 =>
          have hz0 : n = 0 := by omega
          subst hz0
          simp at hn0
        | @slice0 b off off' c' sz u img hb hmore hcap =>
          have hn0 : n = 0 := by omega
          subst hn0
          have : new = [] := List.eq_nil_of_length_eq_zero (by rw [hnl]; simp)
          subst this
          have : new' = [] := List.eq_nil_of_length_eq_zero (by rw [hnl']; simp)
          subst this
          have hcc := overA_nil hov; subst hcc
          obtain ⟨oa, g1, g2⟩ := S.obj b img hb
          have g1' : wa.heap.get b = some oa := g1
          rw [hg] at g1; cases g1
          have hro : ∀ c' e', (AObj.row c2 e k) ≠ .row c' e' 2 := fun c' e' h => by cases h; omega
          obtain ⟨r2, r3⟩ := upd_ok (P := P) S hb hg (by simp) hro hupd w (g2.imp (fun h => h) (fun h => h)) (fun _ _ => rfl) rfl rfl rfl rfl
          refine ⟨ρ, .slice (some ⟨img.blk, off', none⟩) 0 c', w, ?_, .slice0 hb hmore hcap, r2, r3⟩
          exact append_in t0 t1 b0 b1 hu hux hi w w hcount (by omega) (haddS w rfl)
            (fun a ea => by cases ea; rfl) (fun e => rfl)
    | false =>
      rw [hc2] at h; simp only [cond_false] at h
      have hgt : ¬ sLen + n ≤ sCap := fun hh => by rw [Nat.ble_eq_true_of_le hh] at hc2; cases hc2
      cases hc3 : (Nat.ble ((2 * (sLen + n) + 200) * (i.bytes + 1)) 281474976710656 && Nat.beq old.length (sLen * i.size)) with
      | false => rw [hc3] at h; simp at h
      | true =>
        rw [hc3] at h; simp only [cond_true] at h
        simp only [Bool.and_eq_true] at hc3
        have hbig := Nat.le_of_ble_eq_true hc3.1
        have hol := Nat.eq_of_beq_eq_true hc3.2
        have hneed : sLen + n ≤ 281474976710656 := by
          have : (2 * (sLen + n) + 200) * 1 ≤ (2 * (sLen + n) + 200) * (i.bytes + 1) := Nat.mul_le_mul_left _ (by omega)
          omega
        have hcapb : ∀ c, c < sLen + n → Builtin.nextslicecap (sLen + n) c * i.bytes ≤ 281474976710656 := fun c hc => by
          have h1 := nextcap_le hc
          have h2 : Builtin.nextslicecap (sLen + n) c * i.bytes ≤ (2 * (sLen + n) + 200) * (i.bytes + 1) := Nat.mul_le_mul h1 (by omega)
          omega
        -- the run where a new row is wanted
        have grow : ∀ (base' : Option Addr) (c' : Nat), s' = .slice base' sLen c' → ¬ sLen + n ≤ c' → VR ρ (.slice base sLen sCap) (.slice base' sLen c') → ∀ wa1, wa.push (.row (old ++ new) elem 1) = some wa1 →
            ∃ w2 nc, (Builtin.append_ argTypes ty args').run P w = .ok (.slice (some ⟨w.drew.heap.size, 0, none⟩) (sLen + n) nc) w2 ∧
              VR (ρ.with wa.size ⟨w.heap.size, some ((sLen + n) * i.size + (nc - (sLen + n)) * i.size, i.size)⟩) (.slice (some ⟨wa.size, 0, none⟩) (sLen + n) (sLen + n)) (.slice (some ⟨w.drew.heap.size, 0, none⟩) (sLen + n) nc) ∧
              Sat P (ρ.with wa.size ⟨w.heap.size, some ((sLen + n) * i.size + (nc - (sLen + n)) * i.size, i.size)⟩) wa1 w2 ∧ Mv ρ (ρ.with wa.size ⟨w.heap.size, some ((sLen + n) * i.size + (nc - (sLen + n)) * i.size, i.size)⟩) wa wa1 w w2 := by
          intro base' c' es hgt' hsv wa1 hp
          obtain ⟨old', ho1, ho2⟩ := first_ok S hsv rfl hold
          have hrun := append_grow (ty := ty) t0 t1 (b0.trans (by rw [es])) b1 hu hux hi hz w w.drew _ hcount hgt' hneed (hcapb c' (by omega)) rfl rfl (ho2 w.drew rfl) (haddS w.drew rfl)
          obtain ⟨ρ', g1, g2, g3, g4⟩ := grow_new (P := P) S (elem := elem) (z := z) hi (ho1.append hnew) hp (need := sLen + n) (nc := sLen + n + w.tape w.drawn (.appendCap (sLen + n) c' elem) % (2 ^ 63 - (sLen + n)))
            (by simp [hol, hnl, Nat.add_mul]) hzs (by omega) rfl (⟨old'⟩ ++ ⟨new'⟩ ++ Builtin.zeroCells z.cells ((sLen + n + w.tape w.drawn (.appendCap (sLen + n) c' elem) % (2 ^ 63 - (sLen + n))) - (sLen + n))) (by simp)
          subst g4
          exact ⟨_, _, hrun, g1, g2, g3⟩
        unfold growA at h
        split at h
        · simp at h
        rename_i s1 hpush
        split at h
        · -- no row yet
          simp only [Except.ok.injEq, Prod.mk.injEq] at h
          obtain ⟨h1, h2⟩ := h; subst h1; subst h2
          have hs0 := hs
          generalize hgs : s' = s2 at hs
          cases hs with
          | nilslice =>
            obtain ⟨w2, nc, r1, r2, r3, r4⟩ := grow none sCap hgs hgt (hgs ▸ hs0) s1 hpush
            exact ⟨_, _, w2, r1, r2, r3, r4⟩
        · rename_i a
          split at h
          · -- the size of the old row is known
            rename_i c0 e0 hg
            simp only [Except.ok.injEq, Prod.mk.injEq] at h
            obtain ⟨h1, h2⟩ := h; subst h1; subst h2
            have hs0 := hs
            generalize hgs : s' = s2 at hs
            cases hs with
            | @slice b off _ _ c' img hb hcap =>
              rcases row_more S hb hg with ⟨_, hm0⟩ | ⟨hk, _⟩
              · have hce : sCap = c' := by rw [hm0] at hcap; exact hcap
                subst hce
                obtain ⟨w2, nc, r1, r2, r3, r4⟩ := grow _ sCap hgs hgt (hgs ▸ hs0) s1 hpush
                exact ⟨_, _, w2, r1, r2, r3, r4⟩
              · cases hk
            | @slice0 b off off' c' sz u img hb hmore hcap =>
              rcases row_more S hb hg with ⟨_, hm0⟩ | ⟨hk, _⟩
              · rw [hmore] at hm0; cases hm0
              · cases hk
            | @wild b off img hb a2 =>
              obtain ⟨w2, nc, r1, r2, r3, r4⟩ := grow _ 0 hgs hgt (hgs ▸ hs0) s1 hpush
              exact ⟨_, _, w2, r1, r2, r3, r4⟩
          · -- a row that append made
            rename_i c0 e0 hg
            cases hc4 : (Nat.ble 1 sLen && Nat.beq a.off 0 && Nat.beq e0 elem && Nat.beq c0.length (sLen * i.size) && (old ++ new).all oneC) with
            | false => rw [hc4] at h; simp at h
            | true =>
              rw [hc4] at h; simp only [cond_true] at h
              simp only [Bool.and_eq_true] at hc4
              obtain ⟨⟨⟨⟨q1, q2⟩, q3⟩, q4⟩, q5⟩ := hc4
              have q5 : new.all oneC = true := by rw [List.all_append, Bool.and_eq_true] at q5; exact q5.2
              have q1 := Nat.le_of_ble_eq_true q1
              have q2 := Nat.eq_of_beq_eq_true q2
              have q3 := Nat.eq_of_beq_eq_true q3
              have q4 := Nat.eq_of_beq_eq_true q4
              split at h
              case h_2 => simp at h
              rename_i s3 hdead
              simp only [Except.ok.injEq, Prod.mk.injEq] at h
              obtain ⟨h1, h2⟩ := h; subst h1; subst h2
              have hs0 := hs
              generalize hgs : s' = s2 at hs
              cases hs with
              | @slice b off _ _ c' img hb hcap =>
                simp only at q2; subst q2
                by_cases hin : sLen + n ≤ c'
                · -- in place
                  obtain ⟨oa, g1, g2⟩ := S.obj b img hb
                  rw [hg] at g1; cases g1
                  rcases g2 with g2 | ⟨o, g2, g3⟩
                  · cases g2
                  cases g3 with
                  | row _ hk _ => rcases hk with ⟨hk, _⟩ | hk <;> cases hk
                  | @grown _ cc xx _ sz i2 hcc hi2 hmore hsz =>
                    subst q3
                    rw [hi] at hi2; cases hi2
                    rw [hmore] at hcap
                    obtain ⟨k1, k2⟩ := hcap
                    have hccl := hcc.length
                    have k3 : (sLen + n) * i.size ≤ c' * i.size := Nat.mul_le_mul_right _ hin
                    have k4 : (sLen + n) * i.size = sLen * i.size + n * i.size := Nat.add_mul _ _ _
                    have hone : ∀ v ∈ new', v.oneCell' = true := hnew.oneC q5
                    have hst := run_storeCells_at (P := P) img.blk (0 + sLen * i.size) e0 new' 0 ⟨cc ++ xx⟩ w g2 (by simp; omega) hone
                    have holdc : old = c0 := by
                      simp only [firstA, AW.cells] at hold
                      have hg' : wa.heap.get b = some (.row c0 e0 1) := hg
                      rw [hg'] at hold
                      simp only at hold
                      cases hbb : Nat.ble (0 + sLen * i.size) c0.length with
                      | false => rw [hbb] at hold; simp at hold
                      | true =>
                        rw [hbb] at hold
                        simp only [cond_true, Option.some.injEq] at hold
                        rw [← hold, ← q4]; simp
                    subst holdc
                    have hsame : ∀ ρ', Le ρ ρ' → OR P ρ' img (.row (old ++ new) e0 1) (.cells ⟨(cc ++ new') ++ xx.drop new'.length⟩ e0 (0, 0)) := fun ρ' hle =>
                      .grown ((hcc.append hnew).mono hle) hi hmore (by simp; omega)
                    obtain ⟨r2, r3⟩ := alias_ok (P := P) (w' := w.setRow img.blk ((⟨cc ++ xx⟩ : Array Value).toList.take (0 + sLen * i.size + 0) ++ new' ++ (⟨cc ++ xx⟩ : Array Value).toList.drop (0 + sLen * i.size + 0 + new'.length)).toArray)
                      S hb hg hpush hdead hsame
                      (by
                        rw [setRow_heap w img.blk _ _ e0 _ g2]
                        congr 2
                        simp only [Nat.zero_add, Nat.add_zero]
                        rw [← q4, hccl, List.take_left', List.drop_append]
                        · simp
                        · rfl)
                      (fun j hj => setRow_other w img.blk j _ hj) (by simp) rfl rfl rfl
                    refine ⟨_, .slice (some ⟨img.blk, 0, none⟩) (sLen + n) c', _, ?_, .slice (Rho.with_same _ _ _) (by rw [hmore]; exact ⟨hin, k2⟩), r2, r3⟩
                    exact append_in t0 t1 (b0.trans (by rw [hgs])) b1 hu hux hi w _ hcount hin (haddS w rfl)
                      (fun a ea => by cases ea; rw [Addr_add]; exact hst) (fun e => by cases e)
                · obtain ⟨w2, nc, r1, r2, r3, r4⟩ := grow _ c' hgs hin (hgs ▸ hs0) s1 hpush
                  obtain ⟨hps, hpl, hpg⟩ := push_spec hpush
                  have hbs := S.dom b img hb
                  have hg1 : s1.heap.get b = some (.row c0 e0 1) := by rw [hpg, if_neg (by omega)]; exact hg
                  obtain ⟨u1, u2⟩ := upd_ok (P := P) r3 (r4.ext _ _ hb) hg1 (by simp) (by simp) hdead w2 (.inl rfl) (fun _ _ => rfl) rfl rfl rfl rfl
                  exact ⟨_, _, w2, r1, r2, u1, r4.trans S u2⟩
              | slice0 => omega
              | wild => omega
          · simp at h

end

end Go.Proofs.YtkjbbbjebidniaaGreatDoor
/- A run of closed code reckoned over a heap of its own: the operations that touch memory. -/

namespace Go.Proofs.YtkjbbbjebidniaaGreatDoor
open Go
set_option linter.unusedSimpArgs false
set_option linter.unusedVariables false

section
variable {P : Program}

theorem range_cells {ρ : Rho} {z : Value} (hz : flatV z = true) (n : Nat) (hpos : 0 < n → 0 < z.cells.size) :
    VRs ρ ((Array.range n).map (z.cells[· % z.cells.size]!)).toList ((Array.range n).map (z.cells[· % z.cells.size]!)).toList := by
  refine VRs_of_all fun v hv => ?_
  simp only [Array.toList_map, List.mem_map, Array.toList_range, List.mem_range] at hv
  obtain ⟨i, hi, rfl⟩ := hv
  have hp := hpos (by omega)
  have hlt : i % z.cells.size < z.cells.size := Nat.mod_lt _ hp
  rw [getElem!_pos z.cells (i % z.cells.size) hlt]
  exact flats_get hz (i % z.cells.size) _ (by rw [Array.getElem?_toList, Array.getElem?_eq_getElem hlt])

theorem mapUp_ok {ρ : Rho} {e e' : Operand → Value} {wa : AW} {w : World} (S : Sat P ρ wa w) {t : TypeId} {m k v : Operand}
    (hm : VR ρ (e m) (e' m)) (hk : VR ρ (e k) (e' k)) (hv : VR ρ (e v) (e' v)) {r : Nat} {key elem : TypeId} (hu : P.underlying t = some (.map key elem)) (her : e m = .map (some r))
    {kd : TypeDesc} {es : List MapEntry} {clock : Nat} (hkd : P.underlying key = some kd) (hg : wa.heap.get r = some (.map es clock)) (hs : simpleKey kd = true) (hf : flatV (e k) = true)
    (hfind : Instr.findNow kd (e k) es 0 = some none) {wa' : AW} (hup : wa.upd r (.map (es ++ [{ key := e k, val := e v, born := clock }]) (clock + 1)) = some wa') :
    ∃ w', (Instr.mapUpdate t (e' m) (e' k) (e' v)).run P w = .ok () w' ∧ Sat P ρ wa' w' ∧ Mv ρ ρ wa wa' w w' := by
  rw [her] at hm
  generalize hm' : e' m = m' at hm
  cases hm with
  | @map _ img hr =>
    obtain ⟨es', he, hmore, hblk⟩ := map_ok S hr hg
    have hke : e k = e' k := flat_eq hk hf
    have hfind' : Instr.findNow kd (e' k) es' 0 = some none := by rw [← hke]; exact (ERs.find hf he).1 hfind
    have hck := checkKey_ok (P := P) hkd hs false 9999 (e' k) w
    have hfk := findKey_ok (P := P) hkd hfind' w
    let es2 : Array MapEntry := (⟨es'⟩ : Array MapEntry).push { key := e' k, val := e' v, born := clock }
    refine ⟨{ w with heap := w.heap.setIfInBounds img.blk (.map es2 (clock + 1)) }, ?_, ?_⟩
    · have hgo : (getObj img.blk).run P w = .ok (.map ⟨es'⟩ clock) w := by simp [getObj, Sem.run, hblk]
      have hso : (setObj img.blk (.map es2 (clock + 1))).run P w = .ok () { w with heap := w.heap.setIfInBounds img.blk (.map es2 (clock + 1)) } := by simp [setObj, Sem.run, hblk]
      simp only [Instr.mapUpdate, Sem.run_bind, r_underlying hu, Result.andThen_ok, hgo]
      have hck' : (Instr.checkKey false 10000 key (e' k)).run P w = .ok () w := hck
      rw [hck']
      simp only [Result.andThen_ok, hfk]
      exact hso
    · have hlt : img.blk < w.heap.size := (S.dom r img hr).2
      refine upd_ok S hr hg (by simp) (by simp) hup _ (.inr ⟨.map es2 (clock + 1), by simp [hlt], ?_⟩) (fun j hj => by simp [Array.getElem?_setIfInBounds_ne (Ne.symm hj)]) (by simp) rfl rfl rfl
      have : es2 = ⟨es' ++ [{ key := e' k, val := e' v, born := clock }]⟩ := Array.ext' (by simp [es2])
      rw [this]
      exact .map (ERs.snoc (x := { key := e k, val := e v, born := clock }) (y := { key := e' k, val := e' v, born := clock }) hk hv rfl he) hmore

theorem lookup_ok {ρ : Rho} {e e' : Operand → Value} {wa : AW} {w : World} (S : Sat P ρ wa w) {t : TypeId} {m k : Operand} {ok : Bool}
    (hm : VR ρ (e m) (e' m)) (hk : VR ρ (e k) (e' k)) {r : Nat} {key elem : TypeId} (hu : P.underlying t = some (.map key elem)) (her : e m = .map (some r))
    {kd : TypeDesc} {i : TypeInfo} {es : List MapEntry} {clock : Nat} (hkd : P.underlying key = some kd) (hi : P.info? elem = some i) (hg : wa.heap.get r = some (.map es clock)) (hs : simpleKey kd = true) (hf : flatV (e k) = true) :
    (∀ j v, Instr.findNow kd (e k) es 0 = some (some (j, v)) → ∃ v', VR ρ v v' ∧ (Instr.lookup t (e' m) (e' k) ok).run P w = .ok (if ok then .tuple #[v', .bool true] else v') w) ∧
    (∀ z, Instr.findNow kd (e k) es 0 = some none → i.zero = some z → (Instr.lookup t (e' m) (e' k) ok).run P w = .ok (if ok then .tuple #[z, .bool false] else z) w) := by
  rw [her] at hm
  generalize hm' : e' m = m' at hm
  cases hm with
  | @map _ img hr =>
    obtain ⟨es', he, hmore, hblk⟩ := map_ok S hr hg
    have hke : e k = e' k := flat_eq hk hf
    have hck : ∀ b, (Instr.checkKey b 10000 key (e' k)).run P w = .ok () w := fun b => checkKey_ok (P := P) hkd hs b 9999 (e' k) w
    have hgo : (getObj img.blk).run P w = .ok (.map ⟨es'⟩ clock) w := by simp [getObj, Sem.run, hblk]
    refine ⟨fun j v hfind => ?_, fun z hfind hz => ?_⟩
    · obtain ⟨v', f1, f2⟩ := (ERs.find hf he).2 j v hfind
      rw [hke] at f1
      have hfk := findKey_ok (P := P) hkd f1 w
      refine ⟨v', f2, ?_⟩
      simp only [Instr.lookup, Sem.run_bind, r_underlying hu, Result.andThen_ok, hgo, Sem.run_pure, hck, hfk]
    · have f1 := (ERs.find hf he).1 hfind
      rw [hke] at f1
      have hfk := findKey_ok (P := P) hkd f1 w
      simp only [Instr.lookup, Sem.run_bind, r_underlying hu, Result.andThen_ok, hgo, Sem.run_pure, hck, hfk, r_zero hi hz]

theorem memA_ok {ρ : Rho} {e e' : Operand → Value} {o : Oper} {wa wa' : AW} {w : World} {va : Value} (S : Sat P ρ wa w) (hr : ∀ x ∈ o.op.operands, VR ρ (e x) (e' x))
    (h : memA P e o wa = some (va, wa')) : Done1 P ρ wa wa' w va ((execOp e' o).run P w) := by
  obtain ⟨dst, op, type, pos, after, guard⟩ := o
  cases op with
  | alloc elem =>
    simp only [memA, memK, m_alloc, m_box, m_buildSlice, m_load, m_store, m_makeMap, m_slice, m_lookup, m_mapUpdate] at h
    split at h
    case h_2 => simp at h
    rename_i i hi
    split at h
    case h_2 => simp at h
    rename_i z hz
    cases hf : flatV z with
    | false => rw [hf] at h; simp at h
    | true =>
      rw [hf] at h; simp only [cond_true] at h
      split at h
      case h_2 => simp at h
      rename_i s' hp
      simp only [Option.some.injEq, Prod.mk.injEq] at h
      obtain ⟨h1, h2⟩ := h; subst h1; subst h2
      obtain ⟨ρ', w', r1, r2, r3, r4⟩ := newRow_ok S (flat_cells (ρ := ρ) z hf) hp
      refine .value (v := .pointer (some ⟨w.heap.size, 0, none⟩)) ?_ (.ptr r2) r3 r4
      simp [execOp, Instr.alloc, r_zero hi hz, newVar, r1 z.cells rfl]
  | box elem x =>
    have hx := hr x (by simp [Op.operands])
    simp only [memA, memK, m_alloc, m_box, m_buildSlice, m_load, m_store, m_makeMap, m_slice, m_lookup, m_mapUpdate] at h
    split at h
    case h_2 => simp at h
    rename_i s' hp
    simp only [Option.some.injEq, Prod.mk.injEq] at h
    obtain ⟨h1, h2⟩ := h; subst h1; subst h2
    obtain ⟨ρ', w', r1, r2, r3, r4⟩ := newRow_ok S hx.cells hp
    refine .value (v := .pointer (some ⟨w.heap.size, 0, none⟩)) ?_ (.ptr r2) r3 r4
    simp [execOp, Instr.box, newVar, r1 (e' x).cells rfl]
  | buildSlice t len parts =>
    have hp : ∀ p ∈ parts.toList, VR ρ (e p.2) (e' p.2) := fun p hp => hr p.2 (by simp only [Op.operands]; exact List.mem_toArray.2 (List.mem_map.2 ⟨p, hp, rfl⟩))
    simp only [memA, memK, m_alloc, m_box, m_buildSlice, m_load, m_store, m_makeMap, m_slice, m_lookup, m_mapUpdate] at h
    split at h
    case h_2 => simp at h
    rename_i elem hu
    split at h
    case h_2 => simp at h
    rename_i i hi
    cases hc : (Nat.beq len 0 && parts.isEmpty) with
    | true =>
      rw [hc] at h; simp only [cond_true] at h
      simp only [Bool.and_eq_true] at hc
      have hl0 := Nat.eq_of_beq_eq_true hc.1
      subst hl0
      have hp0 : parts = #[] := by simpa using hc.2
      subst hp0
      split at h
      case h_2 => simp at h
      rename_i s' hpu
      simp only [Option.some.injEq, Prod.mk.injEq] at h
      obtain ⟨h1, h2⟩ := h; subst h1; subst h2
      obtain ⟨ρ', w', r1, r2, r3, r4⟩ := newRow_ok S (VRs.nil (ρ := ρ)) hpu
      refine .value (v := .slice (some ⟨w.heap.size, 0, none⟩) 0 0) ?_ (.slice r2 rfl) r3 r4
      have := r1 #[] rfl
      simp [execOp, Instr.buildSlice, r_underlying hu, r_sizeOf hi, Instr.fill, show Array.range 0 = #[] from rfl, this]
    | false =>
      rw [hc] at h; simp only [cond_false] at h
      split at h
      case h_2 => simp at h
      rename_i z hz
      cases hf : (flatV z && Nat.ble (len * i.size) 16777216 && Nat.ble 1 (len * i.size) && Nat.ble 1 z.cells.toList.length) with
      | false => rw [hf] at h; simp at h
      | true =>
        rw [hf] at h; simp only [cond_true] at h
        simp only [Bool.and_eq_true] at hf
        obtain ⟨⟨⟨f1, f2⟩, f3⟩, f4⟩ := hf
        have f4 := Nat.le_of_ble_eq_true f4
        have f2 := Nat.le_of_ble_eq_true f2
        have f3 := Nat.le_of_ble_eq_true f3
        split at h
        case h_2 => simp at h
        rename_i cells hfill
        split at h
        case h_2 => simp at h
        rename_i s' hpu
        simp only [Option.some.injEq, Prod.mk.injEq] at h
        obtain ⟨h1, h2⟩ := h; subst h1; subst h2
        have hzc : 0 < len * i.size → 0 < z.cells.size := fun _ => Nat.lt_of_lt_of_le Nat.zero_lt_one (by simpa using f4)
        obtain ⟨c2, g1, g2⟩ := fill_ok (place' := fun k => some (k * i.size, i.size)) (fun _ => rfl) parts.toList _ _ _ hp (range_cells (ρ := ρ) f1 _ hzc) hfill
        obtain ⟨ρ', w', r1, r2, r3, r4⟩ := newRow_ok S g2 hpu
        refine .value (v := .slice (some ⟨w.heap.size, 0, none⟩) len len) ?_ (.slice r2 rfl) r3 r4
        have := r1 ⟨c2⟩ rfl
        have hne : ¬ len * i.size = 0 := by omega
        have hne2 : ¬ (2 ^ 24 < len * i.size) := by rw [show (2 : Nat) ^ 24 = 16777216 from by decide]; omega
        have g1' : Instr.fill (fun k => some (k * i.size, i.size)) ((Array.range (len * i.size)).map (z.cells[· % z.cells.size]!)) (parts.toList.map fun p => (p.1, e' p.2)) = some ⟨c2⟩ := g1
        simp only [execOp, Instr.buildSlice, Sem.run_bind, r_underlying hu, Result.andThen_ok, r_sizeOf hi, gt_iff_lt, hne2, if_false, hne, r_zero hi hz, Sem.run_pure, Array.toList_map, g1', this]
  | load t x =>
    have hx := hr x (by simp [Op.operands])
    simp only [memA, memK, m_alloc, m_box, m_buildSlice, m_load, m_store, m_makeMap, m_slice, m_lookup, m_mapUpdate] at h
    generalize hx' : e' x = x' at hx
    split at h
    case h_2 => simp at h
    rename_i a ha
    rw [ha] at hx
    split at h
    case h_2 => simp at h
    rename_i v hl
    simp only [Option.some.injEq, Prod.mk.injEq] at h
    obtain ⟨h1, h2⟩ := h; subst h1; subst h2
    cases hx with
    | ptr hb =>
      obtain ⟨u, h1, h2⟩ := load_ok S hb hl
      refine .value (v := u) ?_ h1 S (Mv.refl _ _ _)
      simp [execOp, Instr.loadAt, hx', Instr.sureAddr, h2]
  | store t x v =>
    have hx := hr x (by simp [Op.operands]); have hv := hr v (by simp [Op.operands])
    simp only [memA, memK, m_alloc, m_box, m_buildSlice, m_load, m_store, m_makeMap, m_slice, m_lookup, m_mapUpdate] at h
    generalize hx' : e' x = x' at hx
    split at h
    case h_2 => simp at h
    rename_i a ha
    rw [ha] at hx
    split at h
    case h_2 => simp at h
    rename_i s' hst
    simp only [Option.some.injEq, Prod.mk.injEq] at h
    obtain ⟨h1, h2⟩ := h; subst h1; subst h2
    cases hx with
    | ptr hb =>
      obtain ⟨w', h1, h2, h3⟩ := store_ok S hb hv hst
      refine .skip ?_ h2 h3
      simp [execOp, Instr.storeAt, hx', Instr.sureAddr, h1]
  | makeMap t r =>
    cases r with
    | none =>
      simp only [memA, memK, m_alloc, m_box, m_buildSlice, m_load, m_store, m_makeMap, m_slice, m_lookup, m_mapUpdate] at h
      split at h
      case h_2 => simp at h
      rename_i s' hp
      simp only [Option.some.injEq, Prod.mk.injEq] at h
      obtain ⟨h1, h2⟩ := h; subst h1; subst h2
      obtain ⟨h1, h2⟩ := push_ok S hp none (.map #[] 0) (.map .nil rfl) { w with heap := w.heap.push (.map #[] 0) } rfl rfl rfl rfl
      refine .value (v := .map (some w.heap.size)) ?_ (.map (Rho.with_same _ _ _)) h1 h2
      simp [execOp, Instr.makeMap]
    | some r => simp [memA, memK, m_alloc, m_box, m_buildSlice, m_load, m_store, m_makeMap, m_slice, m_lookup, m_mapUpdate] at h
  | slice t x lo hi mx =>
    have hx := hr x (by simp [Op.operands])
    have hl : ∀ y, lo = some y → VR ρ (e y) (e' y) := fun y hy => hr y (by subst hy; simp [Op.operands])
    have hh : ∀ y, hi = some y → VR ρ (e y) (e' y) := fun y hy => hr y (by subst hy; simp [Op.operands])
    have hm : ∀ y, mx = some y → VR ρ (e y) (e' y) := fun y hy => hr y (by subst hy; simp [Op.operands])
    simp only [memA, memK, m_alloc, m_box, m_buildSlice, m_load, m_store, m_makeMap, m_slice, m_lookup, m_mapUpdate] at h
    cases hc : (Op.slice t x lo hi mx).operands.all (fun x => flatV (e x)) with
    | true =>
      rw [hc] at h; simp only [cond_true, Option.map_eq_some_iff, Prod.mk.injEq] at h
      obtain ⟨v, h1, h2, h3⟩ := h; subst h2; subst h3
      obtain ⟨r1, r2⟩ := flatA_ok (P := P) (fun cs b h => by simp at h) hr h1
      exact .value (r1 w) r2 S (Mv.refl _ _ _)
    | false =>
      rw [hc] at h; simp only [cond_false, Option.map_eq_some_iff, Prod.mk.injEq] at h
      obtain ⟨v, h1, h2, h3⟩ := h; subst h2; subst h3
      obtain ⟨v', r1, r2⟩ := slice_ok S hx hl hh hm h1
      refine .value (v := v') ?_ r2 S (Mv.refl _ _ _)
      simp [execOp, r1]
  | lookup t m k ok =>
    have hm := hr m (by simp [Op.operands]); have hk := hr k (by simp [Op.operands])
    simp only [memA, memK, m_alloc, m_box, m_buildSlice, m_load, m_store, m_makeMap, m_slice, m_lookup, m_mapUpdate] at h
    split at h
    case h_2 => simp at h
    rename_i key elem r hu her
    split at h
    case h_2 => simp at h
    rename_i kd i es clock hkd hi hg
    cases hc : (simpleKey kd && flatV (e k)) with
    | false => rw [hc] at h; simp at h
    | true =>
      rw [hc] at h; simp only [cond_true] at h
      simp only [Bool.and_eq_true] at hc
      obtain ⟨l1, l2⟩ := lookup_ok (P := P) (ok := ok) S hm hk hu her hkd hi hg hc.1 hc.2
      split at h
      · rename_i j v hfind
        simp only [Option.some.injEq, Prod.mk.injEq] at h
        obtain ⟨h1, h2⟩ := h; subst h1; subst h2
        obtain ⟨v', q1, q2⟩ := l1 j v hfind
        refine .value (v := if ok then .tuple #[v', .bool true] else v') ?_ ?_ S (Mv.refl _ _ _)
        · simp [execOp, q2]
        · cases ok
          · exact q1
          · exact .tuple (.cons q1 (.cons (.bool true) .nil))
      · rename_i z hfind hz
        cases hfz : flatV z with
        | false => rw [hfz] at h; simp at h
        | true =>
          rw [hfz] at h; simp only [cond_true] at h
          simp only [Option.some.injEq, Prod.mk.injEq] at h
          obtain ⟨h1, h2⟩ := h; subst h1; subst h2
          refine .value (v := if ok then .tuple #[z, .bool false] else z) ?_ ?_ S (Mv.refl _ _ _)
          · simp [execOp, l2 z hfind hz]
          · cases ok
            · exact flat_refl z hfz
            · exact .tuple (.cons (flat_refl z hfz) (.cons (.bool false) .nil))
      · simp at h
  | mapUpdate t m k v =>
    have hm := hr m (by simp [Op.operands]); have hk := hr k (by simp [Op.operands]); have hv := hr v (by simp [Op.operands])
    simp only [memA, memK, m_alloc, m_box, m_buildSlice, m_load, m_store, m_makeMap, m_slice, m_lookup, m_mapUpdate] at h
    split at h
    case h_2 => simp at h
    rename_i key elem r hu her
    split at h
    case h_2 => simp at h
    rename_i kd es clock hkd hg
    cases hc : (simpleKey kd && flatV (e k)) with
    | false => rw [hc] at h; simp at h
    | true =>
      rw [hc] at h; simp only [cond_true] at h
      simp only [Bool.and_eq_true] at hc
      split at h
      case h_2 => simp at h
      rename_i hfind
      split at h
      case h_2 => simp at h
      rename_i s' hup
      simp only [Option.some.injEq, Prod.mk.injEq] at h
      obtain ⟨h1, h2⟩ := h; subst h1; subst h2
      obtain ⟨w', q1, q2, q3⟩ := mapUp_ok (P := P) S hm hk hv hu her hkd hg hc.1 hc.2 hfind hup
      exact .skip (by simp [execOp, q1]) q2 q3
  | insert t m k v =>
    have hm := hr m (by simp [Op.operands]); have hk := hr k (by simp [Op.operands]); have hv := hr v (by simp [Op.operands])
    simp only [memA, memK, m_alloc, m_box, m_buildSlice, m_load, m_store, m_makeMap, m_slice, m_lookup, m_mapUpdate] at h
    split at h
    case h_2 => simp at h
    rename_i key elem r hu her
    split at h
    case h_2 => simp at h
    rename_i kd es clock hkd hg
    cases hc : (simpleKey kd && flatV (e k)) with
    | false => rw [hc] at h; simp at h
    | true =>
      rw [hc] at h; simp only [cond_true] at h
      simp only [Bool.and_eq_true] at hc
      split at h
      case h_2 => simp at h
      rename_i hfind
      split at h
      case h_2 => simp at h
      rename_i s' hup
      simp only [Option.some.injEq, Prod.mk.injEq] at h
      obtain ⟨h1, h2⟩ := h; subst h1; subst h2
      obtain ⟨w', q1, q2, q3⟩ := mapUp_ok (P := P) S hm hk hv hu her hkd hg hc.1 hc.2 hfind hup
      exact .skip (by simp [execOp, q1]) q2 q3
  | _ => simp [memA, memK, m_alloc, m_box, m_buildSlice, m_load, m_store, m_makeMap, m_slice, m_lookup, m_mapUpdate] at h

end

end Go.Proofs.YtkjbbbjebidniaaGreatDoor
/- A run of closed code reckoned over a heap of its own: one operation of a region. -/

namespace Go.Proofs.YtkjbbbjebidniaaGreatDoor
open Go
set_option linter.unusedSimpArgs false
set_option linter.unusedVariables false

section
variable {P : Program}

/-- What a call reckoned so stands for. -/
def CallOk (gs : List Nat) (P : Program) (call : CallA) : Prop :=
  ∀ f (args : Array Value) wa v wa', call f args wa = .ok (v, wa') → ∀ ρ w (args' : Array Value), Sat P ρ wa w → (∀ g ∈ gs, ρ g = some ⟨g, none⟩) → VRs ρ args.toList args'.toList →
    Calls P f args' w (fun e w' => ∃ ρ' v', e = .returned v' ∧ VR ρ' v v' ∧ Sat P ρ' wa' w' ∧ Mv ρ ρ' wa wa' w w')

/-- No function with a body is the runtime's count of goroutines. -/
def NoCount (P : Program) : Prop := ∀ (f : FuncId) (fn : Func), P.funcs[f]? = some fn → fn.body.isSome = true → (fn.name == "runtime.NumGoroutine") = false

theorem eval_ok {ρ : Rho} {gs : List Nat} {s : AS} {a : Act} (hg : ∀ g ∈ gs, ρ g = some ⟨g, none⟩) {x : Operand} (hk : AS.known gs x = true)
    (ht : ∀ t, x = .tmp t → VR ρ ((s.tmps.get t).getD undef) (a.tmps.getD t undef)) : VR ρ (s.eval x) (a.eval x) := by
  cases x with
  | tmp t => exact ht t rfl
  | const v => exact flat_refl v hk
  | global g =>
    have hm : g ∈ gs := by simpa [AS.known] using hk
    exact .ptr (hg g hm)
  | func f => exact .func .nil .nil

/-- An operation's reckoning, against its run. -/
theorem clear_ok {ρ : Rho} {wa wa' : AW} {w : World} (S : Sat P ρ wa w) {argTypes : Array TypeId} {args args' : Array Value} {v : Value} (ty : TypeId)
    (ha : VRs ρ args.toList args'.toList) (h : clearA P argTypes args wa = .ok (v, wa')) :
    ∃ w', (Builtin.clear_ argTypes ty args').run P w = .ok v w' ∧ VR ρ v v ∧ Sat P ρ wa' w' ∧ Mv ρ ρ wa wa' w w' := by
  unfold clearA at h
  split at h
  case h_2 => simp at h
  rename_i t a n c t0 a0
  obtain ⟨x', b0, hx⟩ := ha.get (i := 0) (v := .slice (some a) n c) (by simpa using a0)
  have b0 : args'[0]? = some x' := by simpa using b0
  split at h
  case h_2 => simp at h
  rename_i elem hu
  have hv : VR ρ (.tuple #[]) (.tuple #[]) := .tuple .nil
  cases hn : Nat.beq n 0 with
  | true =>
    rw [hn] at h; simp only [cond_true, Except.ok.injEq, Prod.mk.injEq] at h
    obtain ⟨h1, h2⟩ := h; subst h1; subst h2
    have hn := Nat.eq_of_beq_eq_true hn
    subst hn
    refine ⟨w, ?_, hv, S, Mv.refl _ _ _⟩
    cases hx with
    | slice hb hc => simp only [Builtin.clear_, t0, b0, Sem.run_bind, r_underlying hu, Result.andThen_ok, Sem.run_pure]
    | slice0 hb hm hc => simp only [Builtin.clear_, t0, b0, Sem.run_bind, r_underlying hu, Result.andThen_ok, Sem.run_pure]
    | wild hb a => simp only [Builtin.clear_, t0, b0, Sem.run_bind, r_underlying hu, Result.andThen_ok, Sem.run_pure]
  | false =>
    rw [hn] at h; simp only [cond_false] at h
    split at h
    case h_2 => simp at h
    rename_i i hi
    split at h
    case h_2 => simp at h
    rename_i z c0 e k hz hsp hg
    cases hc : (Nat.ble k 1 && (Builtin.zeroCells z.cells n).toList.all flat1) with
    | false => rw [hc] at h; simp at h
    | true =>
      rw [hc] at h; simp only [cond_true] at h
      simp only [Bool.and_eq_true] at hc
      split at h
      case h_2 => simp at h
      rename_i c2 hov
      split at h
      case h_2 => simp at h
      rename_i s' hup
      simp only [Except.ok.injEq, Prod.mk.injEq] at h
      obtain ⟨h1, h2⟩ := h; subst h1; subst h2
      have hl : ∀ l : List Value, l.all flat1 = true → VRs ρ l l ∧ l.all oneC = true := by
        intro l
        induction l with
        | nil => intro _; exact ⟨.nil, rfl⟩
        | cons x l ih =>
          intro h
          simp only [List.all_cons, Bool.and_eq_true] at h
          obtain ⟨i1, i2⟩ := ih h.2
          have ho : oneC x = true := by cases x <;> first | rfl | (simp [flat1] at h)
          exact ⟨.cons (flat1_refl x h.1) i1, by simp [ho, i2]⟩
      obtain ⟨l1, l2⟩ := hl _ hc.2
      have hn0 : n ≠ 0 := fun e => by subst e; simp at hn
      cases hx with
      | @slice b off _ _ c' img hb hcap =>
        obtain ⟨w', r1, r2, r3⟩ := over_row (P := P) S hb hg (Nat.le_of_ble_eq_true hc.1) l1 l2 hov hup
        refine ⟨w', ?_, hv, r2, r3⟩
        cases n with
        | zero => exact absurd rfl hn0
        | succ m => simp only [Builtin.clear_, t0, b0, Sem.run_bind, r_underlying hu, Result.andThen_ok, Sem.run_pure, r_zero hi hz, r1]
      | slice0 hb hm hc => exact absurd rfl hn0
      | wild hb a => exact absurd rfl hn0

theorem opA_ok {ρ : Rho} {s : AS} {a : Act} {w : World} {o : Oper} {r : OA} {wa' : AW} (hng : NoCount P) (S : Sat P ρ s.w w)
    (hr' : ∀ x ∈ o.op.operands, VR ρ (s.eval x) (a.eval x)) (h : opA P o s = .ok (r, wa')) :
    (∀ v, r = .value v → Done1 P ρ s.w wa' w v ((execOp a.eval o).run P w)) ∧
    (∀ f args, r = .enter f args → ∃ args', VRs ρ args.toList args'.toList ∧ wa' = s.w ∧ (execOp a.eval o).run P w = .ok (.enter f args') w) := by
  unfold opA at h
  cases hm : memless o.op with
  | true =>
    rw [hm] at h; simp only [cond_true, o_val] at h
    split at h
    · rename_i v hv
      simp only [Except.ok.injEq, Prod.mk.injEq] at h
      obtain ⟨h1, h2⟩ := h; subst h1; subst h2
      obtain ⟨v', r1, r2⟩ := valA_ok (P := P) hr' hv
      exact ⟨fun v0 h0 => (by cases h0; exact .value (r1 w) r2 S (Mv.refl _ _ _)), fun f args h0 => (by cases h0)⟩
    · simp at h
  | false =>
    rw [hm] at h; simp only [cond_false] at h
    have mem : ∀ v0 w0, memA P s.eval o s.w = some (v0, w0) → Done1 P ρ s.w w0 w v0 ((execOp a.eval o).run P w) := fun v0 w0 h0 => memA_ok S hr' h0
    by_cases hcall : ∃ c, o.op = .call c
    · -- a call
      obtain ⟨c, hc⟩ := hcall
      have h : o_call P c s = .ok (r, wa') := by rw [hc] at h; exact h
      have hargs : VRs ρ (c.args.map s.eval).toList (c.args.map a.eval).toList := by
        simp only [Array.toList_map]
        exact VRs.map _ fun x hx => hr' x (by rw [hc]; simp only [Op.operands, Call.operands]; exact Array.mem_append.2 (.inr (by simpa using hx)))
      have hsplit : (c.callee = .builtin .append ∧ o_append P c (c.args.map s.eval) s.w = .ok (r, wa')) ∨ (c.callee = .builtin .cap ∧ o_cap P c (c.args.map s.eval) s.w = .ok (r, wa')) ∨ (c.callee = .builtin .clear ∧ o_clear P c (c.args.map s.eval) s.w = .ok (r, wa')) ∨
          (∃ f, c.callee = .value f ∧ o_value P f c s = .ok (r, wa')) := by
        unfold o_call at h
        cases hcal : c.callee with
        | builtin b =>
          rw [hcal] at h
          cases b <;> first | exact .inl ⟨rfl, h⟩ | exact .inr (.inl ⟨rfl, h⟩) | exact .inr (.inr (.inl ⟨rfl, h⟩)) | (simp [o_callK] at h; done)
        | value f => rw [hcal] at h; exact .inr (.inr (.inr ⟨f, rfl, h⟩))
        | invoke _ _ => rw [hcal] at h; simp [o_callK] at h
      rcases hsplit with ⟨hcal, h⟩ | ⟨hcal, h⟩ | ⟨hcal, h⟩ | ⟨f, hcal, h⟩
      · unfold o_append at h
        split at h
        · rename_i v0 w0 happ
          simp only [Except.ok.injEq, Prod.mk.injEq] at h
          obtain ⟨h1, h2⟩ := h; subst h1; subst h2
          obtain ⟨ρ', v', w', r1, r2, r3, r4⟩ := append_ok S o.type hargs happ
          refine ⟨fun v1 h0 => ?_, fun f args h0 => by cases h0⟩
          cases h0
          exact .value (by simp [execOp, hc, resolve, hcal, invoke, builtin, r1]) r2 r3 r4
        · simp at h
      · unfold o_cap at h
        split at h
        · rename_i t x ht hx0
          split at h
          · rename_i el hu
            split at h
            · rename_i v0 hcap
              simp only [Except.ok.injEq, Prod.mk.injEq] at h
              obtain ⟨h1, h2⟩ := h; subst h1; subst h2
              refine ⟨fun v1 h0 => ?_, fun f args h0 => by cases h0⟩
              cases h0
              obtain ⟨x', b0, hx⟩ := hargs.get (i := 0) (v := x) (by simpa using hx0)
              have b0 : (c.args.map a.eval)[0]? = some x' := by simpa using b0
              have key : ∃ b' l' n', x' = .slice b' l' n' ∧ v0 = goInt n' := by
                cases hx with
                | nilslice l n => simp only [capA, Option.some.injEq] at hcap; exact ⟨_, _, _, rfl, hcap.symm⟩
                | @slice b off l n n' img hb hc =>
                  simp only [capA] at hcap
                  split at hcap
                  · rename_i cc ee hg
                    rcases row_more S hb hg with ⟨_, hm0⟩ | ⟨hk, _⟩
                    · rw [hm0] at hc
                      have hc : n = n' := hc
                      subst hc
                      simp only [Option.some.injEq] at hcap; exact ⟨_, _, _, rfl, hcap.symm⟩
                    · cases hk
                  · simp at hcap
                | @slice0 b off off' n' sz u img hb hmore hc =>
                  simp only [capA] at hcap
                  split at hcap
                  · rename_i cc ee hg
                    rcases row_more S hb hg with ⟨_, hm0⟩ | ⟨hk, _⟩
                    · rw [hm0] at hmore; cases hmore
                    · cases hk
                  · simp at hcap
                | @wild b off img hb a2 =>
                  simp only [capA] at hcap
                  split at hcap
                  · simp only [Option.some.injEq] at hcap; exact ⟨_, _, _, rfl, hcap.symm⟩
                  · simp at hcap
                | _ => simp [capA] at hcap
              obtain ⟨b', l', n', rfl, rfl⟩ := key
              refine .value ?_ (.int _ _) S (Mv.refl _ _ _)
              simp only [execOp, hc, resolve, hcal, Sem.run_bind, Sem.run_pure, Result.andThen_ok, invoke, builtin, Builtin.cap_, ht, b0, r_underlying hu]
              rfl
            · simp at h
          · simp at h
        · simp at h
      · unfold o_clear at h
        split at h
        · rename_i v0 w0 happ
          simp only [Except.ok.injEq, Prod.mk.injEq] at h
          obtain ⟨h1, h2⟩ := h; subst h1; subst h2
          obtain ⟨w', r1, r2, r3, r4⟩ := clear_ok S o.type hargs happ
          refine ⟨fun v1 h0 => ?_, fun f args h0 => by cases h0⟩
          cases h0
          exact .value (by simp [execOp, hc, resolve, hcal, invoke, builtin, r1]) r2 r3 r4
        · simp at h
      · -- a function's value
        have hf : VR ρ (s.eval f) (a.eval f) := hr' f (by rw [hc]; simp [Op.operands, Call.operands, hcal])
        unfold o_value at h
        split at h
        · rename_i g first captured hfv
          rw [hfv] at hf
          generalize haf : a.eval f = af at hf
          cases hf with
          | @func _ x y x' y' hx hy =>
            have hall : VRs ρ ((⟨x⟩ : Array Value) ++ c.args.map s.eval ++ ⟨y⟩).toList ((⟨x'⟩ : Array Value) ++ c.args.map a.eval ++ ⟨y'⟩).toList := by
              simp only [Array.toList_append]
              exact (hx.append hargs).append hy
            have hex : ∀ w, (execOp a.eval o).run P w = (callFunc g ((⟨x'⟩ : Array Value) ++ c.args.map a.eval ++ ⟨y'⟩)).run P w := fun w => by
              simp [execOp, hc, resolve, hcal, haf, Deferred.ofValue, invoke]
            unfold o_fun at h
            split at h
            · simp at h
            rename_i fn hfn
            split at h
            · rename_i body hbody
              simp only [Except.ok.injEq, Prod.mk.injEq] at h
              obtain ⟨h1, h2⟩ := h; subst h1; subst h2
              refine ⟨fun v1 h0 => (by cases h0), fun f0 args0 h0 => ?_⟩
              cases h0
              refine ⟨_, hall, rfl, ?_⟩
              rw [hex]
              have hn := hng g fn hfn (by rw [hbody]; rfl)
              simp only [callFunc, Sem.run_bind, run_program, Result.andThen_ok, hfn, hn, Bool.false_eq_true, if_false, hbody, Option.isNone_some, Sem.run_pure]
            · rename_i hbody
              cases hfl : ((⟨x⟩ : Array Value) ++ c.args.map s.eval ++ ⟨y⟩).all flatV with
              | false => rw [hfl] at h; simp at h
              | true =>
                rw [hfl] at h; simp only [cond_true] at h
                split at h
                · rename_i v0 hp
                  cases hv : flatV v0 with
                  | false => rw [hv] at h; simp at h
                  | true =>
                    rw [hv] at h; simp only [cond_true, Except.ok.injEq, Prod.mk.injEq] at h
                    obtain ⟨h1, h2⟩ := h; subst h1; subst h2
                    refine ⟨fun v1 h0 => ?_, fun f args h0 => by cases h0⟩
                    cases h0
                    have heq : ((⟨x⟩ : Array Value) ++ c.args.map s.eval ++ ⟨y⟩) = ((⟨x'⟩ : Array Value) ++ c.args.map a.eval ++ ⟨y'⟩) := by
                      apply Array.ext'
                      have flats : ∀ {l l' : List Value}, VRs ρ l l' → (∀ v ∈ l, flatV v = true) → l = l' := by
                        intro l l' hv
                        induction hv using VRs.rec (motive_1 := fun _ _ _ => True) with
                        | nil => intro _; rfl
                        | cons h hs _ ih => intro hh; rw [flat_eq h (hh _ (by simp)), ih fun v hv => hh v (by simp [hv])]
                        | _ => trivial
                      exact flats hall fun v hv => Array.all_eq_true_iff_forall_mem.1 hfl v (by simpa using hv)
                    refine .value ?_ (flat_refl _ hv) S (Mv.refl _ _ _)
                    rw [hex, ← heq]
                    exact pureA_run P _ _ hp w
                · simp at h
        · simp at h
    · -- the others
      have h : o_mem (memA P s.eval o s.w) = .ok (r, wa') := by
        revert h
        cases hop : o.op <;> intro h <;> first | exact h | exact absurd ⟨_, hop⟩ hcall
      unfold o_mem at h
      split at h
      · rename_i v0 w0 hmem
        simp only [Except.ok.injEq, Prod.mk.injEq] at h
        obtain ⟨h1, h2⟩ := h; subst h1; subst h2
        exact ⟨fun v1 h0 => (by cases h0; exact mem _ _ hmem), fun f args h0 => (by cases h0)⟩
      · simp at h

theorem yielded_eq {ρ : Rho} {ops : Array Oper} {s : AS} {a : Act} {j : Nat} (ht : ∀ t, (ops[j]?).bind (·.dst) = some t → VR ρ ((s.tmps.get t).getD undef) (a.tmps.getD t undef)) :
    yieldedA ops s j = yielded ops a.tmps j := by
  unfold yieldedA yielded
  cases hd : (ops[j]?).bind (·.dst) with
  | none => rfl
  | some t =>
    have hv := ht t hd
    simp only [Option.bind_some]
    cases hq : a.tmps[t]? with
    | none =>
      have : a.tmps.getD t undef = undef := by simp [Array.getD_eq_getD_getElem?, hq]
      rw [this] at hv
      generalize (s.tmps.get t).getD undef = x at hv
      cases hv with
      | tuple h => rfl
      | poison v h => rfl
    | some u =>
      have : a.tmps.getD t undef = u := by simp [Array.getD_eq_getD_getElem?, hq]
      rw [this] at hv
      generalize (s.tmps.get t).getD undef = x at hv
      cases hv with
      | poison v h => cases u with
        | bool b => exact absurd rfl (h.2 b)
        | _ => rfl
      | _ => rfl

theorem wanted_eq {o : Oper} {y y' : Nat → Option Bool} (h : ∀ j b, o.guard = some (j, b) → y j = y' j) : Region.wanted o y = Region.wanted o y' := by
  unfold Region.wanted
  cases hg : o.guard with
  | none => rfl
  | some jb => obtain ⟨j, b⟩ := jb; simp only; rw [h j b hg]

/-- What an operation of a region yields, in the world. -/
theorem resA_ok {gs : List Nat} {call : CallA} (hng : NoCount P) (hcall : CallOk gs P call) {ops : Array Oper} {i : Nat} {o : Oper} (ho : ops[i]? = some o) {ρ : Rho} {s : AS} {a : Act} {w : World} (S : Sat P ρ s.w w)
    (hglob : ∀ g ∈ gs, ρ g = some ⟨g, none⟩) (hr : ∀ x ∈ o.op.operands, VR ρ (s.eval x) (a.eval x)) (hw : Region.wanted o (yieldedA ops s) = Region.wanted o (yielded ops a.tmps))
    {v : Value} {wa' : AW} (h : resA P call ops o s = .ok (v, wa')) {Q : Exit → Act → World → Prop} {K : Act → World → Prop}
    (hK : ∀ ρ' v' w', VR ρ' v v' → Sat P ρ' wa' w' → Mv ρ ρ' s.w wa' w w' → K (a.put o.dst v') w') : wpOp P ops Q i K a w := by
  unfold wpOp
  simp only [ho]
  unfold resA at h
  rw [hw] at h
  cases hwt : Region.wanted o (yielded ops a.tmps) with
  | false =>
    rw [hwt] at h; simp only [cond_false, Except.ok.injEq, Prod.mk.injEq] at h
    obtain ⟨h1, h2⟩ := h; subst h1; subst h2
    simp only [Bool.false_eq_true, if_false]
    exact hK ρ undef w undef_refl S (Mv.refl _ _ _)
  | true =>
    rw [hwt] at h; simp only [cond_true] at h
    simp only [if_true]
    left
    split at h
    · rename_i v0 w0 hop
      simp only [Except.ok.injEq, Prod.mk.injEq] at h
      obtain ⟨h1, h2⟩ := h; subst h1; subst h2
      obtain ⟨ρ', v', w', r1, r2, r3, r4⟩ := (opA_ok hng S hr hop).1 v0 rfl
      rcases r1 with r1 | ⟨r1, r5⟩
      · simp only [Oper.wp, r1, Oper.upon_value]; exact hK ρ' v' w' r2 r3 r4
      · subst r5; simp only [Oper.wp, r1, Oper.upon_skip]; exact hK ρ' undef w' r2 r3 r4
    · rename_i f args w0 hop
      obtain ⟨args', r1, r2, r3⟩ := (opA_ok hng S hr hop).2 f args rfl
      subst r2
      simp only [Oper.wp, r3, Oper.upon_enter]
      refine (hcall f args _ v wa' h ρ w args' S hglob r1).mono fun e w' he => ?_
      obtain ⟨ρ', v', he1, he2, he3, he4⟩ := he
      subst he1
      exact hK ρ' v' w' he2 he3 he4
    · simp at h

/-- An operation that touches no memory: whatever the world. -/
theorem resA_memless {call : CallA} {ops : Array Oper} {i : Nat} {o : Oper} (ho : ops[i]? = some o) (hm : memless o.op = true) {ρ : Rho} {s : AS} {a : Act}
    (hr : ∀ x ∈ o.op.operands, VR ρ (s.eval x) (a.eval x)) (hw : Region.wanted o (yieldedA ops s) = Region.wanted o (yielded ops a.tmps))
    {v : Value} {wa' : AW} (h : resA P call ops o s = .ok (v, wa')) :
    wa' = s.w ∧ ∀ {Q : Exit → Act → World → Prop} {K : Act → World → Prop} (w : World), (∀ v', VR ρ v v' → K (a.put o.dst v') w) → wpOp P ops Q i K a w := by
  unfold resA at h
  rw [hw] at h
  cases hwt : Region.wanted o (yielded ops a.tmps) with
  | false =>
    rw [hwt] at h; simp only [cond_false, Except.ok.injEq, Prod.mk.injEq] at h
    obtain ⟨h1, h2⟩ := h; subst h1; subst h2
    refine ⟨rfl, fun w hK => ?_⟩
    unfold wpOp
    simp only [ho, hwt, Bool.false_eq_true, if_false]
    exact hK undef undef_refl
  | true =>
    rw [hwt] at h; simp only [cond_true] at h
    unfold opA at h
    have hr' := hr
    rw [hm] at h; simp only [cond_true, o_val] at h
    cases hv : valA P s.eval o with
    | none => rw [hv] at h; simp at h
    | some v0 =>
      rw [hv] at h
      simp only [Except.ok.injEq, Prod.mk.injEq] at h
      obtain ⟨h1, h2⟩ := h; subst h1; subst h2
      obtain ⟨v', r1, r2⟩ := valA_ok (P := P) hr' hv
      refine ⟨rfl, fun w hK => ?_⟩
      unfold wpOp
      simp only [ho, hwt, if_true, Oper.wp, r1 w, Oper.upon_value]
      exact .inl (hK v' r2)

end

end Go.Proofs.YtkjbbbjebidniaaGreatDoor
