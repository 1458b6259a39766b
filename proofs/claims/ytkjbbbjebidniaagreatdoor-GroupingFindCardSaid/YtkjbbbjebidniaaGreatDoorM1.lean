/- The soundness of the reckoner over a heap of its own: what a value and a block of it bear; reading, making, writing, building, slicing. -/
import Derived.Test.YtkjbbbjebidniaaGreatDoorZV0
import Derived.Below
import Derived.Laws.Entries
import Derived.Laws.CopyRow
import Derived.Orders
import Derived.IntWalk
/- A run of closed code reckoned over a heap of its own: what it means that a world bears that heap. -/

namespace Go.Proofs.YtkjbbbjebidniaaGreatDoor
open Go

set_option linter.unusedSimpArgs false
namespace Tb
variable {α : Type}

theorem get_nil (i : Nat) : (Tb.nil : Tb α).get i = none := rfl

theorem get_zero_eq (t : Tb α) : t.get 0 = t.val := by cases t <;> rfl

theorem get_succ_eq (t : Tb α) (n : Nat) : t.get (n + 1) = bif Nat.beq (n % 2) 0 then t.left.get (n / 2) else t.right.get (n / 2) := by
  cases t with
  | nil => cases Nat.beq (n % 2) 0 <;> rfl
  | node v l r =>
    have h : (Tb.node v l r).get (n + 1) = (Bool.rec (motive := fun _ => Option α) (r.get (n / 2)) (l.get (n / 2)) (Nat.beq (n % 2) 0)) := rfl
    rw [h]
    cases Nat.beq (n % 2) 0 <;> rfl

theorem set_zero_eq (k : Nat) (t : Tb α) (a : α) : set (k + 1) t 0 a = .node (some a) t.left t.right := rfl

theorem set_succ_eq (k : Nat) (t : Tb α) (n : Nat) (a : α) : set (k + 1) t (n + 1) a = bif Nat.beq (n % 2) 0 then .node t.val (set k t.left (n / 2) a) t.right else .node t.val t.left (set k t.right (n / 2) a) := by
  have h : set (k + 1) t (n + 1) a = (Bool.rec (motive := fun _ => Tb α) (.node t.val t.left (set k t.right (n / 2) a)) (.node t.val (set k t.left (n / 2) a) t.right) (Nat.beq (n % 2) 0)) := rfl
  rw [h]
  cases Nat.beq (n % 2) 0 <;> rfl

theorem get_set : ∀ (k : Nat) (t : Tb α) (i : Nat) (a : α) (j : Nat), i + 1 < 2 ^ k → (set k t i a).get j = if j = i then some a else t.get j
  | 0, t, i, a, j, h => by simp at h
  | k + 1, t, 0, a, j, _ => by
    rw [set_zero_eq]
    cases j with
    | zero => rw [get_zero_eq]; rfl
    | succ m => rw [get_succ_eq, get_succ_eq]; simp [left, right]
  | k + 1, t, n + 1, a, j, h => by
    have hk : n / 2 + 1 < 2 ^ k := by rw [Nat.pow_succ] at h; omega
    have ihl := fun j => get_set k t.left (n / 2) a j hk
    have ihr := fun j => get_set k t.right (n / 2) a j hk
    rw [set_succ_eq]
    cases j with
    | zero => cases Nat.beq (n % 2) 0 <;> simp [get_zero_eq, val]
    | succ m =>
      rw [get_succ_eq, get_succ_eq]
      by_cases hn : n % 2 = 0 <;> by_cases hm : m % 2 = 0
      · have e1 : Nat.beq (n % 2) 0 = true := by rw [hn]; rfl
        have e2 : Nat.beq (m % 2) 0 = true := by rw [hm]; rfl
        have : (m / 2 = n / 2) ↔ (m + 1 = n + 1) := by omega
        simp only [e1, e2, cond_true]
        show (set k t.left (n / 2) a).get (m / 2) = _
        rw [ihl]; simp [this]
      · have e1 : Nat.beq (n % 2) 0 = true := by rw [hn]; rfl
        have e2 : Nat.beq (m % 2) 0 = false := by rw [Bool.eq_false_iff]; intro h; exact hm (Nat.eq_of_beq_eq_true h)
        have : m + 1 ≠ n + 1 := by omega
        simp only [e1, e2, cond_true, cond_false, if_neg this]
        rfl
      · have e1 : Nat.beq (n % 2) 0 = false := by rw [Bool.eq_false_iff]; intro h; exact hn (Nat.eq_of_beq_eq_true h)
        have e2 : Nat.beq (m % 2) 0 = true := by rw [hm]; rfl
        have : m + 1 ≠ n + 1 := by omega
        simp only [e1, e2, cond_true, cond_false, if_neg this]
        rfl
      · have e1 : Nat.beq (n % 2) 0 = false := by rw [Bool.eq_false_iff]; intro h; exact hn (Nat.eq_of_beq_eq_true h)
        have e2 : Nat.beq (m % 2) 0 = false := by rw [Bool.eq_false_iff]; intro h; exact hm (Nat.eq_of_beq_eq_true h)
        have : (m / 2 = n / 2) ↔ (m + 1 = n + 1) := by omega
        simp only [e1, e2, cond_false]
        show (set k t.right (n / 2) a).get (m / 2) = _
        rw [ihr]; simp [this]
end Tb

theorem pureA_run {α : Type} (P : Program) (s : Sem α) : ∀ a, pureA P s = some a → ∀ w, s.run P w = .ok a w := by
  induction s with
  | pure a => intro b h w; simp only [pureA, Option.some.injEq] at h; subst h; rfl
  | program k ih => intro b h w; exact ih P b h w
  | mark m k ih => intro b h w; exact ih b h w
  | _ => intro b h; simp [pureA] at h

/-- Where a block of the reckoned heap lies; 'more': a row that may be longer than is known: its length, and its elements' size. -/
structure Img where
  blk : Nat
  more : Option (Nat × Nat)

abbrev Rho := Nat → Option Img

def CapOk (m : Option (Nat × Nat)) (off c c' : Nat) : Prop :=
  match m with
  | none => c = c'
  | some (sz, u) => c ≤ c' ∧ off + c' * u ≤ sz

mutual
inductive VR (ρ : Rho) : Value → Value → Prop
  | bool (b : Bool) : VR ρ (.bool b) (.bool b)
  | int (k : IntKind) (n : Int) : VR ρ (.int k n) (.int k n)
  | string (s : ByteArray) : VR ρ (.string s) (.string s)
  | nilptr : VR ρ (.pointer none) (.pointer none)
  | ptr {b off : Nat} {img : Img} (h : ρ b = some img) : VR ρ (.pointer (some ⟨b, off, none⟩)) (.pointer (some ⟨img.blk, off, none⟩))
  | nilslice (l c : Nat) : VR ρ (.slice none l c) (.slice none l c)
  | slice {b off l c c' : Nat} {img : Img} (h : ρ b = some img) (hc : CapOk img.more off c c') :
      VR ρ (.slice (some ⟨b, off, none⟩) l c) (.slice (some ⟨img.blk, off, none⟩) l c')
  | slice0 {b off off' c' sz u : Nat} {img : Img} (h : ρ b = some img) (hm : img.more = some (sz, u)) (hc : off' + c' * u ≤ sz) :
      VR ρ (.slice (some ⟨b, off, none⟩) 0 0) (.slice (some ⟨img.blk, off', none⟩) 0 c')
  | wild {b off : Nat} {img : Img} (h : ρ b = some img) (a : Addr) : VR ρ (.slice (some ⟨b, off, none⟩) 0 0) (.slice (some a) 0 0)
  | nilmap : VR ρ (.map none) (.map none)
  | map {i : Nat} {img : Img} (h : ρ i = some img) : VR ρ (.map (some i)) (.map (some img.blk))
  | func {f : FuncId} {x y x' y' : List Value} (hx : VRs ρ x x') (hy : VRs ρ y y') : VR ρ (.func (.func f) ⟨x⟩ ⟨y⟩) (.func (.func f) ⟨x'⟩ ⟨y'⟩)
  | nilfunc : VR ρ .nilFunc .nilFunc
  | niliface : VR ρ .nilIface .nilIface
  | agg {x x' : List Value} (h : VRs ρ x x') : VR ρ (.agg ⟨x⟩) (.agg ⟨x'⟩)
  | tuple {x x' : List Value} (h : VRs ρ x x') : VR ρ (.tuple ⟨x⟩) (.tuple ⟨x'⟩)
  | poison (v : Value) (h : v.oneCell' = true ∧ ∀ b, v ≠ .bool b) : VR ρ (.chan none) v
inductive VRs (ρ : Rho) : List Value → List Value → Prop
  | nil : VRs ρ [] []
  | cons {a b : Value} {as bs : List Value} (h : VR ρ a b) (hs : VRs ρ as bs) : VRs ρ (a :: as) (b :: bs)
end

def Le (ρ ρ' : Rho) : Prop := ∀ i img, ρ i = some img → ρ' i = some img

theorem Le.refl (ρ : Rho) : Le ρ ρ := fun _ _ h => h
theorem Le.trans {a b c : Rho} (h : Le a b) (k : Le b c) : Le a c := fun i img e => k i img (h i img e)

mutual
theorem VR.mono {ρ ρ' : Rho} (h : Le ρ ρ') : ∀ {a b : Value}, VR ρ a b → VR ρ' a b
  | _, _, .bool b => .bool b
  | _, _, .int k n => .int k n
  | _, _, .string s => .string s
  | _, _, .nilptr => .nilptr
  | _, _, .ptr e => .ptr (h _ _ e)
  | _, _, .nilslice l c => .nilslice l c
  | _, _, .slice e hc => .slice (h _ _ e) hc
  | _, _, .slice0 e hm hc => .slice0 (h _ _ e) hm hc
  | _, _, .wild e a => .wild (h _ _ e) a
  | _, _, .nilmap => .nilmap
  | _, _, .map e => .map (h _ _ e)
  | _, _, .func hx hy => .func (VRs.mono h hx) (VRs.mono h hy)
  | _, _, .nilfunc => .nilfunc
  | _, _, .niliface => .niliface
  | _, _, .agg hx => .agg (VRs.mono h hx)
  | _, _, .tuple hx => .tuple (VRs.mono h hx)
  | _, _, .poison v hv => .poison v hv
theorem VRs.mono {ρ ρ' : Rho} (h : Le ρ ρ') : ∀ {a b : List Value}, VRs ρ a b → VRs ρ' a b
  | _, _, .nil => .nil
  | _, _, .cons hx hs => .cons (VR.mono h hx) (VRs.mono h hs)
end

theorem VRs.length {ρ : Rho} : ∀ {a b : List Value}, VRs ρ a b → a.length = b.length
  | _, _, .nil => rfl
  | _, _, .cons _ hs => by simp [VRs.length hs]

theorem VRs.get {ρ : Rho} : ∀ {a b : List Value}, VRs ρ a b → ∀ {i : Nat} {v : Value}, a[i]? = some v → ∃ u, b[i]? = some u ∧ VR ρ v u
  | _, _, .nil, i, v, h => by simp at h
  | _, _, .cons hx hs, 0, v, h => by simp at h; subst h; exact ⟨_, by simp, hx⟩
  | _, _, .cons hx hs, i + 1, v, h => by simp at h; obtain ⟨u, h1, h2⟩ := VRs.get hs h; exact ⟨u, by simpa using h1, h2⟩

theorem VRs.append {ρ : Rho} : ∀ {a b c d : List Value}, VRs ρ a b → VRs ρ c d → VRs ρ (a ++ c) (b ++ d)
  | _, _, _, _, .nil, k => k
  | _, _, _, _, .cons hx hs, k => .cons hx (VRs.append hs k)

theorem VRs.take {ρ : Rho} : ∀ {a b : List Value} (n : Nat), VRs ρ a b → VRs ρ (a.take n) (b.take n)
  | _, _, 0, _ => by simpa using .nil
  | _, _, n + 1, .nil => by simpa using .nil
  | _, _, n + 1, .cons hx hs => by simpa using .cons hx (VRs.take n hs)

theorem VRs.drop {ρ : Rho} : ∀ {a b : List Value} (n : Nat), VRs ρ a b → VRs ρ (a.drop n) (b.drop n)
  | _, _, 0, h => by simpa using h
  | _, _, n + 1, .nil => by simpa using .nil
  | _, _, n + 1, .cons hx hs => by simpa using VRs.drop n hs

theorem flat1_eq {ρ : Rho} {a b : Value} (h : VR ρ a b) (hf : flat1 a = true) : a = b := by
  cases h <;> simp_all [flat1]

theorem flats_eq {ρ : Rho} : ∀ {a b : List Value}, VRs ρ a b → a.all flat1 = true → a = b
  | _, _, .nil, _ => rfl
  | _, _, .cons hx hs, h => by
    simp only [List.all_cons, Bool.and_eq_true] at h
    rw [flat1_eq hx h.1, flats_eq hs h.2]

theorem flatV_spec (v : Value) (h : flatV v = true) : flat1 v = true ∨ (∃ cs : List Value, v = .agg ⟨cs⟩ ∧ cs.all flat1 = true) ∨ (∃ cs : List Value, v = .tuple ⟨cs⟩ ∧ cs.all flat1 = true) := by
  cases v with
  | agg cs => exact .inr (.inl ⟨cs.toList, rfl, h⟩)
  | tuple cs => exact .inr (.inr ⟨cs.toList, rfl, h⟩)
  | _ => exact .inl h

theorem flat_eq {ρ : Rho} {a b : Value} (h : VR ρ a b) (hf : flatV a = true) : a = b := by
  rcases flatV_spec a hf with h1 | ⟨cs, rfl, h1⟩ | ⟨cs, rfl, h1⟩
  · exact flat1_eq h h1
  · cases h with | agg hx => rw [flats_eq hx h1]
  · cases h with | tuple hx => rw [flats_eq hx h1]

theorem flat1_refl {ρ : Rho} (a : Value) (hf : flat1 a = true) : VR ρ a a := by
  unfold flat1 at hf
  split at hf
  · exact .bool _
  · exact .int _ _
  · exact .string _
  · exact .nilfunc
  · exact .niliface
  · exact .nilptr
  · exact .nilslice _ _
  · exact .nilmap
  · simp at hf

theorem flats_refl {ρ : Rho} : ∀ (a : List Value), a.all flat1 = true → VRs ρ a a
  | [], _ => .nil
  | x :: l, h => by
    simp only [List.all_cons, Bool.and_eq_true] at h
    exact .cons (flat1_refl x h.1) (flats_refl l h.2)

theorem flat_refl {ρ : Rho} (a : Value) (hf : flatV a = true) : VR ρ a a := by
  rcases flatV_spec a hf with h1 | ⟨cs, rfl, h1⟩ | ⟨cs, rfl, h1⟩
  · exact flat1_refl a h1
  · exact .agg (flats_refl cs h1)
  · exact .tuple (flats_refl cs h1)

theorem flat_cells {ρ : Rho} (a : Value) (hf : flatV a = true) : VRs ρ a.cells.toList a.cells.toList := by
  rcases flatV_spec a hf with h1 | ⟨cs, rfl, h1⟩ | ⟨cs, rfl, h1⟩
  · have := flat1_refl (ρ := ρ) a h1
    cases a <;> first | (simp [flat1] at h1; done) | (simpa [Value.cells] using VRs.cons this .nil)
  · simpa [Value.cells] using flats_refl cs h1
  · simpa [Value.cells] using VRs.cons (.tuple (flats_refl cs h1)) .nil

theorem VR.cells {ρ : Rho} {a b : Value} (h : VR ρ a b) : VRs ρ a.cells.toList b.cells.toList := by
  cases h with
  | agg hx => simpa [Value.cells] using hx
  | tuple hx => simpa [Value.cells] using VRs.cons (.tuple hx) .nil
  | bool b => simpa [Value.cells] using VRs.cons (.bool b) .nil
  | int k n => simpa [Value.cells] using VRs.cons (.int k n) .nil
  | string s => simpa [Value.cells] using VRs.cons (.string s) .nil
  | nilptr => simpa [Value.cells] using VRs.cons .nilptr .nil
  | ptr e => simpa [Value.cells] using VRs.cons (.ptr e) .nil
  | nilslice l c => simpa [Value.cells] using VRs.cons (.nilslice l c) .nil
  | slice e hc => simpa [Value.cells] using VRs.cons (.slice e hc) .nil
  | slice0 e hm hc => simpa [Value.cells] using VRs.cons (.slice0 e hm hc) .nil
  | wild e a => simpa [Value.cells] using VRs.cons (.wild e a) .nil
  | nilmap => simpa [Value.cells] using VRs.cons .nilmap .nil
  | map e => simpa [Value.cells] using VRs.cons (.map e) .nil
  | func hx hy => simpa [Value.cells] using VRs.cons (.func hx hy) .nil
  | nilfunc => simpa [Value.cells] using VRs.cons .nilfunc .nil
  | niliface => simpa [Value.cells] using VRs.cons .niliface .nil
  | poison v hv =>
    have hc : b.cells.toList = [b] := by cases b <;> first | rfl | (have h1 := hv.1; simp [Value.oneCell'] at h1)
    rw [hc]
    exact .cons (.poison b hv) .nil

theorem VR.oneC {ρ : Rho} {a b : Value} (h : VR ρ a b) : oneC a = b.oneCell' := by cases h <;> first | rfl | (rename_i hv; rw [hv.1]; rfl)

theorem VRs.oneC {ρ : Rho} : ∀ {a b : List Value}, VRs ρ a b → a.all oneC = true → ∀ v ∈ b, v.oneCell' = true
  | _, _, .nil, _, v, hv => by simp at hv
  | _, _, .cons hx hs, h, v, hv => by
    simp only [List.all_cons, Bool.and_eq_true] at h
    rcases List.mem_cons.1 hv with rfl | hv
    · rw [← hx.oneC]; exact h.1
    · exact VRs.oneC hs h.2 v hv

inductive ERs (ρ : Rho) : List MapEntry → List MapEntry → Prop
  | nil : ERs ρ [] []
  | cons {a b : MapEntry} {as bs : List MapEntry} (hk : VR ρ a.key b.key) (hv : VR ρ a.val b.val) (hb : a.born = b.born) (hs : ERs ρ as bs) : ERs ρ (a :: as) (b :: bs)

theorem ERs.mono {ρ ρ' : Rho} (h : Le ρ ρ') : ∀ {a b : List MapEntry}, ERs ρ a b → ERs ρ' a b
  | _, _, .nil => .nil
  | _, _, .cons hk hv hb hs => .cons (hk.mono h) (hv.mono h) hb (ERs.mono h hs)

theorem ERs.snoc {ρ : Rho} {x y : MapEntry} (hk : VR ρ x.key y.key) (hv : VR ρ x.val y.val) (hb : x.born = y.born) : ∀ {a b : List MapEntry}, ERs ρ a b → ERs ρ (a ++ [x]) (b ++ [y])
  | _, _, .nil => .cons hk hv hb .nil
  | _, _, .cons hk' hv' hb' hs => .cons hk' hv' hb' (ERs.snoc hk hv hb hs)

/-- A block of the world bears a block of the reckoned heap. -/
inductive OR (P : Program) (ρ : Rho) (img : Img) : AObj → Obj → Prop
  | row {c c' : List Value} {e : TypeId} {k : Nat} {fz : Nat × Nat} (h : VRs ρ c c') (hk : (k = 0 ∧ fz = (0, 0)) ∨ k = 2) (hm : img.more = none) : OR P ρ img (.row c e k) (.cells ⟨c'⟩ e fz)
  | grown {c c' x : List Value} {e : TypeId} {sz : Nat} {i : TypeInfo} (h : VRs ρ c c') (hi : P.info? e = some i) (hm : img.more = some (sz, i.size))
      (hs : c'.length + x.length = sz) : OR P ρ img (.row c e 1) (.cells ⟨c' ++ x⟩ e (0, 0))
  | map {es es' : List MapEntry} {k : Nat} (h : ERs ρ es es') (hm : img.more = none) : OR P ρ img (.map es k) (.map ⟨es'⟩ k)

theorem OR.mono {P : Program} {ρ ρ' : Rho} (h : Le ρ ρ') {img : Img} {a : AObj} {b : Obj} (k : OR P ρ img a b) : OR P ρ' img a b := by
  cases k with
  | row hx hk hm => exact .row (hx.mono h) hk hm
  | grown hx hi hm hs => exact .grown (hx.mono h) hi hm hs
  | map hx hm => exact .map (hx.mono h) hm

def Ro (wa : AW) (i : Nat) : Prop := ∃ c e, wa.heap.get i = some (.row c e 2)

structure Sat (P : Program) (ρ : Rho) (wa : AW) (w : World) : Prop where
  dom : ∀ i img, ρ i = some img → i < wa.size ∧ img.blk < w.heap.size
  obj : ∀ i img, ρ i = some img → ∃ oa, wa.heap.get i = some oa ∧ (oa = .dead ∨ ∃ o, w.heap[img.blk]? = some o ∧ OR P ρ img oa o)
  inj : ∀ i j im jm, ρ i = some im → ρ j = some jm → im.blk = jm.blk → wa.heap.get i ≠ some .dead → wa.heap.get j ≠ some .dead → ¬ Ro wa i → i = j

structure Mv (ρ ρ' : Rho) (wa wa' : AW) (w w' : World) : Prop where
  ext : Le ρ ρ'
  new : ∀ i img, ρ i = none → ρ' i = some img → wa.size ≤ i ∧
    (w.heap.size ≤ img.blk ∨ ∃ j jm, ρ j = some jm ∧ jm.blk = img.blk ∧ wa.heap.get j ≠ some .dead ∧ ¬ Ro wa j ∧ wa'.low ≤ j)
  full : ∀ i, wa.size ≤ i → i < wa'.size → ∃ img, ρ' i = some img
  size : wa.size ≤ wa'.size
  wsize : w.heap.size ≤ w'.heap.size
  low : wa'.low ≤ wa.low
  same : ∀ i, i < wa.size → i < wa'.low → wa'.heap.get i = wa.heap.get i
  ro : ∀ i c e, i < wa.size → wa.heap.get i = some (.row c e 2) → wa'.heap.get i = some (.row c e 2)
  dead : ∀ i, i < wa.size → wa.heap.get i = some .dead → wa'.heap.get i = some .dead
  frame : ∀ b, b < w.heap.size → (∀ i img, ρ i = some img → img.blk = b → wa.heap.get i ≠ some .dead → Ro wa i ∨ i < wa'.low) → w'.heap[b]? = w.heap[b]?
  os : w'.os = w.os
  tape : w'.tape = w.tape
  output : w'.output = w.output

theorem Mv.refl (ρ : Rho) (wa : AW) (w : World) : Mv ρ ρ wa wa w w :=
  ⟨Le.refl _, fun i img h1 h2 => (by rw [h1] at h2; cases h2), fun i h1 h2 => absurd h2 (by omega), Nat.le_refl _, Nat.le_refl _, Nat.le_refl _, fun _ _ _ => rfl, fun _ _ _ _ h => h, fun _ _ h => h, fun _ _ _ => rfl, rfl, rfl, rfl⟩

theorem Mv.trans {P : Program} {ρ ρ1 ρ2 : Rho} {wa wa1 wa2 : AW} {w w1 w2 : World} (S : Sat P ρ wa w) (h : Mv ρ ρ1 wa wa1 w w1) (k : Mv ρ1 ρ2 wa1 wa2 w1 w2) :
    Mv ρ ρ2 wa wa2 w w2 where
  ext := h.ext.trans k.ext
  new := by
    intro i img h1 h2
    cases e : ρ1 i with
    | some im =>
      have : im = img := by have := k.ext _ _ e; rw [h2] at this; cases this; rfl
      subst this
      obtain ⟨hs, hh⟩ := h.new i im h1 e
      refine ⟨hs, ?_⟩
      rcases hh with hh | ⟨j, jm, a, b, c, d, f⟩
      · exact .inl hh
      · exact .inr ⟨j, jm, a, b, c, d, Nat.le_trans k.low f⟩
    | none =>
      obtain ⟨hs, hh⟩ := k.new i img e h2
      refine ⟨Nat.le_trans h.size hs, ?_⟩
      rcases hh with hh | ⟨j, jm, a, b, c, d, f⟩
      · exact .inl (Nat.le_trans h.wsize hh)
      · cases ej : ρ j with
        | some jm' =>
          have : jm' = jm := by have := h.ext _ _ ej; rw [a] at this; cases this; rfl
          subst this
          have hj := (S.dom j jm' ej).1
          exact .inr ⟨j, jm', ej, b, fun hd => c (h.dead j hj hd), fun ⟨x, y, hr⟩ => d ⟨x, y, h.ro j x y hj hr⟩, f⟩
        | none =>
          obtain ⟨_, hh2⟩ := h.new j jm ej a
          rcases hh2 with hh2 | ⟨j', jm', a', b', c', d', f'⟩
          · exact .inl (b ▸ hh2)
          · exact .inr ⟨j', jm', a', b'.trans b, c', d', Nat.le_trans k.low f'⟩
  full := fun i h1 h2 => by
    by_cases e : i < wa1.size
    · obtain ⟨img, hi⟩ := h.full i h1 e; exact ⟨img, k.ext _ _ hi⟩
    · exact k.full i (by omega) h2
  size := Nat.le_trans h.size k.size
  wsize := Nat.le_trans h.wsize k.wsize
  low := Nat.le_trans k.low h.low
  same := fun i h1 h2 => (k.same i (Nat.lt_of_lt_of_le h1 h.size) h2).trans (h.same i h1 (Nat.lt_of_lt_of_le h2 k.low))
  ro := fun i c e h1 h2 => k.ro i c e (Nat.lt_of_lt_of_le h1 h.size) (h.ro i c e h1 h2)
  dead := fun i h1 h2 => k.dead i (Nat.lt_of_lt_of_le h1 h.size) (h.dead i h1 h2)
  frame := by
    intro b hb hall
    have f1 := h.frame b hb fun i img e1 e2 e3 => (hall i img e1 e2 e3).imp id fun hl => Nat.lt_of_lt_of_le hl k.low
    rw [← f1]
    refine k.frame b (Nat.lt_of_lt_of_le hb h.wsize) fun i img e1 e2 e3 => ?_
    cases ei : ρ i with
    | some im =>
      have : im = img := by have := h.ext _ _ ei; rw [e1] at this; cases this; rfl
      subst this
      have hi := (S.dom i im ei).1
      rcases hall i im ei e2 (fun hd => e3 (h.dead i hi hd)) with ⟨c, e, hr⟩ | hl
      · exact .inl ⟨c, e, h.ro i c e hi hr⟩
      · exact .inr hl
    | none =>
      obtain ⟨_, hh⟩ := h.new i img ei e1
      rcases hh with hh | ⟨j, jm, a, b', c, d, f⟩
      · omega
      · rcases hall j jm a (b'.trans e2) c with hr | hl
        · exact absurd hr d
        · have := k.low; omega
  os := k.os.trans h.os
  tape := k.tape.trans h.tape
  output := k.output.trans h.output

end Go.Proofs.YtkjbbbjebidniaaGreatDoor
/- A run of closed code reckoned over a heap of its own: what blocks and cells come to. -/

namespace Go.Proofs.YtkjbbbjebidniaaGreatDoor
open Go

section
variable {P : Program}

theorem r_underlying {t : TypeId} {d : TypeDesc} (h : P.underlying t = some d) (w : World) : (underlying t).run P w = .ok d w := by simp [underlying, h]
theorem r_typeInfo {t : TypeId} {i : TypeInfo} (h : P.info? t = some i) (w : World) : (typeInfo t).run P w = .ok i w := by simp [typeInfo, h]
theorem r_sizeOf {t : TypeId} {i : TypeInfo} (h : P.info? t = some i) (w : World) : (sizeOf t).run P w = .ok i.size w := by simp [sizeOf, r_typeInfo h]
theorem r_zero {t : TypeId} {i : TypeInfo} {z : Value} (h : P.info? t = some i) (hz : i.zero = some z) (w : World) : (zeroValue t).run P w = .ok z w := by
  simp [zeroValue, r_typeInfo h, hz]
theorem r_isAgg {t : TypeId} {d : TypeDesc} (h : P.underlying t = some d) (w : World) : (isAgg t).run P w = .ok (isAggD d) w := by
  simp only [isAgg, Sem.run_bind, r_underlying h, Result.andThen_ok]
  cases d <;> rfl

theorem lt_pow (i : Nat) : i + 1 < 2 ^ (i + 1) := Nat.lt_two_pow_self

theorem push_some (wa : AW) (oa : AObj) : ∃ wa', wa.push oa = some wa' := by
  have hg := Tb.get_set (wa.size + 1) wa.heap wa.size oa wa.size (lt_pow _)
  rw [if_pos rfl] at hg
  refine ⟨{ heap := wa.heap.set (Nat.succ wa.size) wa.size oa, size := wa.size + 1, low := wa.low }, ?_⟩
  have hg : (wa.heap.set (Nat.succ wa.size) wa.size oa).get wa.size = some oa := hg
  unfold AW.push
  simp only [hg]

theorem push_spec {wa wa' : AW} {oa : AObj} (h : wa.push oa = some wa') :
    wa'.size = wa.size + 1 ∧ wa'.low = wa.low ∧ ∀ j, wa'.heap.get j = if j = wa.size then some oa else wa.heap.get j := by
  unfold AW.push at h
  have hg := fun j => Tb.get_set (wa.size + 1) wa.heap wa.size oa j (lt_pow _)
  dsimp only at h
  split at h
  · cases h; exact ⟨rfl, rfl, hg⟩
  · simp at h

theorem upd_some (wa : AW) (i : Nat) (oa : AObj) : ∃ wa', wa.upd i oa = some wa' := by
  have hg := Tb.get_set (i + 1) wa.heap i oa i (lt_pow _)
  rw [if_pos rfl] at hg
  refine ⟨{ heap := wa.heap.set (Nat.succ i) i oa, size := wa.size, low := bif Nat.ble wa.low i then wa.low else i }, ?_⟩
  have hg : (wa.heap.set (Nat.succ i) i oa).get i = some oa := hg
  unfold AW.upd
  simp only [hg]

theorem upd_spec {wa wa' : AW} {oa : AObj} {i : Nat} (h : wa.upd i oa = some wa') :
    wa'.size = wa.size ∧ (wa'.low ≤ wa.low ∧ wa'.low ≤ i ∧ (∀ k, k < wa.low → k < i → k < wa'.low)) ∧ ∀ j, wa'.heap.get j = if j = i then some oa else wa.heap.get j := by
  unfold AW.upd at h
  have hg := fun j => Tb.get_set (i + 1) wa.heap i oa j (lt_pow _)
  dsimp only at h
  split at h
  · cases h
    refine ⟨rfl, ?_, hg⟩
    cases hl : Nat.ble wa.low i with
    | true => dsimp only [cond_true]; have := Nat.le_of_ble_eq_true hl; exact ⟨by omega, by omega, fun k _ _ => by omega⟩
    | false =>
      dsimp only [cond_false]
      have : ¬ wa.low ≤ i := fun hh => by rw [Nat.ble_eq_true_of_le hh] at hl; cases hl
      exact ⟨by omega, by omega, fun k _ _ => by omega⟩
  · simp at h

/-- Where the next new block lies. -/
def Rho.with (ρ : Rho) (n : Nat) (img : Img) : Rho := fun i => if i = n then some img else ρ i

theorem Rho.with_same (ρ : Rho) (n : Nat) (img : Img) : ρ.with n img n = some img := by simp [Rho.with]
theorem Rho.with_ne (ρ : Rho) {n i : Nat} (img : Img) (h : i ≠ n) : ρ.with n img i = ρ i := by simp [Rho.with, h]

theorem Sat.fresh {ρ : Rho} {wa : AW} {w : World} (S : Sat P ρ wa w) : ρ wa.size = none := by
  cases h : ρ wa.size with
  | none => rfl
  | some img => have := (S.dom _ _ h).1; omega

theorem Sat.le {ρ : Rho} {wa : AW} {w : World} (S : Sat P ρ wa w) (img : Img) : Le ρ (ρ.with wa.size img) := by
  intro i im h
  have : i ≠ wa.size := fun e => by subst e; rw [S.fresh] at h; cases h
  rw [Rho.with_ne _ _ this]; exact h

theorem push_ok {ρ : Rho} {wa wa' : AW} {w : World} {oa : AObj} (S : Sat P ρ wa w) (hp : wa.push oa = some wa') (more : Option (Nat × Nat)) (o : Obj)
    (ho : OR P ρ ⟨w.heap.size, more⟩ oa o) (w' : World) (hw : w'.heap = w.heap.push o) (hos : w'.os = w.os) (ht : w'.tape = w.tape) (hout : w'.output = w.output) :
    Sat P (ρ.with wa.size ⟨w.heap.size, more⟩) wa' w' ∧ Mv ρ (ρ.with wa.size ⟨w.heap.size, more⟩) wa wa' w w' := by
  obtain ⟨hs, hl, hg⟩ := push_spec hp
  have hle := S.le ⟨w.heap.size, more⟩
  have old : ∀ i img, ρ i = some img → i ≠ wa.size ∧ w'.heap[img.blk]? = w.heap[img.blk]? := fun i img h => by
    have := S.dom i img h
    refine ⟨by omega, ?_⟩
    rw [hw, Array.getElem?_push, if_neg (by omega)]
  refine ⟨⟨?_, ?_, ?_⟩, ⟨hle, ?_, fun i h1 h2 => (by have e : i = wa.size := (by omega); subst e; exact ⟨_, Rho.with_same _ _ _⟩), by omega, by rw [hw]; simp, by omega, ?_, ?_, ?_, ?_, hos, ht, hout⟩⟩
  · intro i img h
    by_cases e : i = wa.size
    · subst e; rw [Rho.with_same] at h; cases h; rw [hw]; simp; omega
    · rw [Rho.with_ne _ _ e] at h
      have := S.dom i img h
      rw [hw]; simp; omega
  · intro i img h
    by_cases e : i = wa.size
    · subst e; rw [Rho.with_same] at h; cases h
      exact ⟨oa, by rw [hg]; simp, .inr ⟨o, by rw [hw]; simp, ho.mono hle⟩⟩
    · rw [Rho.with_ne _ _ e] at h
      obtain ⟨oa', h1, h2⟩ := S.obj i img h
      refine ⟨oa', by rw [hg, if_neg e]; exact h1, ?_⟩
      rcases h2 with h2 | ⟨o', h2, h3⟩
      · exact .inl h2
      · exact .inr ⟨o', by rw [(old i img h).2]; exact h2, h3.mono hle⟩
  · intro i j im jm hi hj hb l1 l2 nr
    by_cases e : i = wa.size
    · subst e; rw [Rho.with_same] at hi; cases hi
      by_cases e' : j = wa.size
      · exact e'.symm
      · rw [Rho.with_ne _ _ e'] at hj; have := (S.dom j jm hj).2; simp at hb; omega
    · rw [Rho.with_ne _ _ e] at hi
      by_cases e' : j = wa.size
      · subst e'; rw [Rho.with_same] at hj; cases hj; have := (S.dom i im hi).2; simp at hb; omega
      · rw [Rho.with_ne _ _ e'] at hj
        rw [hg, if_neg e] at l1; rw [hg, if_neg e'] at l2
        exact S.inj i j im jm hi hj hb l1 l2 (fun ⟨c, e0, hr⟩ => nr ⟨c, e0, by rw [hg, if_neg e]; exact hr⟩)
  · intro i img h1 h2
    by_cases e : i = wa.size
    · subst e; rw [Rho.with_same] at h2; cases h2; exact ⟨Nat.le_refl _, .inl (Nat.le_refl _)⟩
    · rw [Rho.with_ne _ _ e, h1] at h2; cases h2
  · intro i h1 _; rw [hg, if_neg (by omega)]
  · intro i c e h1 h2; rw [hg, if_neg (by omega)]; exact h2
  · intro i h1 h2; rw [hg, if_neg (by omega)]; exact h2
  · intro b hb _; rw [hw, Array.getElem?_push, if_neg (by omega)]

theorem upd_ok {ρ : Rho} {wa wa' : AW} {w : World} {oa oa' : AObj} {i : Nat} {img : Img} (S : Sat P ρ wa w) (hi : ρ i = some img) (hga : wa.heap.get i = some oa)
    (hlive : oa ≠ .dead) (hro : ∀ c e, oa ≠ .row c e 2) (hu : wa.upd i oa' = some wa') (w' : World)
    (hblk : oa' = .dead ∨ ∃ o', w'.heap[img.blk]? = some o' ∧ OR P ρ img oa' o') (hoth : ∀ k, k ≠ img.blk → w'.heap[k]? = w.heap[k]?) (hsz : w'.heap.size = w.heap.size)
    (hos : w'.os = w.os) (ht : w'.tape = w.tape) (hout : w'.output = w.output) : Sat P ρ wa' w' ∧ Mv ρ ρ wa wa' w w' := by
  obtain ⟨hs, ⟨hl1, hl2, hl3⟩, hg⟩ := upd_spec hu
  refine ⟨⟨?_, ?_, ?_⟩, ⟨Le.refl _, ?_, fun i h1 h2 => absurd h2 (by omega), by omega, by omega, hl1, ?_, ?_, ?_, ?_, hos, ht, hout⟩⟩
  · intro j jm h; have := S.dom j jm h; omega
  · intro j jm h
    by_cases e : j = i
    · subst e; rw [hi] at h; cases h
      exact ⟨oa', by rw [hg]; simp, hblk⟩
    · obtain ⟨ob, h1, h2⟩ := S.obj j jm h
      refine ⟨ob, by rw [hg, if_neg e]; exact h1, ?_⟩
      rcases h2 with h2 | ⟨o', h2, h3⟩
      · exact .inl h2
      · by_cases hd : ob = .dead
        · exact .inl hd
        · refine .inr ⟨o', ?_, h3⟩
          rw [hoth]
          · exact h2
          · intro hb
            exact e (S.inj i j img jm hi h hb.symm (by rw [hga]; simpa using hlive) (by rw [h1]; simpa using hd) (fun ⟨c, e0, hr⟩ => by rw [hga] at hr; cases hr; exact hro c e0 rfl)).symm
  · intro a b am bm ha hb he l1 l2 nr
    have live : ∀ k, wa'.heap.get k ≠ some .dead → wa.heap.get k ≠ some .dead := fun k hk => by
      rw [hg] at hk
      by_cases e : k = i
      · subst e; rw [hga]; simpa using hlive
      · rwa [if_neg e] at hk
    exact S.inj a b am bm ha hb he (live a l1) (live b l2) (fun ⟨c, e0, hr⟩ => nr ⟨c, e0, by
      have : a ≠ i := fun e => by subst e; rw [hga] at hr; cases hr; exact hro c e0 rfl
      rw [hg, if_neg this]; exact hr⟩)
  · intro j jm h1 h2; rw [h1] at h2; cases h2
  · intro j _ h2; rw [hg, if_neg (by omega)]
  · intro j c e _ h2
    by_cases ej : j = i
    · subst ej; rw [hga] at h2; cases h2; exact absurd rfl (hro c e)
    · rw [hg, if_neg ej]; exact h2
  · intro j _ h2
    by_cases ej : j = i
    · subst ej; rw [hga] at h2; cases h2; exact absurd rfl hlive
    · rw [hg, if_neg ej]; exact h2
  · intro b hb hall
    by_cases e : b = img.blk
    · rcases hall i img hi e.symm (by rw [hga]; simpa using hlive) with ⟨c, e', hr⟩ | hlt
      · rw [hga] at hr; cases hr; exact absurd rfl (hro c e')
      · omega
    · exact hoth b e

/-- The cells that a row shows. -/
theorem cells_ok {ρ : Rho} {wa : AW} {w : World} (S : Sat P ρ wa w) {b off n : Nat} {img : Img} (hb : ρ b = some img) {l : List Value}
    (h : wa.cells ⟨b, off, none⟩ n = some l) : ∃ l', VRs ρ l l' ∧ l.length = n ∧ ∀ j v, l'[j]? = some v → w.cell? ⟨img.blk, off + j, none⟩ = some v := by
  obtain ⟨oa, h1, h2⟩ := S.obj b img hb
  simp only [AW.cells, h1] at h
  cases oa with
  | row c e k =>
    rcases h2 with h2 | ⟨o, h2, h3⟩
    · cases h2
    simp only at h
    cases hle : Nat.ble (off + n) c.length with
    | false => simp [hle] at h
    | true =>
      simp only [hle, cond_true, Option.some.injEq] at h
      have hlen := Nat.le_of_ble_eq_true hle
      subst h
      cases h3 with
      | row hx hk hm =>
        refine ⟨_, (hx.drop off).take n, by simp; omega, fun j v hv => ?_⟩
        simp only [World.cell?, h2]
        rw [List.getElem?_take] at hv
        split at hv
        · simpa using hv
        · simp at hv
      | grown hx hi hm hs =>
        refine ⟨_, (hx.drop off).take n, by simp; omega, fun j v hv => ?_⟩
        simp only [World.cell?, h2]
        rw [List.getElem?_take] at hv
        split at hv
        · rw [List.getElem?_drop] at hv
          have hlt := (List.getElem?_eq_some_iff.1 hv).1
          simpa [List.getElem?_append_left hlt] using hv
        · simp at hv
  | map es k => simp at h
  | dead => simp at h

theorem Addr_add (b o n : Nat) : (⟨b, o, none⟩ : Addr).add n = ⟨b, o + n, none⟩ := by unfold Addr.add; split <;> simp_all

theorem loadCells_ok {ρ : Rho} {wa : AW} {w : World} (S : Sat P ρ wa w) {b off n : Nat} {img : Img} (hb : ρ b = some img) {l : List Value}
    (h : wa.cells ⟨b, off, none⟩ n = some l) : ∃ l', VRs ρ l l' ∧ (loadCells ⟨img.blk, off, none⟩ n).run P w = .ok ⟨l'⟩ w := by
  obtain ⟨l', h1, h2, h3⟩ := cells_ok S hb h
  refine ⟨l', h1, ?_⟩
  have := run_loadCells_list (P := P) w ⟨img.blk, off, none⟩ l' (fun j v hv => by rw [Addr_add]; exact h3 j v hv)
  rw [← h1.length, h2] at this
  exact this

theorem cell_ok {ρ : Rho} {wa : AW} {w : World} (S : Sat P ρ wa w) {b off : Nat} {img : Img} (hb : ρ b = some img) {v : Value}
    (h : wa.cell ⟨b, off, none⟩ = some v) : ∃ u, VR ρ v u ∧ w.cell? ⟨img.blk, off, none⟩ = some u := by
  obtain ⟨oa, h1, h2⟩ := S.obj b img hb
  simp only [AW.cell, h1] at h
  cases oa with
  | row c e k =>
    rcases h2 with h2 | ⟨o, h2, h3⟩
    · cases h2
    simp only at h
    cases h3 with
    | row hx hk hm =>
      obtain ⟨u, hu, hv⟩ := hx.get h
      exact ⟨u, hv, by simp [World.cell?, h2, hu]⟩
    | grown hx hi hm hs =>
      obtain ⟨u, hu, hv⟩ := hx.get h
      have hlt := (List.getElem?_eq_some_iff.1 hu).1
      exact ⟨u, hv, by simp [World.cell?, h2, List.getElem?_append_left hlt, hu]⟩
  | map es k => simp at h
  | dead => simp at h

theorem load_ok {ρ : Rho} {wa : AW} {w : World} (S : Sat P ρ wa w) {b off : Nat} {img : Img} (hb : ρ b = some img) {t : TypeId} {v : Value}
    (h : loadC P t ⟨b, off, none⟩ wa = some v) : ∃ u, VR ρ v u ∧ (loadVar t ⟨img.blk, off, none⟩).run P w = .ok u w := by
  unfold loadC at h
  split at h
  · rename_i d i hd hi
    cases hag : isAggD d with
    | true =>
      simp only [hag, cond_true] at h
      split at h
      · rename_i l hl
        cases h
        obtain ⟨l', h1, h2⟩ := loadCells_ok S hb hl
        exact ⟨_, .agg h1, by simp [loadVar, r_isAgg hd, hag, r_sizeOf hi, h2]⟩
      · simp at h
    | false =>
      simp only [hag, cond_false] at h
      obtain ⟨u, h1, h2⟩ := cell_ok S hb h
      exact ⟨u, h1, by simp [loadVar, r_isAgg hd, hag, h2]⟩
  · simp at h

/-- Parts laid over the cells of a row, in the reckoned heap and in the world. -/
theorem over_row {ρ : Rho} {wa wa' : AW} {w : World} (S : Sat P ρ wa w) {b off : Nat} {img : Img} (hb : ρ b = some img) {c c2 l l' : List Value} {e : TypeId} {k : Nat}
    (hg : wa.heap.get b = some (.row c e k)) (hk : k ≤ 1) (hv : VRs ρ l l') (h1 : l.all oneC = true) (ho : overA c off l = some c2) (hu : wa.upd b (.row c2 e k) = some wa') :
    ∃ w', (storeCells ⟨img.blk, off, none⟩ l').run P w = .ok () w' ∧ Sat P ρ wa' w' ∧ Mv ρ ρ wa wa' w w' := by
  unfold overA at ho
  cases hle : Nat.ble (off + l.length) c.length with
  | false => simp [hle] at ho
  | true =>
    simp only [hle, cond_true, Option.some.injEq] at ho
    have hlen := Nat.le_of_ble_eq_true hle
    obtain ⟨oa, g1, g2⟩ := S.obj b img hb
    rw [hg] at g1; cases g1
    rcases g2 with g2 | ⟨o, g2, g3⟩
    · cases g2
    have hone := hv.oneC h1
    have hll := hv.length
    have hro : ∀ c' e', (AObj.row c e k) ≠ .row c' e' 2 := fun c' e' h => by cases h; omega
    cases g3 with
    | @row _ c' _ _ fz hx hk' hm =>
      have hk0 : k = 0 ∧ fz = (0, 0) := hk'.resolve_right (fun e => by omega)
      obtain ⟨hk0, rfl⟩ := hk0
      have hcl := hx.length
      have hst := run_storeCells_at (P := P) img.blk off e l' 0 ⟨c'⟩ w g2 (by simp; omega) hone
      refine ⟨_, hst, ?_⟩
      refine upd_ok S hb hg (by simp) hro hu _ (.inr ⟨_, setRow_heap w img.blk _ _ e _ g2, ?_⟩) (fun j hj => setRow_other w img.blk j _ hj) (by simp) rfl rfl rfl
      subst ho
      simp only [Nat.add_zero]
      have : VRs ρ (c.take off ++ l ++ c.drop (off + l.length)) (c'.take off ++ l' ++ c'.drop (off + l'.length)) := by
        rw [hll]; exact ((hx.take off).append hv).append (hx.drop _)
      exact .row this hk' hm
    | @grown _ c' x _ sz i hx hi hm hs =>
      have hcl := hx.length
      have hst := run_storeCells_at (P := P) img.blk off e l' 0 ⟨c' ++ x⟩ w g2 (by simp; omega) hone
      refine ⟨_, hst, ?_⟩
      refine upd_ok S hb hg (by simp) hro hu _ (.inr ⟨_, setRow_heap w img.blk _ _ e _ g2, ?_⟩) (fun j hj => setRow_other w img.blk j _ hj) (by simp) rfl rfl rfl
      subst ho
      simp only [Nat.add_zero]
      have e1 : (c' ++ x).take off ++ l' ++ (c' ++ x).drop (off + l'.length) = (c'.take off ++ l' ++ c'.drop (off + l'.length)) ++ x := by
        rw [List.take_append_of_le_length (by omega), List.drop_append_of_le_length (by omega)]; simp
      have : VRs ρ (c.take off ++ l ++ c.drop (off + l.length)) (c'.take off ++ l' ++ c'.drop (off + l'.length)) := by
        rw [hll]; exact ((hx.take off).append hv).append (hx.drop _)
      show OR P ρ img _ (.cells ⟨(c' ++ x).take off ++ l' ++ (c' ++ x).drop (off + l'.length)⟩ e (0, 0))
      rw [e1]
      exact .grown this hi hm (by simp; omega)

theorem store_ok {ρ : Rho} {wa wa' : AW} {w : World} (S : Sat P ρ wa w) {b off : Nat} {img : Img} (hb : ρ b = some img) {t : TypeId} {v v' : Value} (hv : VR ρ v v')
    (h : storeC P t ⟨b, off, none⟩ v wa = some wa') : ∃ w', (storeVar t ⟨img.blk, off, none⟩ v').run P w = .ok () w' ∧ Sat P ρ wa' w' ∧ Mv ρ ρ wa wa' w w' := by
  unfold storeC at h
  split at h
  · rename_i i hi hsp
    have hvc := hv.cells
    dsimp only at h
    cases hc : (Nat.beq v.cells.toList.length i.size && v.cells.toList.all oneC) with
    | false => rw [hc] at h; simp at h
    | true =>
      rw [hc] at h
      simp only [cond_true] at h
      simp only [Bool.and_eq_true] at hc
      obtain ⟨hlen, hone⟩ := hc
      have hlen := Nat.eq_of_beq_eq_true hlen
      split at h
      · rename_i c e k hg
        cases hk : Nat.ble k 1 with
        | false => simp [hk] at h
        | true =>
          simp only [hk, cond_true] at h
          split at h
          · rename_i c2 ho
            obtain ⟨w', h1, h2, h3⟩ := over_row S hb hg (Nat.le_of_ble_eq_true hk) hvc hone ho h
            refine ⟨w', ?_, h2, h3⟩
            have : v'.cells.size = i.size := by rw [← hlen, hvc.length]; simp
            simp [storeVar, r_sizeOf hi, this, h1]
          · simp at h
      · simp at h
  · simp at h

end

end Go.Proofs.YtkjbbbjebidniaaGreatDoor
/- A run of closed code reckoned over a heap of its own: operations that touch no memory. -/

namespace Go.Proofs.YtkjbbbjebidniaaGreatDoor
open Go

section
variable {P : Program}

theorem foldl_set (off : Nat) : ∀ (l : List Value) (k : Nat) (c : Array Value), off + k + l.length ≤ c.size →
    (l.zipIdx k).foldl (fun cs (p : Value × Nat) => cs.setIfInBounds (off + p.2) p.1) c = (c.toList.take (off + k) ++ l ++ c.toList.drop (off + k + l.length)).toArray
  | [], k, c, _ => by simp
  | v :: l, k, c, h => by
    have h' : off + k + (l.length + 1) ≤ c.size := by simpa [Nat.add_assoc] using h
    have ih := foldl_set off l (k + 1) (c.setIfInBounds (off + k) v) (by simp; omega)
    simp only [List.zipIdx_cons, List.foldl_cons, ih]
    have e := list_seg_step c.toList (off + k) v l (by simpa using h')
    congr 1
    simpa [Array.toList_setIfInBounds, Nat.add_assoc] using e

theorem fill_ok {ρ : Rho} {e e' : Operand → Value} {place place' : Nat → Option (Nat × Nat)} (hpl : ∀ k, place k = place' k) : ∀ (ps : List (Nat × Operand)) (c c' c2 : List Value), (∀ p ∈ ps, VR ρ (e p.2) (e' p.2)) → VRs ρ c c' →
    fillA place (ps.map fun p => (p.1, e p.2)) c = some c2 → ∃ c2', Instr.fill place' ⟨c'⟩ (ps.map fun p => (p.1, e' p.2)) = some ⟨c2'⟩ ∧ VRs ρ c2 c2'
  | [], c, c', c2, _, hc, h => by
    simp only [List.map_nil, fillA, Option.some.injEq] at h
    subst h; exact ⟨c', rfl, hc⟩
  | p :: ps, c, c', c2, hp, hc, h => by
    have hv := (hp p (by simp)).cells
    simp only [List.map_cons, fillA] at h
    simp only [List.map_cons, Instr.fill, ← hpl]
    split at h
    · simp at h
    · rename_i off size heq
      cases hb : Nat.beq (e p.2).cells.toList.length size with
      | false => rw [hb] at h; simp at h
      | true =>
        rw [hb] at h; simp only [cond_true] at h
        have hsz := Nat.eq_of_beq_eq_true hb
        unfold overA at h
        cases hle : Nat.ble (off + (e p.2).cells.toList.length) c.length with
        | false => rw [hle] at h; simp at h
        | true =>
          rw [hle] at h; simp only [cond_true] at h
          have hlen := Nat.le_of_ble_eq_true hle
          have hvl := hv.length
          have hcl := hc.length
          have hnew : VRs ρ (c.take off ++ (e p.2).cells.toList ++ c.drop (off + (e p.2).cells.toList.length)) (c'.take off ++ (e' p.2).cells.toList ++ c'.drop (off + (e' p.2).cells.toList.length)) := by
            rw [hvl]; exact ((hc.take off).append hv).append (hc.drop _)
          obtain ⟨c2', h1, h2⟩ := fill_ok hpl ps _ _ c2 (fun q hq => hp q (by simp [hq])) hnew h
          refine ⟨c2', ?_, h2⟩
          rw [heq]
          have hs1 : (e' p.2).cells.size = size := by rw [← hsz, hvl]; simp
          have hs3 : (e' p.2).cells.size = (e p.2).cells.toList.length := by rw [hvl]; simp
          have hs2 : off + (e' p.2).cells.size ≤ c'.length := by rw [← hcl]; omega
          have hf := foldl_set off (e' p.2).cells.toList 0 ⟨c'⟩ (by simpa using hs2)
          have hz : (e' p.2).cells.zipIdx.foldl (fun cs x => cs.setIfInBounds (off + x.2) x.1) (⟨c'⟩ : Array Value) = ⟨c'.take off ++ (e' p.2).cells.toList ++ c'.drop (off + (e' p.2).cells.toList.length)⟩ := by
            rw [← Array.foldl_toList, Array.toList_zipIdx, hf]; simp
          have hcond : ((e' p.2).cells.size ≠ size || off + (e' p.2).cells.size > (⟨c'⟩ : Array Value).size) = false := by
            simp only [hs1, ne_eq, not_true_eq_false, decide_false, Bool.false_or, decide_eq_false_iff_not]
            rw [hs1] at hs2; simpa using hs2
          simp only [hcond, Bool.false_eq_true, if_false]
          rw [show (fun cs x => match x with | (c, j) => cs.setIfInBounds (off + j) c : Array Value → Value × Nat → Array Value) = (fun cs x => cs.setIfInBounds (off + x.2) x.1) from rfl, hz]
          exact h1

theorem flatA_ok {ρ : Rho} {e e' : Operand → Value} {o : Oper} {v : Value} (hs : ∀ cs b, o.op ≠ .select cs b) (hr : ∀ x ∈ o.op.operands, VR ρ (e x) (e' x))
    (h : flatA P e o = some v) : (∀ w, (execOp e' o).run P w = .ok (.value v) w) ∧ VR ρ v v := by
  unfold flatA at h
  cases hf : o.op.operands.all (fun x => flatV (e x)) with
  | false => rw [hf] at h; simp at h
  | true =>
    rw [hf] at h; simp only [cond_true] at h
    have heq : execOp e' o = execOp e o := execOp_congr o hs fun x hx => by
      have := Array.all_eq_true_iff_forall_mem.1 hf x hx
      exact (flat_eq (hr x hx) this).symm
    split at h
    · rename_i u hu
      cases hv : flatV u with
      | false => simp [hv] at h
      | true =>
        simp only [hv, cond_true, Option.some.injEq] at h
        subst h
        exact ⟨fun w => by rw [heq]; exact pureA_run P _ _ hu w, flat_refl _ hv⟩
    · simp at h

theorem part_ok {ρ : Rho} {t : TypeId} {cs cs' : List Value} {off : Nat} {v : Value} (hc : VRs ρ cs cs') (h : partA P t cs off = some v) :
    ∃ v', (∀ w, (part t ⟨cs'⟩ off).run P w = .ok v' w) ∧ VR ρ v v' := by
  unfold partA at h
  split at h
  · rename_i d i hd hi
    cases hag : isAggD d with
    | true =>
      simp only [hag, cond_true, Option.some.injEq] at h
      subst h
      refine ⟨_, fun w => ?_, .agg ((hc.drop off).take i.size)⟩
      simp only [part, Sem.run_bind, r_isAgg hd, Result.andThen_ok, hag, if_true, r_sizeOf hi, Sem.run_pure]
      congr 2
      apply Array.ext'
      simp
    | false =>
      simp only [hag, cond_false] at h
      obtain ⟨u, h1, h2⟩ := hc.get h
      exact ⟨u, fun w => by simp [part, r_isAgg hd, hag, h1], h2⟩
  · simp at h

theorem nilIn {ρ : Rho} {t : TypeId} {d : TypeDesc} {x y x' y' : Value} (ht : P.underlying t = some d) (hx : VR ρ x x') (hy : VR ρ y y') (h : nilCmp d x y = true) (n : Nat) (w : World) :
    (Op.equalIn (n + 1) t x' y').run P w = .ok false w := by
  unfold nilCmp at h
  split at h <;> (try (simp at h; done)) <;> cases hx <;> cases hy <;>
    (simp only [Op.equalIn, Sem.run_bind, r_underlying ht, Result.andThen_ok]; rfl)

theorem nilCmp_ok {ρ : Rho} {t : TypeId} {d : TypeDesc} {x y x' y' : Value} (ht : P.underlying t = some d) (hx : VR ρ x x') (hy : VR ρ y y') (h : nilCmp d x y = true) (w : World) :
    (Op.equal t x' y').run P w = .ok false w := nilIn ht hx hy h 9999 w

theorem nilGuard {op : BinOp} {t : TypeId} {a b : Operand} {d : TypeDesc} {x y x' y' : Value} {ρ : Rho} (hx : VR ρ x x') (hy : VR ρ y y') (h : nilCmp d x y = true) (w : World) :
    (eqGuard op t a b x' y').run P w = .ok () w := by
  unfold eqGuard
  unfold nilCmp at h
  split at h <;> (try (simp at h; done)) <;> cases hx <;> cases hy <;> cases op <;> rfl

theorem nilBin {op : BinOp} {t : TypeId} {d : TypeDesc} {x y x' y' : Value} {ρ : Rho} (ht : P.underlying t = some d) (hx : VR ρ x x') (hy : VR ρ y y') (h : nilCmp d x y = true) (w : World) :
    (op = .eql → (binOp op t x' y').run P w = .ok (.bool false) w) ∧ (op = .neq → (binOp op t x' y').run P w = .ok (.bool true) w) := by
  have he := nilCmp_ok ht hx hy h w
  have hb1 : op = .eql → binOp op t x' y' = (do pure (.bool (← Op.equal t x' y'))) := by
    intro ho; subst ho
    unfold nilCmp at h
    split at h <;> (try (simp at h; done)) <;> cases hx <;> cases hy <;> rfl
  have hb2 : op = .neq → binOp op t x' y' = (do pure (.bool (!(← Op.equal t x' y')))) := by
    intro ho; subst ho
    unfold nilCmp at h
    split at h <;> (try (simp at h; done)) <;> cases hx <;> cases hy <;> rfl
  exact ⟨fun ho => by rw [hb1 ho]; simp [he], fun ho => by rw [hb2 ho]; simp [he]⟩

end

end Go.Proofs.YtkjbbbjebidniaaGreatDoor
/- A run of closed code reckoned over a heap of its own: the value of an operation that touches no memory. -/

namespace Go.Proofs.YtkjbbbjebidniaaGreatDoor
open Go

set_option linter.unusedSimpArgs false
set_option linter.unusedVariables false
section
variable {P : Program}

theorem VRs.map {ρ : Rho} {e e' : Operand → Value} : ∀ (l : List Operand), (∀ x ∈ l, VR ρ (e x) (e' x)) → VRs ρ (l.map e) (l.map e')
  | [], _ => .nil
  | x :: l, h => .cons (h x (by simp)) (VRs.map l fun y hy => h y (by simp [hy]))

theorem valA_ok {ρ : Rho} {e e' : Operand → Value} {o : Oper} {v : Value} (hr : ∀ x ∈ o.op.operands, VR ρ (e x) (e' x))
    (h : valA P e o = some v) : ∃ v', (∀ w, (execOp e' o).run P w = .ok (.value v') w) ∧ VR ρ v v' := by
  obtain ⟨dst, op, type, pos, after, guard⟩ := o
  cases op with
  | move x =>
    simp only [valA, valK, v_pick, v_extract, v_nilCheck, v_fieldAddr, v_field, v_indexAddr, v_build, v_binOp, v_call, Option.some.injEq] at h; subst h
    exact ⟨e' x, fun w => by simp [execOp], hr x (by simp [Op.operands])⟩
  | assign x =>
    simp only [valA, valK, v_pick, v_extract, v_nilCheck, v_fieldAddr, v_field, v_indexAddr, v_build, v_binOp, v_call, Option.some.injEq] at h; subst h
    exact ⟨e' x, fun w => by simp [execOp], hr x (by simp [Op.operands])⟩
  | pick c a b =>
    have hc := hr c (by simp [Op.operands]); have ha := hr a (by simp [Op.operands]); have hb := hr b (by simp [Op.operands])
    simp only [valA, valK, v_pick, v_extract, v_nilCheck, v_fieldAddr, v_field, v_indexAddr, v_build, v_binOp, v_call] at h
    split at h
    · rename_i t ht
      rw [ht] at hc
      generalize hc' : e' c = c' at hc
      cases hc
      simp only [Option.some.injEq] at h; subst h
      cases t
      · exact ⟨e' b, fun w => by simp [execOp, hc', asBool], hb⟩
      · exact ⟨e' a, fun w => by simp [execOp, hc', asBool], ha⟩
    · simp at h
  | extract t ix =>
    have ht := hr t (by simp [Op.operands])
    simp only [valA, valK, v_pick, v_extract, v_nilCheck, v_fieldAddr, v_field, v_indexAddr, v_build, v_binOp, v_call] at h
    split at h
    · rename_i vs hvs
      rw [hvs] at ht
      generalize ht' : e' t = t' at ht
      cases ht with
      | tuple hx =>
        obtain ⟨u, h1, h2⟩ := hx.get h
        exact ⟨u, fun w => by simp [execOp, Instr.extract, ht', h1], h2⟩
    · simp at h
  | makeFunc fn first captured =>
    cases fn with
    | func f =>
      simp only [valA, valK, v_pick, v_extract, v_nilCheck, v_fieldAddr, v_field, v_indexAddr, v_build, v_binOp, v_call, Option.some.injEq] at h; subst h
      have h1 : VRs ρ (first.map e).toList (first.map e').toList := by
        simp only [Array.toList_map]; exact VRs.map _ fun x hx => hr x (by simp [Op.operands] at hx ⊢; exact .inl hx)
      have h2 : VRs ρ (captured.map e).toList (captured.map e').toList := by
        simp only [Array.toList_map]; exact VRs.map _ fun x hx => hr x (by simp [Op.operands] at hx ⊢; exact .inr hx)
      exact ⟨.func (.func f) (first.map e') (captured.map e'), fun w => by simp [execOp, Instr.makeFunc], .func h1 h2⟩
    | _ => simp [valA, valK, v_pick, v_extract, v_nilCheck, v_fieldAddr, v_field, v_indexAddr, v_build, v_binOp, v_call] at h
  | nilCheck x =>
    have hx := hr x (by simp [Op.operands])
    simp only [valA, valK, v_pick, v_extract, v_nilCheck, v_fieldAddr, v_field, v_indexAddr, v_build, v_binOp, v_call] at h
    generalize ha' : e' x = a' at hx
    split at h
    · rename_i a ha
      rw [ha] at hx; simp only [Option.some.injEq] at h; subst h
      cases hx with
      | ptr hi => exact ⟨_, fun w => by simp [execOp, ha'], .ptr hi⟩
    · rename_i f a b ha
      rw [ha] at hx; simp only [Option.some.injEq] at h; subst h
      cases hx with
      | func h1 h2 => exact ⟨_, fun w => by simp [execOp, ha'], .func h1 h2⟩
    · simp at h
  | fieldAddr st x f =>
    have hx := hr x (by simp [Op.operands])
    simp only [valA, valK, v_pick, v_extract, v_nilCheck, v_fieldAddr, v_field, v_indexAddr, v_build, v_binOp, v_call] at h
    generalize ha' : e' x = a' at hx
    split at h
    · rename_i fields hu
      split at h
      · rename_i fd hf
        split at h
        · rename_i i a hi ha
          rw [ha] at hx
          cases hz : Nat.beq i.size 0 with
          | true => rw [hz] at h; simp at h
          | false =>
            rw [hz] at h
            simp only [cond_false, Option.some.injEq] at h; subst h
            have hz' : i.size ≠ 0 := fun e => by rw [e] at hz; simp at hz
            cases hx with
            | @ptr b off img hb =>
              refine ⟨.pointer (some ⟨img.blk, off + fd.offset, none⟩), fun w => ?_, by rw [Addr_add]; exact .ptr hb⟩
              simp [execOp, Instr.fieldAt, r_underlying hu, hf, ha', Instr.sureAddr, fieldPlace, r_sizeOf hi, hz', Addr_add]
        · simp at h
      · simp at h
    · simp at h
  | field st x f =>
    have hx := hr x (by simp [Op.operands])
    simp only [valA, valK, v_pick, v_extract, v_nilCheck, v_fieldAddr, v_field, v_indexAddr, v_build, v_binOp, v_call] at h
    generalize ha' : e' x = a' at hx
    split at h
    · rename_i fields hu
      split at h
      · rename_i fd hf
        split at h
        · rename_i cs ha
          rw [ha] at hx
          cases hx with
          | agg hc =>
            obtain ⟨u, h1, h2⟩ := part_ok hc h
            exact ⟨u, fun w => by simp [execOp, Instr.field, r_underlying hu, hf, ha', asAgg, h1], h2⟩
        · simp at h
      · simp at h
    · simp at h
  | indexAddr t x ix =>
    have hx := hr x (by simp [Op.operands]); have hi := hr ix (by simp [Op.operands])
    simp only [valA, valK, v_pick, v_extract, v_nilCheck, v_fieldAddr, v_field, v_indexAddr, v_build, v_binOp, v_call] at h
    generalize hx' : e' x = x' at hx
    generalize hi' : e' ix = i' at hi
    split at h
    · rename_i len elem a k i hu ha hix
      rw [ha] at hx; rw [hix] at hi
      cases hi
      split at h
      · rename_i inf hinf
        cases hb : (decide (0 ≤ i) && decide (i < (len : Int))) with
        | false => rw [hb] at h; simp at h
        | true =>
          rw [hb] at h
          simp only [cond_true, Option.some.injEq] at h; subst h
          simp only [Bool.and_eq_true, decide_eq_true_eq] at hb
          cases hx with
          | @ptr b off img hbk =>
            refine ⟨.pointer (some ⟨img.blk, off + i.toNat * inf.size, none⟩), fun w => ?_, by rw [Addr_add]; exact .ptr hbk⟩
            simp [execOp, Instr.indexAt, r_underlying hu, hx', hi', asIntOf, Instr.sureAddr, r_sizeOf hinf, hb.1, hb.2, Addr_add]
      · simp at h
    · rename_i elem a len cap k i hu ha hix
      rw [ha] at hx; rw [hix] at hi
      cases hi
      split at h
      · rename_i inf hinf
        cases hb : (decide (0 ≤ i) && decide (i < (len : Int))) with
        | false => rw [hb] at h; simp at h
        | true =>
          rw [hb] at h
          simp only [cond_true, Option.some.injEq] at h; subst h
          simp only [Bool.and_eq_true, decide_eq_true_eq] at hb
          cases hx with
          | @slice b off _ _ c' img hbk hc =>
            refine ⟨.pointer (some ⟨img.blk, off + i.toNat * inf.size, none⟩), fun w => ?_, by rw [Addr_add]; exact .ptr hbk⟩
            simp [execOp, Instr.indexAt, r_underlying hu, hx', hi', asIntOf, r_sizeOf hinf, hb.1, hb.2, Addr_add]
          | slice0 _ _ _ => omega
          | wild _ _ => omega
      · simp at h
    · simp at h
  | build t parts =>
    have hp : ∀ p ∈ parts.toList, VR ρ (e p.2) (e' p.2) := fun p hp => hr p.2 (by simp only [Op.operands]; exact List.mem_toArray.2 (List.mem_map.2 ⟨p, hp, rfl⟩))
    simp only [valA, valK, v_pick, v_extract, v_nilCheck, v_fieldAddr, v_field, v_indexAddr, v_build, v_binOp, v_call] at h
    split at h
    · rename_i fields i hu hi
      split at h
      · rename_i z places hz hpl
        cases hfz : flatV z with
        | false => rw [hfz] at h; simp at h
        | true =>
          rw [hfz] at h; simp only [cond_true] at h
          split at h
          · rename_i cells hfill
            simp only [Option.some.injEq] at h; subst h
            obtain ⟨c2, h1, h2⟩ := fill_ok (place' := fun k => places[k]?) (fun _ => rfl) parts.toList _ _ _ hp (flat_cells (ρ := ρ) z hfz) hfill
            refine ⟨.agg ⟨c2⟩, fun w => ?_, .agg h2⟩
            have hpr := pureA_run P _ _ hpl w
            have h1' : Instr.fill (fun k => places[k]?) z.cells (parts.toList.map fun p => (p.1, e' p.2)) = some ⟨c2⟩ := h1
            simp [execOp, Instr.build, r_zero hi hz, r_underlying hu, hpr, h1', -bind_pure_comp]
          · simp at h
      · simp at h
    · rename_i len elem i hu hi
      split at h
      · rename_i z j hz hj
        cases hfz : flatV z with
        | false => rw [hfz] at h; simp at h
        | true =>
          rw [hfz] at h; simp only [cond_true] at h
          split at h
          · rename_i cells hfill
            simp only [Option.some.injEq] at h; subst h
            obtain ⟨c2, h1, h2⟩ := fill_ok (place' := fun k => some (k * j.size, j.size)) (fun _ => rfl) parts.toList _ _ _ hp (flat_cells (ρ := ρ) z hfz) hfill
            refine ⟨.agg ⟨c2⟩, fun w => ?_, .agg h2⟩
            simp [execOp, Instr.build, r_zero hi hz, r_underlying hu, r_sizeOf hj, h1]
          · simp at h
      · simp at h
    · simp at h
  | binOp op xt x y yt =>
    have hx := hr x (by simp [Op.operands]); have hy := hr y (by simp [Op.operands])
    simp only [valA, valK, v_pick, v_extract, v_nilCheck, v_fieldAddr, v_field, v_indexAddr, v_build, v_binOp, v_call] at h
    cases hf : (flatV (e x) && flatV (e y)) with
    | true =>
      rw [hf] at h; simp only [cond_true] at h
      obtain ⟨h1, h2⟩ := flatA_ok (P := P) (fun cs b h => by simp at h) hr h
      exact ⟨v, h1, h2⟩
    | false =>
      rw [hf] at h; simp only [cond_false] at h
      split at h
      · rename_i d hd
        cases hn : nilCmp d (e x) (e y) with
        | false => rw [hn] at h; simp at h
        | true =>
          rw [hn] at h; simp only [cond_true] at h
          split at h
          · simp only [Option.some.injEq] at h; subst h
            refine ⟨.bool false, fun w => ?_, .bool _⟩
            have g := nilGuard (P := P) (op := .eql) (t := xt) (a := x) (b := y) hx hy hn w
            have b := (nilBin (op := .eql) hd hx hy hn w).1 rfl
            simp [execOp, g, b]
          · simp only [Option.some.injEq] at h; subst h
            refine ⟨.bool true, fun w => ?_, .bool _⟩
            have g := nilGuard (P := P) (op := .neq) (t := xt) (a := x) (b := y) hx hy hn w
            have b := (nilBin (op := .neq) hd hx hy hn w).2 rfl
            simp [execOp, g, b]
          · simp at h
      · simp at h
  | unOp _ _ _ =>
    obtain ⟨h1, h2⟩ := flatA_ok (P := P) (fun cs b h => by simp at h) hr h
    exact ⟨v, h1, h2⟩
  | convert _ _ _ =>
    obtain ⟨h1, h2⟩ := flatA_ok (P := P) (fun cs b h => by simp at h) hr h
    exact ⟨v, h1, h2⟩
  | index _ _ _ =>
    obtain ⟨h1, h2⟩ := flatA_ok (P := P) (fun cs b h => by simp at h) hr h
    exact ⟨v, h1, h2⟩
  | call c =>
    obtain ⟨callee, args, argTypes⟩ := c
    cases callee with
    | builtin b =>
      cases b with
      | len =>
        simp only [valA, valK, v_pick, v_extract, v_nilCheck, v_fieldAddr, v_field, v_indexAddr, v_build, v_binOp, v_call] at h
        split at h
        · rename_i x hx0
          split at h
          · rename_i a n c t hx ht
            split at h
            · rename_i el hu
              simp only [Option.some.injEq] at h; subst h
              have hm : x ∈ args := by
                rcases Array.getElem?_eq_some_iff.1 hx0 with ⟨hlt, rfl⟩; exact Array.getElem_mem hlt
              have hv := hr x (by simp [Op.operands, Call.operands, hm])
              rw [hx] at hv
              generalize hx' : e' x = x' at hv
              have key : ∃ a' c', x' = .slice (some a') n c' := by cases hv <;> exact ⟨_, _, rfl⟩
              obtain ⟨a', c', rfl⟩ := key
              refine ⟨goInt n, fun w => ?_, .int _ _⟩
              simp [execOp, resolve, invoke, builtin, Builtin.len_, ht, hx0, hx', r_underlying hu]
            · simp at h
          · obtain ⟨h1, h2⟩ := flatA_ok (P := P) (fun cs b h => by simp at h) hr h
            exact ⟨v, h1, h2⟩
        · simp at h
      | min =>
        obtain ⟨h1, h2⟩ := flatA_ok (P := P) (fun cs b h => by simp at h) hr h
        exact ⟨v, h1, h2⟩
      | max =>
        obtain ⟨h1, h2⟩ := flatA_ok (P := P) (fun cs b h => by simp at h) hr h
        exact ⟨v, h1, h2⟩
      | _ => simp [valA, valK, v_pick, v_extract, v_nilCheck, v_fieldAddr, v_field, v_indexAddr, v_build, v_binOp, v_call] at h
    | _ => simp [valA, valK, v_pick, v_extract, v_nilCheck, v_fieldAddr, v_field, v_indexAddr, v_build, v_binOp, v_call] at h
  | _ => simp [valA, valK, v_pick, v_extract, v_nilCheck, v_fieldAddr, v_field, v_indexAddr, v_build, v_binOp, v_call] at h

end

end Go.Proofs.YtkjbbbjebidniaaGreatDoor
/- A run of closed code reckoned over a heap of its own: operations that touch memory. -/

namespace Go.Proofs.YtkjbbbjebidniaaGreatDoor
open Go

section
variable {P : Program}

/-- What an operation's run comes to, beside its reckoning. -/
def Done1 (P : Program) (ρ : Rho) (wa wa' : AW) (w : World) (va : Value) (r : Result Next) : Prop :=
  ∃ ρ' v w', (r = .ok (.value v) w' ∨ (r = .ok .skip w' ∧ v = undef)) ∧ VR ρ' va v ∧ Sat P ρ' wa' w' ∧ Mv ρ ρ' wa wa' w w'

theorem Done1.value {ρ ρ' : Rho} {wa wa' : AW} {w w' : World} {va v : Value} {r : Result Next} (h : r = .ok (.value v) w') (hv : VR ρ' va v) (hs : Sat P ρ' wa' w') (hm : Mv ρ ρ' wa wa' w w') :
    Done1 P ρ wa wa' w va r := ⟨ρ', v, w', .inl h, hv, hs, hm⟩

theorem undef_refl {ρ : Rho} : VR ρ undef undef := .tuple .nil

theorem Done1.skip {ρ ρ' : Rho} {wa wa' : AW} {w w' : World} {r : Result Next} (h : r = .ok .skip w') (hs : Sat P ρ' wa' w') (hm : Mv ρ ρ' wa wa' w w') :
    Done1 P ρ wa wa' w undef r := ⟨ρ', undef, w', .inr ⟨h, rfl⟩, undef_refl, hs, hm⟩

/-- A new row of cells. -/
theorem newRow_ok {ρ : Rho} {wa wa' : AW} {w : World} (S : Sat P ρ wa w) {c c' : List Value} {elem : TypeId} (hc : VRs ρ c c') (hp : wa.push (.row c elem 0) = some wa') :
    ∃ ρ' w', (∀ cs : Array Value, cs = ⟨c'⟩ → (newRow elem cs).run P w = .ok ⟨w.heap.size, 0, none⟩ w') ∧ ρ' wa.size = some ⟨w.heap.size, none⟩ ∧ Sat P ρ' wa' w' ∧ Mv ρ ρ' wa wa' w w' := by
  obtain ⟨h1, h2⟩ := push_ok S hp none (.cells ⟨c'⟩ elem (0, 0)) (.row hc (.inl ⟨rfl, rfl⟩) rfl) { w with heap := w.heap.push (.cells ⟨c'⟩ elem (0, 0)) } rfl rfl rfl rfl
  exact ⟨_, _, fun cs hcs => by subst hcs; simp [newRow], Rho.with_same _ _ _, h1, h2⟩

theorem ERs.find {ρ : Rho} {kd : TypeDesc} {k : Value} (hk : flatV k = true) : ∀ {es es' : List MapEntry} {i : Nat}, ERs ρ es es' →
    (Instr.findNow kd k es i = some none → Instr.findNow kd k es' i = some none) ∧
    (∀ j v, Instr.findNow kd k es i = some (some (j, v)) → ∃ v', Instr.findNow kd k es' i = some (some (j, v')) ∧ VR ρ v v')
  | _, _, i, .nil => ⟨fun h => h, fun j v h => by simp [Instr.findNow] at h⟩
  | _, _, i, @ERs.cons _ a b as bs ha hv hb hs => by
    have ih := ERs.find hk (i := i + 1) (kd := kd) (k := k) hs
    have key : ∀ r, Instr.sameNow kd k a.key = some r → a.key = b.key := by
      intro r hr
      refine flat1_eq ha ?_
      revert hr
      generalize a.key = x
      unfold Instr.sameNow
      split <;> simp [flat1]
    refine ⟨fun h => ?_, fun j v h => ?_⟩
    · simp only [Instr.findNow] at h ⊢
      split at h
      · simp at h
      · rename_i hr; rw [← key _ hr, hr]; exact ih.1 h
      · simp at h
    · simp only [Instr.findNow] at h ⊢
      split at h
      · rename_i hr
        rw [← key _ hr, hr]
        simp only [Option.some.injEq, Prod.mk.injEq] at h
        obtain ⟨h1, h2⟩ := h; subst h1; subst h2
        exact ⟨_, rfl, hv⟩
      · rename_i hr; rw [← key _ hr, hr]; exact ih.2 j v h
      · simp at h

theorem checkKey_ok {key : TypeId} {kd : TypeDesc} (hk : P.underlying key = some kd) (hs : simpleKey kd = true) (em : Bool) (n : Nat) (v : Value) (w : World) :
    (Instr.checkKey em (n + 1) key v).run P w = .ok () w := by
  simp only [Instr.checkKey, Sem.run_bind, r_underlying hk, Result.andThen_ok]
  cases kd <;> simp [simpleKey] at hs <;> rfl

theorem findKey_ok {key : TypeId} {kd : TypeDesc} (hk : P.underlying key = some kd) {k : Value} {es : List MapEntry} {r : Option (Nat × Value)} (h : Instr.findNow kd k es 0 = some r) (w : World) :
    (Instr.findKey key k es).run P w = .ok r w := by
  simp [Instr.findKey, r_underlying hk, h]

theorem map_ok {ρ : Rho} {wa : AW} {w : World} (S : Sat P ρ wa w) {r : Nat} {img : Img} (hr : ρ r = some img) {es : List MapEntry} {c : Nat} (h : wa.heap.get r = some (.map es c)) :
    ∃ es', ERs ρ es es' ∧ img.more = none ∧ w.heap[img.blk]? = some (.map ⟨es'⟩ c) := by
  obtain ⟨oa, h1, h2⟩ := S.obj r img hr
  rw [h] at h1; cases h1
  rcases h2 with h2 | ⟨o, h2, h3⟩
  · cases h2
  · cases h3 with
    | map he hm => exact ⟨_, he, hm, h2⟩

/-- A bound of a slice expression, in the world. -/
theorem bound_ok {ρ : Rho} {e e' : Operand → Value} {top top' dflt : Nat} {x : Operand} {n : Nat} (hx : VR ρ (e x) (e' x)) (h : boundA e top dflt (some x) = some n) (ht : top ≤ top') (c : BoundsCode) (w : World) :
    (Instr.sliceBound (e' x) top' c).run P w = .ok n w ∧ n ≤ top := by
  simp only [boundA] at h
  split at h
  · rename_i k i hi
    rw [hi] at hx
    generalize hx' : e' x = x' at hx
    cases hx
    cases hb : (decide (0 ≤ i) && decide (i ≤ (top : Int))) with
    | false => rw [hb] at h; simp at h
    | true =>
      rw [hb] at h
      simp only [cond_true, Option.some.injEq] at h; subst h
      simp only [Bool.and_eq_true, decide_eq_true_eq] at hb
      have : i ≤ (top' : Int) := by omega
      exact ⟨by simp [Instr.sliceBound, asIntOf, hb.1, this], by omega⟩
  · simp at h

end

end Go.Proofs.YtkjbbbjebidniaaGreatDoor
/- A run of closed code reckoned over a heap of its own: slices, and the operations that touch memory. -/

namespace Go.Proofs.YtkjbbbjebidniaaGreatDoor
open Go

section
variable {P : Program}

theorem bound0_ok {ρ : Rho} {e e' : Operand → Value} {top top' dflt n : Nat} {lo : Option Operand} (hl : ∀ x, lo = some x → VR ρ (e x) (e' x)) (h : boundA e top dflt lo = some n) (ht : top ≤ top') (c : BoundsCode) (w : World) :
    (match lo.map e' with | some v => Instr.sliceBound v top' c | none => pure dflt : Sem Nat).run P w = .ok n w ∧ (lo = none → n = dflt) ∧ (lo ≠ none → n ≤ top) := by
  cases lo with
  | none => simp only [boundA, Option.some.injEq] at h; subst h; exact ⟨rfl, fun _ => rfl, fun h => absurd rfl h⟩
  | some x =>
    have := bound_ok (P := P) (hl x rfl) h ht c w
    exact ⟨this.1, (fun h => by cases h), fun _ => this.2⟩

theorem bounds_ok {ρ : Rho} {e e' : Operand → Value} {len cap cap' m h l : Nat} {lo hi mx : Option Operand}
    (hl : ∀ x, lo = some x → VR ρ (e x) (e' x)) (hh : ∀ x, hi = some x → VR ρ (e x) (e' x)) (hm : ∀ x, mx = some x → VR ρ (e x) (e' x)) (hcap : cap ≤ cap')
    (h1 : boundA e cap cap mx = some m) (h2 : boundA e m len hi = some h) (h3 : boundA e h 0 lo = some l) (hmx : hi = none → mx = none) (w : World) :
    ∃ m', (Instr.sliceBounds true len cap' (lo.map e') (hi.map e') (mx.map e')).run P w = .ok (l, h, m') w ∧ (mx = none → m = cap ∧ m' = cap') ∧ (mx ≠ none → m' = m ∧ m ≤ cap) ∧ (hi = none → h = len) ∧ (hi ≠ none → h ≤ m) ∧ l ≤ h := by
  have b3 := fun c => bound0_ok (P := P) (top' := h) hl h3 (Nat.le_refl _) c w
  have b30 : lo = none → l = 0 := (b3 .sliceB).2.1
  have hlh : l ≤ h := by
    cases lo with
    | none => have := (b3 .sliceB).2.1 rfl; omega
    | some x => exact (b3 .sliceB).2.2 (by simp)
  cases mx with
  | none =>
    have hm0 : m = cap := by simp only [boundA, Option.some.injEq] at h1; exact h1.symm
    subst hm0
    cases hi with
    | none =>
      have hh0 : h = len := by simp only [boundA, Option.some.injEq] at h2; exact h2.symm
      subst hh0
      refine ⟨cap', ?_, fun _ => ⟨rfl, rfl⟩, fun h => absurd rfl h, fun _ => rfl, fun h => absurd rfl h, hlh⟩
      cases lo with
      | none => simp [Instr.sliceBounds, b30 rfl]
      | some x =>
        have b4 : (Instr.sliceBound (e' x) h .sliceB).run P w = .ok l w := (b3 .sliceB).1
        simp [Instr.sliceBounds, b4]
    | some y =>
      have b2 := bound_ok (P := P) (hh y rfl) h2 hcap .sliceAcap w
      refine ⟨cap', ?_, fun _ => ⟨rfl, rfl⟩, fun h => absurd rfl h, (fun h => by cases h), fun _ => b2.2, hlh⟩
      cases lo with
      | none => simp [Instr.sliceBounds, b30 rfl, b2.1]
      | some x =>
        have b4 : (Instr.sliceBound (e' x) h .sliceB).run P w = .ok l w := (b3 .sliceB).1
        simp [Instr.sliceBounds, b4, b2.1]
  | some z =>
    have b1 := bound_ok (P := P) (hm z rfl) h1 hcap .slice3Acap w
    cases hi with
    | none => have := hmx rfl; cases this
    | some y =>
      have b2 := bound_ok (P := P) (hh y rfl) h2 (Nat.le_refl m) .slice3B w
      refine ⟨m, ?_, (fun h => by cases h), fun _ => ⟨rfl, b1.2⟩, (fun h => by cases h), fun _ => b2.2, hlh⟩
      cases lo with
      | none => simp [Instr.sliceBounds, b30 rfl, b1.1, b2.1]
      | some x =>
        have b4 : (Instr.sliceBound (e' x) h .slice3C).run P w = .ok l w := (b3 .slice3C).1
        simp [Instr.sliceBounds, b4, b1.1, b2.1]

/-- The row under a slice: exact, or grown with its elements' size. -/
theorem row_more {ρ : Rho} {wa : AW} {w : World} (S : Sat P ρ wa w) {b : Nat} {img : Img} (hb : ρ b = some img) {c : List Value} {e : TypeId} {k : Nat} (h : wa.heap.get b = some (.row c e k)) :
    ((k = 0 ∨ k = 2) ∧ img.more = none) ∨ (k = 1 ∧ ∃ i sz, P.info? e = some i ∧ img.more = some (sz, i.size)) := by
  obtain ⟨oa, h1, h2⟩ := S.obj b img hb
  rw [h] at h1; cases h1
  rcases h2 with h2 | ⟨o, h2, h3⟩
  · cases h2
  · cases h3 with
    | row hx hk hm => exact .inl ⟨hk.imp And.left id, hm⟩
    | grown hx hi hm hs => exact .inr ⟨rfl, _, _, hi, hm⟩

theorem slice_vr {ρ : Rho} {a : Addr} {cap cap' m m' h l size : Nat} {b off : Nat} {img : Img} (hb : ρ b = some img) (ha : a = ⟨b, off, none⟩)
    (hc : CapOk img.more off cap cap') (hu : ∀ sz v, img.more = some (sz, v) → v = size) (hm1 : m ≤ cap) (hm2 : m ≤ m') (hm3 : m' ≤ cap') (hex : img.more = none → m' = m) (hlh : l ≤ h) (hhm : h ≤ m) :
    VR ρ (.slice (some (bif Nat.beq m l then a else a.add (l * size))) (h - l) (m - l)) (.slice (some (if m' = l then ⟨img.blk, off, none⟩ else (⟨img.blk, off, none⟩ : Addr).add (l * size))) (h - l) (m' - l)) := by
  subst ha
  cases hmore : img.more with
  | none =>
    have := hex hmore; subst this
    rw [hmore] at hc; simp only [CapOk] at hc
    cases hb' : Nat.beq m' l with
    | true =>
      have := Nat.eq_of_beq_eq_true hb'; subst this
      simp only [cond_true, if_true]
      exact .slice hb (by rw [hmore]; rfl)
    | false =>
      have : m' ≠ l := fun e => by subst e; simp at hb'
      simp only [cond_false, if_neg this, Addr_add]
      exact .slice hb (by rw [hmore]; rfl)
  | some sv =>
    obtain ⟨sz, v⟩ := sv
    have hv := hu sz v hmore; subst hv
    rw [hmore] at hc; simp only [CapOk] at hc
    obtain ⟨hc1, hc2⟩ := hc
    have hle : off + l * v + (m' - l) * v ≤ sz := by
      have e1 : l * v + (m' - l) * v = m' * v := by rw [← Nat.add_mul]; congr 1; omega
      have e2 : m' * v ≤ cap' * v := Nat.mul_le_mul_right _ hm3
      omega
    cases hb' : Nat.beq m l with
    | true =>
      have := Nat.eq_of_beq_eq_true hb'; subst this
      have hh : h = m := by omega
      subst hh
      simp only [cond_true, Nat.sub_self]
      by_cases e : m' = h
      · simp only [if_pos e]
        subst e
        exact .slice0 hb hmore (by simp; have := Nat.zero_le (cap' * v); omega)
      · simp only [if_neg e, Addr_add]
        exact .slice0 hb hmore hle
    | false =>
      have hne : m ≠ l := fun e => by subst e; simp at hb'
      have : m' ≠ l := by omega
      simp only [cond_false, if_neg this, Addr_add]
      exact .slice hb (by rw [hmore]; exact ⟨by omega, hle⟩)

theorem slice_ok {ρ : Rho} {e e' : Operand → Value} {wa : AW} {w : World} (S : Sat P ρ wa w) {t : TypeId} {x : Operand} {lo hi mx : Option Operand} {v : Value}
    (hx : VR ρ (e x) (e' x)) (hl : ∀ x, lo = some x → VR ρ (e x) (e' x)) (hh : ∀ x, hi = some x → VR ρ (e x) (e' x)) (hm : ∀ x, mx = some x → VR ρ (e x) (e' x))
    (h : sliceC P e t x lo hi mx wa = some v) : ∃ v', (Instr.sliceAt t (e' x) (lo.map e') (hi.map e') (mx.map e')).run P w = .ok v' w ∧ VR ρ v v' := by
  unfold sliceC at h
  split at h
  · rename_i elem a len cap hu hex
    rw [hex] at hx
    generalize hx' : e' x = x' at hx
    split at h
    · rename_i i m hi' hm'
      -- the common part
      have main : ∀ hv : Nat, boundA e m len hi = some hv → (hi = none → mx = none) → sliceC.go P wa i.size a m hv (boundA e hv 0 lo) = some v →
          ∃ v', (Instr.sliceAt t x' (lo.map e') (hi.map e') (mx.map e')).run P w = .ok v' w ∧ VR ρ v v' := by
        intro hv hhv hmx hgo
        cases hlo : boundA e hv 0 lo with
        | none => rw [hlo] at hgo; simp [sliceC.go] at hgo
        | some l =>
          rw [hlo] at hgo
          have run : ∀ (a' : Addr) (cap' : Nat), x' = .slice (some a') len cap' → cap ≤ cap' → ∃ m', (Instr.sliceAt t x' (lo.map e') (hi.map e') (mx.map e')).run P w = .ok (.slice (some (if m' = l then a' else a'.add (l * i.size))) (hv - l) (m' - l)) w ∧
              m ≤ m' ∧ m' ≤ cap' ∧ m ≤ cap ∧ (cap = cap' → m' = m) ∧ l ≤ hv ∧ (hi = none → hv = len) ∧ (hi ≠ none → hv ≤ m) := by
            intro a' cap' hx2 hcap
            obtain ⟨m', r, q1, q2, q3, q4, q5⟩ := bounds_ok (P := P) hl hh hm hcap hm' hhv hlo hmx w
            refine ⟨m', ?_, ?_, ?_, ?_, ?_, q5, q3, q4⟩
            · subst hx2
              simp only [Instr.sliceAt, Sem.run_bind, r_underlying hu, Result.andThen_ok, Instr.slice, r, r_sizeOf hi', Sem.run_pure]
              split <;> simp_all
            · cases mx with
              | none => have := q1 rfl; omega
              | some z => have := q2 (by simp); omega
            · cases mx with
              | none => have := q1 rfl; omega
              | some z => have := q2 (by simp); omega
            · cases mx with
              | none => have := q1 rfl; omega
              | some z => have := q2 (by simp); omega
            · intro hc
              cases mx with
              | none => have := q1 rfl; omega
              | some z => exact (q2 (by simp)).1
          simp only [sliceC.go] at hgo
          cases hx with
          | @slice b off _ _ c' img hb hc =>
            have hcap : cap ≤ c' := by unfold CapOk at hc; split at hc <;> omega
            obtain ⟨m', r, p1, p2, p3, p4, p5, p6, p7⟩ := run _ c' rfl hcap
            refine ⟨_, r, ?_⟩
            have fin : ∀ (hu' : ∀ sz v, img.more = some (sz, v) → v = i.size) (hhm : hv ≤ m), VR ρ (.slice (some (bif Nat.beq m l then ⟨b, off, none⟩ else (⟨b, off, none⟩ : Addr).add (l * i.size))) (hv - l) (m - l)) (.slice (some (if m' = l then ⟨img.blk, off, none⟩ else (⟨img.blk, off, none⟩ : Addr).add (l * i.size))) (hv - l) (m' - l)) :=
              fun hu' hhm => slice_vr hb rfl hc hu' p3 p1 p2 (fun hn => p4 (by rw [hn] at hc; exact hc)) p5 hhm
            cases hcm : Nat.ble hv m with
            | false => rw [hcm] at hgo; simp at hgo
            | true =>
              have hhm := Nat.le_of_ble_eq_true hcm
              rw [hcm] at hgo; simp only [cond_true] at hgo
              split at hgo
              · rename_i c e0 hg
                rcases row_more S hb hg with ⟨_, hm0⟩ | ⟨hk, _⟩
                · simp only [Option.some.injEq] at hgo; subst hgo
                  exact fin (fun sz v hs => by rw [hm0] at hs; cases hs) hhm
                · cases hk
              · rename_i c e0 hg
                rcases row_more S hb hg with ⟨_, hm0⟩ | ⟨hk, _⟩
                · simp only [Option.some.injEq] at hgo; subst hgo
                  exact fin (fun sz v hs => by rw [hm0] at hs; cases hs) hhm
                · cases hk
              · rename_i c e0 hg
                split at hgo
                · rename_i j hj
                  cases hbj : Nat.beq j.size i.size with
                  | false => rw [hbj] at hgo; simp at hgo
                  | true =>
                    rw [hbj] at hgo
                    simp only [cond_true, Option.some.injEq] at hgo; subst hgo
                    rcases row_more S hb hg with ⟨hk, _⟩ | ⟨_, i2, sz2, hi2, hm2⟩
                    · rcases hk with hk | hk <;> cases hk
                    · rw [hj] at hi2; cases hi2
                      exact fin (fun sz v hs => by rw [hm2] at hs; cases hs; exact Nat.eq_of_beq_eq_true hbj) hhm
                · simp at hgo
              · simp at hgo
          | @slice0 b off off' c' sz u img hb hmore hc =>
            obtain ⟨m', r, p1, p2, p3, p4, p5, p6, p7⟩ := run _ c' rfl (Nat.zero_le _)
            have hm0 : m = 0 := by omega
            subst hm0
            cases hcm : Nat.ble hv 0 with
            | false => rw [hcm] at hgo; simp at hgo
            | true =>
              have hhm : hv = 0 := by have := Nat.le_of_ble_eq_true hcm; omega
              have hl0 : l = 0 := by omega
              subst hhm; subst hl0
              rw [hcm] at hgo; simp only [cond_true] at hgo
              refine ⟨_, r, ?_⟩
              have hres : v = .slice (some ⟨b, off, none⟩) 0 0 := by
                split at hgo
                · simpa [eq_comm] using hgo
                · simpa [eq_comm] using hgo
                · split at hgo
                  · cases hbj : Nat.beq _ i.size with
                    | false => rw [hbj] at hgo; simp at hgo
                    | true => rw [hbj] at hgo; simpa [eq_comm] using hgo
                  · simp at hgo
                · simp at hgo
              subst hres
              have : (if m' = 0 then (⟨img.blk, off', none⟩ : Addr) else (⟨img.blk, off', none⟩ : Addr).add (0 * i.size)) = ⟨img.blk, off', none⟩ := by
                split
                · rfl
                · rw [Addr_add]; simp
              rw [this]
              refine .slice0 hb hmore ?_
              have : (m' - 0) * u ≤ c' * u := Nat.mul_le_mul_right _ (by omega)
              omega
          | @wild b off img hb a2 =>
            obtain ⟨m', r, p1, p2, p3, p4, p5, p6, p7⟩ := run a2 0 rfl (Nat.le_refl _)
            have hm0 : m = 0 := by omega
            subst hm0
            cases hcm : Nat.ble hv 0 with
            | false => rw [hcm] at hgo; simp at hgo
            | true =>
              have hhm : hv = 0 := by have := Nat.le_of_ble_eq_true hcm; omega
              have hl0 : l = 0 := by omega
              subst hhm; subst hl0
              rw [hcm] at hgo; simp only [cond_true] at hgo
              refine ⟨_, r, ?_⟩
              have hres : v = .slice (some ⟨b, off, none⟩) 0 0 := by
                split at hgo
                · simpa [eq_comm] using hgo
                · simpa [eq_comm] using hgo
                · split at hgo
                  · cases hbj : Nat.beq _ i.size with
                    | false => rw [hbj] at hgo; simp at hgo
                    | true => rw [hbj] at hgo; simpa [eq_comm] using hgo
                  · simp at hgo
                · simp at hgo
              subst hres
              have hm'0 : m' = 0 := by omega
              subst hm'0
              exact .wild hb a2
      split at h
      · rename_i _ _ hv hhv
        cases hmx : mx.isSome with
        | true => rw [hmx] at h; simp at h
        | false =>
          rw [hmx] at h; simp only [cond_false] at h
          exact main hv hhv (fun _ => by cases mx; rfl; simp at hmx) h
      · rename_i y hv hhv
        exact main hv hhv (fun hn => by cases hn) h
      · simp at h
    · simp at h
  · simp at h

end

end Go.Proofs.YtkjbbbjebidniaaGreatDoor
