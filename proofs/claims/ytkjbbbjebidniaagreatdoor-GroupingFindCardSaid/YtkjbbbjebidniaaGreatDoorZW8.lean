/- Find: the arguments opened: a heap of one's own that bears what they read as (a tree of rows that are only read), however the world's blocks lie. -/
import Derived.Test.YtkjbbbjebidniaaGreatDoorZW7
import Derived.Test.YtkjbbbjebidniaaGreatDoorRows
import Derived.ProofKit
import Derived.LaidMore
import Derived.SizedLaws
import Derived.ChangeArms
import Derived.DataReads
namespace Go.Proofs.YtkjbbbjebidniaaGreatDoor
open Go Go.RowKit
set_option linter.unusedSimpArgs false
set_option linter.unusedVariables false
set_option maxRecDepth 100000

/- every value bears some value of one's own -/
mutual
theorem mask1 (ρ : Rho) (v : Value) : ∃ u, VR ρ u v := by
  cases v with
  | agg xs => obtain ⟨xs⟩ := xs; obtain ⟨_, h⟩ := masks ρ xs; exact ⟨_, .agg h⟩
  | tuple xs => obtain ⟨xs⟩ := xs; obtain ⟨_, h⟩ := masks ρ xs; exact ⟨_, .tuple h⟩
  | bool b => exact ⟨_, .bool b⟩
  | _ => exact ⟨_, .poison _ ⟨rfl, fun b hb => by cases hb⟩⟩
termination_by SizeOf.sizeOf v
theorem masks (ρ : Rho) (l : List Value) : ∃ us, VRs ρ us l := by
  cases l with
  | nil => exact ⟨_, .nil⟩
  | cons v l => obtain ⟨_, h⟩ := mask1 ρ v; obtain ⟨_, k⟩ := masks ρ l; exact ⟨_, .cons h k⟩
termination_by SizeOf.sizeOf l
end

theorem Dens.app {Ψ : Psi} : ∀ {us vs : List Value} {ds es : List Dt}, Dens Ψ us ds → Dens Ψ vs es → Dens Ψ (us ++ vs) (ds ++ es)
  | _, _, _, _, .nil, k => k
  | _, _, _, _, .cons h hs, k => .cons h (hs.app k)

/-- A heap of one's own that bears blocks of the world, all only read. -/
structure Op (W : World) (ρ : Rho) (w : AW) (Ψ : Psi) : Prop where
  sat : Sat Tryz.prog ρ w W
  wt : Wt Ψ w
  g0 : ρ 0 = some ⟨0, none⟩
  ro : ∀ i, i < w.size → w.heap.get i = some .dead ∨ Ro w i

theorem Op.start (W : World) (hW : 0 < W.heap.size) : ∃ ρ w Ψ, Op W ρ w Ψ := by
  obtain ⟨w, hp⟩ := push_some { heap := .nil, size := 0, low := 0 } .dead
  obtain ⟨hs, hl, hg⟩ := push_spec hp
  have g : w.heap.get 0 = some .dead := by rw [hg]; simp
  refine ⟨fun i => if i = 0 then some ⟨0, none⟩ else none, w, ⟨fun _ _ => none, fun _ _ => False⟩, ⟨fun i img h => ?_, fun i img h => ?_, fun i j im jm hi hj _ _ _ _ => ?_⟩, ⟨(by rw [hs, hl]; simp), (fun b o d h => nomatch h), (fun b o h => False.elim h), (fun b o d h => nomatch h)⟩, (by simp), fun i hi => .inl ?_⟩
  · split at h
    · cases h; exact ⟨by rw [hs]; simp only; omega, hW⟩
    · cases h
  · split at h
    · rename_i e; subst e; exact ⟨.dead, g, .inl rfl⟩
    · cases h
  · split at hi
    · split at hj
      · omega
      · cases hj
    · cases hi
  · have : i = 0 := by rw [hs] at hi; simp only at hi; omega
    subst this; exact g

/-- One more row. -/
theorem Op.row {W : World} {ρ : Rho} {w : AW} {Ψ : Psi} (O : Op W ρ w Ψ) {b : Nat} {c : Array Value} {t : TypeId} {fz : Nat × Nat} (hb : W.heap[b]? = some (.cells c t fz)) (o : Nat) {us : List Value} {ds : List Dt}
    (hus : VRs ρ us ((c.toList.drop o).take ds.length)) (hle : o + ds.length ≤ c.size) (hds : Dens Ψ us ds) :
    ∃ ρ' w' Ψ' n, Op W ρ' w' Ψ' ∧ Le ρ ρ' ∧ PLe Ψ Ψ' ∧ ρ' n = some ⟨b, none⟩ ∧ Ψ'.live n (o + ds.length) ∧ ∀ j d, ds[j]? = some d → Ψ'.at' n (o + j) = some d := by
  obtain ⟨u1, h1⟩ := masks ρ (c.toList.take o)
  obtain ⟨u2, h2⟩ := masks ρ (c.toList.drop (o + ds.length))
  have hall : VRs ρ (u1 ++ (us ++ u2)) c.toList := by
    have := h1.append (hus.append h2)
    rwa [← List.drop_drop, List.take_append_drop, List.take_append_drop] at this
  have l1 : u1.length = o := by rw [h1.length, List.length_take]; simp; omega
  have lu : us.length = ds.length := hds.length
  have lc : (u1 ++ (us ++ u2)).length = c.size := by rw [hall.length]; simp
  obtain ⟨w', hp⟩ := push_some w (.row (u1 ++ (us ++ u2)) t 2)
  obtain ⟨hs, hl, hg⟩ := push_spec hp
  have hlt : b < W.heap.size := by
    rcases Nat.lt_or_ge b W.heap.size with h | h
    · exact h
    · rw [Array.getElem?_eq_none h] at hb; cases hb
  have hle' := O.sat.le ⟨b, none⟩
  have old : ∀ i img, ρ i = some img → i ≠ w.size := fun i img h => by have := (O.sat.dom i img h).1; omega
  have hat : ∀ j d, ds[j]? = some d → ∃ u, (u1 ++ (us ++ u2))[o + j]? = some u ∧ Den Ψ u d := fun j d hj => by
    obtain ⟨u, q1, q2⟩ := hds.get hj
    refine ⟨u, ?_, q2⟩
    have hjl : j < us.length := (List.getElem?_eq_some_iff.1 q1).1
    rw [List.getElem?_append_right (by omega), l1, List.getElem?_append_left (by omega)]
    simpa using q1
  have P : PLe Ψ ⟨fun x y => if x = w.size then (if o ≤ y then ds[y - o]? else none) else Ψ.at' x y, fun x y => if x = w.size then y ≤ c.size else Ψ.live x y⟩ := by
    refine ⟨fun x y d h => ?_, fun x y h => ?_⟩
    · have hx := (O.wt.live _ _ (O.wt.lv _ _ _ h)).1
      show (if x = w.size then _ else _) = _
      rw [if_neg (by omega)]; exact h
    · have hx := (O.wt.live _ _ h).1
      show (if x = w.size then _ else _)
      rw [if_neg (by omega)]; exact h
  refine ⟨ρ.with w.size ⟨b, none⟩, w', _, w.size, ⟨⟨fun i img h => ?_, fun i img h => ?_, fun i j im jm hi hj hbb k1 k2 nr => ?_⟩, ⟨?_, fun x y d h => ?_, fun x y h => ?_, fun x y d h => ?_⟩, ?_, fun i hi => ?_⟩, hle', P, Rho.with_same _ _ _, ?_, fun j d hj => ?_⟩
  · by_cases e : i = w.size
    · subst e; rw [Rho.with_same] at h; cases h; exact ⟨by omega, hlt⟩
    · rw [Rho.with_ne _ _ e] at h; have := O.sat.dom i img h; exact ⟨by omega, this.2⟩
  · by_cases e : i = w.size
    · subst e; rw [Rho.with_same] at h; cases h
      obtain ⟨c⟩ := c
      exact ⟨_, by rw [hg, if_pos rfl], .inr ⟨_, hb, .row (hall.mono hle') (.inr rfl) rfl⟩⟩
    · rw [Rho.with_ne _ _ e] at h
      obtain ⟨oa, q1, q2⟩ := O.sat.obj i img h
      exact ⟨oa, by rw [hg, if_neg e]; exact q1, q2.imp id fun ⟨o2, q3, q4⟩ => ⟨o2, q3, q4.mono hle'⟩⟩
  · exfalso
    rcases (show i < w'.size by
      by_cases e : i = w.size
      · omega
      · rw [Rho.with_ne _ _ e] at hi; have := (O.sat.dom i im hi).1; omega) with hi2
    by_cases e : i = w.size
    · exact nr ⟨_, _, by rw [hg, if_pos e]⟩
    · rcases O.ro i (by omega) with h | ⟨c0, e0, h⟩
      · rw [hg, if_neg e] at k1; exact k1 h
      · exact nr ⟨c0, e0, by rw [hg, if_neg e]; exact h⟩
  · have := O.wt.low; omega
  · simp only at h
    split at h
    · rename_i e; subst e
      split at h
      · rename_i hoy
        obtain ⟨u, q1, q2⟩ := hat (y - o) d h
        refine ⟨u, ?_, q2.mono P⟩
        rw [show o + (y - o) = y by omega] at q1
        simp only [AW.cell]
        rw [hg, if_pos rfl]; exact q1
      · cases h
    · rename_i e
      obtain ⟨u, q1, q2⟩ := O.wt.cell x y d h
      refine ⟨u, ?_, q2.mono P⟩
      simp only [AW.cell] at q1 ⊢
      rw [hg, if_neg e]; exact q1
  · simp only at h
    split at h
    · rename_i e; subst e
      exact ⟨by omega, _, _, _, by rw [hg, if_pos rfl], by rw [lc]; exact h⟩
    · rename_i e
      obtain ⟨q1, c0, e0, k0, q2, q3⟩ := O.wt.live x y h
      exact ⟨by omega, c0, e0, k0, by rw [hg, if_neg e]; exact q2, q3⟩
  · simp only at h ⊢
    split at h
    · rename_i e
      split at h
      · have := (List.getElem?_eq_some_iff.1 h).1
        rw [if_pos e]; omega
      · cases h
    · rename_i e
      rw [if_neg e]; exact O.wt.lv x y d h
  · exact hle' _ _ O.g0
  · by_cases e : i = w.size
    · exact .inr ⟨_, _, by rw [hg, if_pos e]⟩
    · rcases O.ro i (by omega) with h | ⟨c0, e0, h⟩
      · exact .inl (by rw [hg, if_neg e]; exact h)
      · exact .inr ⟨c0, e0, by rw [hg, if_neg e]; exact h⟩
  · show (if w.size = w.size then _ else _)
    rw [if_pos rfl]; exact hle
  · show (if w.size = w.size then _ else _) = _
    rw [if_pos rfl, if_pos (by omega), Nat.add_sub_cancel_left]; exact hj

/-- Cells of the world that some cells of one's own bear. -/
def Ex (W : World) (cs : List Value) (ds : List Dt) : Prop :=
  ∀ ρ w Ψ, Op W ρ w Ψ → ∃ ρ' w' Ψ' us, Op W ρ' w' Ψ' ∧ Le ρ ρ' ∧ PLe Ψ Ψ' ∧ VRs ρ' us cs ∧ Dens Ψ' us ds

section
variable {W : World}
theorem Ex.nil : Ex W [] [] := fun ρ w Ψ O => ⟨ρ, w, Ψ, [], O, Le.refl _, PLe.refl _, .nil, .nil⟩
theorem Ex.app {c1 c2 : List Value} {d1 d2 : List Dt} (h1 : Ex W c1 d1) (h2 : Ex W c2 d2) : Ex W (c1 ++ c2) (d1 ++ d2) := fun ρ w Ψ O => by
  obtain ⟨ρ1, w1, Ψ1, u1, O1, l1, p1, v1, n1⟩ := h1 ρ w Ψ O
  obtain ⟨ρ2, w2, Ψ2, u2, O2, l2, p2, v2, n2⟩ := h2 ρ1 w1 Ψ1 O1
  exact ⟨ρ2, w2, Ψ2, u1 ++ u2, O2, l1.trans l2, p1.trans p2, (v1.mono l2).append v2, (n1.mono p2).app n2⟩
theorem Ex.int (k : IntKind) (n : Int) : Ex W [.int k n] [.v (.int k n)] := fun ρ w Ψ O => ⟨ρ, w, Ψ, [.int k n], O, Le.refl _, PLe.refl _, .cons (.int k n) .nil, .cons (Den.of_v rfl) .nil⟩
theorem Ex.str (s : ByteArray) : Ex W [.string s] [.v (.string s)] := fun ρ w Ψ O => ⟨ρ, w, Ψ, [.string s], O, Le.refl _, PLe.refl _, .cons (.string s) .nil, .cons (Den.of_v rfl) .nil⟩
theorem Ex.any (v : Value) (h : v.oneCell' = true) : Ex W [v] [.any] := fun ρ w Ψ O => by
  obtain ⟨u, hu⟩ : ∃ u, VR ρ u v ∧ oneC u = true := by
    cases v with
    | bool b => exact ⟨_, .bool b, rfl⟩
    | agg xs => cases h
    | tuple xs => cases h
    | _ => exact ⟨.chan none, .poison _ ⟨rfl, fun b hb => by cases hb⟩, rfl⟩
  exact ⟨ρ, w, Ψ, [u], O, Le.refl _, PLe.refl _, .cons hu.1 .nil, .cons (Den.of_any hu.2) .nil⟩
theorem Ex.nils : Ex W [.slice none 0 0] [.l 0 []] := fun ρ w Ψ O => ⟨ρ, w, Ψ, [.slice none 0 0], O, Le.refl _, PLe.refl _, .cons (.nilslice 0 0) .nil, .cons ⟨rfl, rfl, rfl⟩ .nil⟩
theorem Ex.wild {b : Nat} {c : Array Value} {t : TypeId} {fz : Nat × Nat} (hb : W.heap[b]? = some (.cells c t fz)) (a : Addr) : Ex W [.slice (some a) 0 0] [.l 0 []] := fun ρ w Ψ O => by
  obtain ⟨ρ', w', Ψ', n, O', l, p, hn, hl, _⟩ := O.row hb 0 (us := []) (ds := []) .nil (Nat.zero_le _) .nil
  exact ⟨ρ', w', Ψ', [.slice (some ⟨n, 0, none⟩) 0 0], O', l, p, .cons (.wild hn a) .nil, .cons (Den.slice hl (fun j d hj => by simp at hj)) .nil⟩
theorem Ex.slice {b o n cap : Nat} {c : Array Value} {t : TypeId} {fz : Nat × Nat} {ds : List Dt} (hb : W.heap[b]? = some (.cells c t fz)) (hle : o + ds.length ≤ c.size) (h : Ex W ((c.toList.drop o).take ds.length) ds) :
    Ex W [.slice (some ⟨b, o, none⟩) n cap] [.l n ds] := fun ρ w Ψ O => by
  obtain ⟨ρ1, w1, Ψ1, u1, O1, l1, p1, v1, n1⟩ := h ρ w Ψ O
  obtain ⟨ρ', w', Ψ', m, O', l, p, hn, hl, ha⟩ := O1.row hb o v1 hle n1
  exact ⟨ρ', w', Ψ', [.slice (some ⟨m, o, none⟩) n cap], O', l1.trans l, p1.trans p, .cons (.slice hn rfl) .nil, .cons (Den.slice hl ha) .nil⟩
theorem Ex.row {α : Type} {f : α → List Dt} {sz : Nat} (hf : ∀ x, (f x).length = sz) (L : List Value) : ∀ (xs : List α) (o : Nat), (∀ i x, xs[i]? = some x → Ex W ((L.drop (o + i * sz)).take sz) (f x)) →
    Ex W ((L.drop o).take (xs.flatMap f).length) (xs.flatMap f)
  | [], o, _ => by simpa using Ex.nil
  | x :: xs, o, h => by
    have h0 := h 0 x rfl
    have ih := Ex.row hf L xs (o + sz) (fun i y hi => by have := h (i + 1) y (by simpa using hi); rwa [show o + (i + 1) * sz = o + sz + i * sz by rw [Nat.succ_mul]; omega] at this)
    have := h0.app ih
    rw [List.flatMap_cons, List.length_append, hf, List.take_add, List.drop_drop]
    simpa using this
end

/- what the world's data read as -/
section
variable {H : Type} {enc : TypeId × Value → H} {W : World}
theorem cell_row {a : Addr} {v : Value} (h : W.cell? a = some v) : ∃ c t fz, W.heap[a.block]? = some (.cells c t fz) ∧ a.spot = none ∧ c[a.off]? = some v := by
  unfold World.cell? at h
  split at h
  · rename_i c t fz hb
    split at h
    · cases h
    · rename_i hs
      refine ⟨c, t, fz, hb, ?_, h⟩
      cases hsp : a.spot with
      | none => rfl
      | some x => rw [hsp] at hs; simp at hs
  · cases h

/-- The reading, with what it weighs. -/
def Tells (enc : TypeId × Value → H) (W : World) (fuel : Nat) (T : TypeId) (cs : List Value) : Prop :=
  ∃ y, DataW.trod enc Tryz.prog W 0 (fun _ => true) true fuel T cs = some y ∧ ∀ n ∈ y.1.weights Tryz.prog T, n ≤ reachBytes

theorem weights_all {e : TypeId} : ∀ {l : List (DataW H)} {d : DataW H}, d ∈ l → ∀ n ∈ d.weights Tryz.prog e, n ∈ DataW.weightsAll Tryz.prog e l
  | x :: l, d, h, n, hn => by
    simp only [DataW.weightsAll, List.mem_append]
    rcases List.mem_cons.1 h with rfl | h
    · exact .inl hn
    · exact .inr (weights_all h n hn)

theorem Tells.slice {T e sz fuel : Nat} (hu : Tryz.prog.underlying T = some (.slice e)) (hsz : Tryz.prog.cellsOf e = sz) (hp : 0 < sz) (hb : 0 < Tryz.prog.bytesOf e) {cs : List Value} (h : Tells enc W fuel T cs) :
    cs = [.slice none 0 0] ∨ (∃ a, cs = [.slice (some a) 0 0]) ∨
    ∃ b o len cap c t fz k, fuel = k + 1 ∧ cs = [.slice (some ⟨b, o, none⟩) len cap] ∧ W.heap[b]? = some (.cells c t fz) ∧ o + len * sz ≤ c.size ∧ len ≤ 140737488355328 ∧
      ∀ i, i < len → Tells enc W k e ((c.toList.drop (o + i * sz)).take sz) := by
  obtain ⟨y, h, hw⟩ := h
  rcases DataW.trod_slice hu h with ⟨e4, _⟩ | ⟨a, len, cap, elems, rest, k, rfl, e4, hy, _, hle, hcap, hel, hi, hrest, _⟩
  · exact .inl e4
  · subst hy
    have hws : ∀ n ∈ (elems.length + rest.length) * Tryz.prog.bytesOf e :: (DataW.weightsAll Tryz.prog e (elems.map (·.1)) ++ DataW.weightsAll Tryz.prog e (rest.map (·.1))), n ≤ reachBytes := by
      simpa [DataW.weights, hu] using hw
    have hlen : len ≤ 140737488355328 := by
      have h1 := hws _ (List.mem_cons_self)
      have h2 : (elems.length + rest.length) * 1 ≤ (elems.length + rest.length) * Tryz.prog.bytesOf e := Nat.mul_le_mul_left _ hb
      have h3 : reachBytes = 140737488351232 := rfl
      omega
    have rd : ∀ i, i < len → ∃ cs', W.cells? 0 (a.add (i * sz)) sz = some cs' ∧ Tells enc W k e cs' := fun i hlt => by
      have hb := hi i hlt
      rw [List.getElem?_eq_getElem (by omega)] at hb
      obtain ⟨cs', hc, ht⟩ := Option.bind_eq_some_iff.1 hb
      rw [hsz] at hc
      refine ⟨cs', hc, _, ht, fun n hn => hws n ?_⟩
      refine List.mem_cons_of_mem _ (List.mem_append.2 (.inl (weights_all ?_ n hn)))
      exact List.mem_map.2 ⟨_, List.getElem_mem _, rfl⟩
    rcases Nat.eq_zero_or_pos len with h0 | h0
    · subst h0
      rcases Nat.eq_zero_or_pos cap with h1 | h1
      · subst h1; exact .inr (.inl ⟨a, e4⟩)
      · obtain ⟨hr1, hr2⟩ := hrest rfl
        have hb := hr2 0 (by omega)
        rw [List.getElem?_eq_getElem (by omega)] at hb
        obtain ⟨cs', hc, ht⟩ := Option.bind_eq_some_iff.1 hb
        obtain ⟨_, hs, hcell⟩ := World.cells?_some hc
        rw [hsz] at hs hcell
        have h0 := hcell 0 hp
        rw [List.getElem?_eq_getElem (by omega)] at h0
        obtain ⟨v0, h0⟩ : ∃ v, W.cell? a = some v := ⟨_, by simpa [Addr.add] using h0⟩
        obtain ⟨c, t, fz, q1, q2, q3⟩ := cell_row h0
        obtain ⟨b, o, sp⟩ := a
        simp only at q1 q2 q3
        subst q2
        refine .inr (.inr ⟨b, o, 0, cap, c, t, fz, k, rfl, e4, q1, ?_, hlen, fun i hi => absurd hi (Nat.not_lt_zero _)⟩)
        have := (Array.getElem?_eq_some_iff.1 q3).1
        omega
    · obtain ⟨cs0, hc0, _⟩ := rd 0 h0
      obtain ⟨_, hs0, hcell0⟩ := World.cells?_some hc0
      have h00 := hcell0 0 hp
      rw [List.getElem?_eq_getElem (by omega)] at h00
      obtain ⟨v0, h00⟩ : ∃ v, W.cell? a = some v := ⟨_, by simpa [Addr.add] using h00⟩
      obtain ⟨c, t, fz, q1, q2, q3⟩ := cell_row h00
      obtain ⟨b, o, sp⟩ := a
      simp only at q1 q2 q3
      subst q2
      have hcells : ∀ i, i < len → ∀ k, k < sz → ∀ cs', W.cells? 0 ((⟨b, o, none⟩ : Addr).add (i * sz)) sz = some cs' → c[o + i * sz + k]? = cs'[k]? := fun i hlt k hk cs' hc => by
        obtain ⟨_, hs, hcell⟩ := World.cells?_some hc
        have := hcell k hk
        rw [Addr_add, Addr_add] at this
        unfold World.cell? at this
        simp only [q1, Option.isSome_none, Bool.false_eq_true, if_false] at this
        exact this
      have hsize : o + len * sz ≤ c.size := by
        obtain ⟨cs', hc, _⟩ := rd (len - 1) (by omega)
        obtain ⟨_, hs, _⟩ := World.cells?_some hc
        have := hcells (len - 1) (by omega) (sz - 1) (by omega) cs' hc
        rw [List.getElem?_eq_getElem (by omega)] at this
        have := (Array.getElem?_eq_some_iff.1 this).1
        have e : (len - 1) * sz + sz = len * sz := by rw [← Nat.succ_mul]; congr 1; omega
        omega
      refine .inr (.inr ⟨b, o, len, cap, c, t, fz, k, rfl, e4, q1, hsize, hlen, fun i hlt => ?_⟩)
      obtain ⟨cs', hc, hr⟩ := rd i hlt
      obtain ⟨_, hs, _⟩ := World.cells?_some hc
      have : (c.toList.drop (o + i * sz)).take sz = cs' := by
        apply List.ext_getElem?
        intro k
        by_cases hk : k < sz
        · rw [List.getElem?_take_of_lt hk, List.getElem?_drop, Array.getElem?_toList, hcells i hlt k hk cs' hc]
        · rw [List.getElem?_eq_none (by simp; omega), List.getElem?_eq_none (by omega)]
      rw [this]; exact hr

/-- All that reads so (with fuel below a bound) says something good, and cells of one's own bear it. -/
def Opens (enc : TypeId × Value → H) (W : World) (N : Nat) (T : TypeId) {α : Type} (f : α → List Dt) (good : α → Prop) : Prop :=
  ∀ fuel, fuel ≤ N → ∀ cs, Tells enc W fuel T cs → ∃ x : α, good x ∧ Ex W cs (f x)

theorem Opens.mono {N M : Nat} {T : TypeId} {α : Type} {f : α → List Dt} {good : α → Prop} (h : Opens enc W N T f good) (hm : M ≤ N) : Opens enc W M T f good := fun fuel hf cs hr => h fuel (Nat.le_trans hf hm) cs hr

theorem fl_len {α : Type} {f : α → List Dt} {sz : Nat} (hf : ∀ x, (f x).length = sz) : ∀ l : List α, (l.flatMap f).length = l.length * sz
  | [] => by simp
  | x :: l => by rw [List.flatMap_cons, List.length_append, hf, fl_len hf l, List.length_cons, Nat.succ_mul]; omega

theorem Opens.slice {N T e sz : Nat} {α : Type} {f : α → List Dt} {good : α → Prop} (hcb : ∃ (b : Nat) (c : Array Value) (t : TypeId) (fz : Nat × Nat), W.heap[b]? = some (Obj.cells c t fz)) (hu : Tryz.prog.underlying T = some (.slice e)) (hsz : Tryz.prog.cellsOf e = sz) (hp : 0 < sz) (hb : 0 < Tryz.prog.bytesOf e)
    (hf : ∀ x, (f x).length = sz) (h : Opens enc W N e f good) : Opens enc W (N + 1) T (fun l : List α => [lst f l]) (fun l => l.length ≤ 140737488355328 ∧ ∀ x ∈ l, good x) := by
  intro fuel hle cs hr
  rcases hr.slice hu hsz hp hb with rfl | ⟨a, rfl⟩ | ⟨b, o, len, cap, c, t, fz, k, rfl, rfl, hbk, hsize, hlen, hel⟩
  · exact ⟨[], ⟨Nat.zero_le _, fun x hx => nomatch hx⟩, Ex.nils⟩
  · obtain ⟨b, c, t, fz, hbk⟩ := hcb
    exact ⟨[], ⟨Nat.zero_le _, fun x hx => nomatch hx⟩, Ex.wild hbk a⟩
  · have key : ∀ m, m ≤ len → ∃ xs : List α, xs.length = m ∧ (∀ x ∈ xs, good x) ∧ ∀ i x, xs[i]? = some x → Ex W ((c.toList.drop (o + i * sz)).take sz) (f x) := by
      intro m
      induction m with
      | zero => intro _; exact ⟨[], rfl, (fun x hx => nomatch hx), (fun i x hi => by simp at hi)⟩
      | succ m ih =>
        intro hm
        obtain ⟨xs, h1, h2, h3⟩ := ih (by omega)
        obtain ⟨x, g, ex⟩ := h k (by omega) _ (hel m (by omega))
        refine ⟨xs ++ [x], by simp [h1], fun z hz => ?_, fun i z hi => ?_⟩
        · rcases List.mem_append.1 hz with hz | hz
          · exact h2 z hz
          · rw [List.mem_singleton.1 hz]; exact g
        · rcases Nat.lt_or_ge i xs.length with hlt | hge
          · rw [List.getElem?_append_left hlt] at hi; exact h3 i z hi
          · rw [List.getElem?_append_right hge] at hi
            have hi0 : i - xs.length = 0 := by
              have := (List.getElem?_eq_some_iff.1 hi).1
              simp at this; omega
            rw [hi0] at hi
            simp at hi; subst hi
            have : i = m := by omega
            subst this; exact ex
    obtain ⟨xs, h1, h2, h3⟩ := key len (Nat.le_refl _)
    refine ⟨xs, ⟨by rw [h1]; exact hlen, h2⟩, ?_⟩
    have hl := fl_len hf xs
    rw [h1] at hl
    have := Ex.slice (n := len) (cap := cap) hbk (by rw [hl]; exact hsize) (Ex.row hf c.toList xs o h3)
    show Ex W _ [.l xs.length _]
    rw [h1]; exact this
end


theorem Ex.cons {W : World} {u : Value} {d : Dt} {us : List Value} {ds : List Dt} (h : Ex W [u] [d]) (k : Ex W us ds) : Ex W (u :: us) (d :: ds) := h.app k

theorem ce2 : Tryz.prog.cellsOf 2 = 1 := by kernel_rfl
theorem ce3 : Tryz.prog.cellsOf 3 = 1 := by kernel_rfl
theorem ce4 : Tryz.prog.cellsOf 4 = 1 := by kernel_rfl
theorem ce9 : Tryz.prog.cellsOf 9 = 1 := by kernel_rfl
theorem ce22 : Tryz.prog.cellsOf 22 = 1 := by kernel_rfl
theorem ce23 : Tryz.prog.cellsOf 23 = 1 := by kernel_rfl
theorem ce25 : Tryz.prog.cellsOf 25 = 3 := by kernel_rfl
theorem ce26 : Tryz.prog.cellsOf 26 = 1 := by kernel_rfl
theorem ce29 : Tryz.prog.cellsOf 29 = 1 := by kernel_rfl
theorem ce31 : Tryz.prog.cellsOf 31 = 1 := by kernel_rfl
theorem ce33 : Tryz.prog.cellsOf 33 = 3 := by kernel_rfl
theorem ce41 : Tryz.prog.cellsOf 41 = 2 := by kernel_rfl
theorem ce52 : Tryz.prog.cellsOf 52 = 3 := by kernel_rfl
theorem ce62 : Tryz.prog.cellsOf 62 = 1 := by kernel_rfl
theorem ce64 : Tryz.prog.cellsOf 64 = 2 := by kernel_rfl
theorem ce66 : Tryz.prog.cellsOf 66 = 4 := by kernel_rfl
theorem ce71 : Tryz.prog.cellsOf 71 = 2 := by kernel_rfl
theorem ce102 : Tryz.prog.cellsOf 102 = 1 := by kernel_rfl
theorem ce113 : Tryz.prog.cellsOf 113 = 10 := by kernel_rfl
theorem ce119 : Tryz.prog.cellsOf 119 = 1 := by kernel_rfl
theorem ce121 : Tryz.prog.cellsOf 121 = 2 := by kernel_rfl
theorem ce123 : Tryz.prog.cellsOf 123 = 11 := by kernel_rfl
theorem by31 : 0 < Tryz.prog.bytesOf 31 := of_decide_eq_true (by kernel_rfl)
theorem by33 : 0 < Tryz.prog.bytesOf 33 := of_decide_eq_true (by kernel_rfl)
theorem by52 : 0 < Tryz.prog.bytesOf 52 := of_decide_eq_true (by kernel_rfl)
theorem by64 : 0 < Tryz.prog.bytesOf 64 := of_decide_eq_true (by kernel_rfl)
theorem by66 : 0 < Tryz.prog.bytesOf 66 := of_decide_eq_true (by kernel_rfl)
theorem by71 : 0 < Tryz.prog.bytesOf 71 := of_decide_eq_true (by kernel_rfl)
theorem by121 : 0 < Tryz.prog.bytesOf 121 := of_decide_eq_true (by kernel_rfl)
theorem by123 : 0 < Tryz.prog.bytesOf 123 := of_decide_eq_true (by kernel_rfl)

section
variable {H : Type} {enc : TypeId × Value → H} {W : World}
theorem Tells.struct {T fuel : Nat} {fs : Array Field} (hu : Tryz.prog.underlying T = some (.struct fs)) {cs : List Value} (h : Tells enc W fuel T cs) :
    ∃ k, fuel = k + 1 ∧ cs.length = Tryz.prog.cellsOf T ∧ ∀ (i : Nat) (f : Field), fs[i]? = some f → Tells enc W k f.type ((cs.drop f.offset).take (Tryz.prog.cellsOf f.type)) := by
  obtain ⟨y, h, hw⟩ := h
  obtain ⟨xs, k, rfl, rfl, hl, hn, hf⟩ := DataW.trod_struct hu h
  refine ⟨k, rfl, hl, fun i f hi => ?_⟩
  have hlt : i < xs.length := by rw [hn]; exact (Array.getElem?_eq_some_iff.1 hi).1
  have h1 := hf i f hi
  rw [List.getElem?_eq_getElem hlt] at h1
  refine ⟨_, h1, fun n hm => hw n ?_⟩
  have : DataW.weights Tryz.prog T (.agg (xs.map (·.1))) = DataW.weightsEach Tryz.prog (fs.toList.map (·.type)) (xs.map (·.1)) := by simp only [DataW.weights, hu]
  show n ∈ DataW.weights Tryz.prog T (.agg (xs.map (·.1)))
  rw [this]
  exact DataW.weights_mem_each (j := i) (t := f.type) (d := xs[i].1) (by simp [hi]) (by simp [hlt]) n hm

theorem Tells.int {T fuel : Nat} {k : IntKind} (hu : Tryz.prog.underlying T = some (.int k)) {cs : List Value} (h : Tells enc W fuel T cs) : ∃ n, cs = [.int k n] := by
  obtain ⟨y, h, _⟩ := h
  obtain ⟨n, e, _⟩ := DataW.trod_int hu h
  exact ⟨n, e⟩
theorem Tells.str {T fuel : Nat} (hu : Tryz.prog.underlying T = some .string) {cs : List Value} (h : Tells enc W fuel T cs) : ∃ s : ByteArray, cs = [.string s] ∧ s.size ≤ 140737488355328 := by
  obtain ⟨y, h, hw⟩ := h
  obtain ⟨s, e, rfl, _⟩ := DataW.trod_string hu h
  refine ⟨s, e, ?_⟩
  have := hw s.data.toList.length (by simp [DataW.weights])
  have h3 : reachBytes = 140737488351232 := rfl
  rw [h3] at this
  have h4 : s.data.toList.length = s.size := Array.length_toList
  omega

theorem open52 (N : Nat) : Opens enc W N 52 encV (fun v => v.text.size ≤ 140737488355328) := by
  intro fuel _ cs hr
  obtain ⟨k, rfl, hl, hf⟩ := hr.struct Tryz.underlying52
  have h0 : Tells enc W k 3 (List.take (Tryz.prog.cellsOf 3) (List.drop 0 cs)) := hf 0 _ rfl
  have h1 : Tells enc W k 2 (List.take (Tryz.prog.cellsOf 2) (List.drop 1 cs)) := hf 1 _ rfl
  have h2 : Tells enc W k 9 (List.take (Tryz.prog.cellsOf 9) (List.drop 2 cs)) := hf 2 _ rfl
  rw [ce3] at h0; rw [ce2] at h1; rw [ce9] at h2; rw [ce52] at hl
  match cs, hl with
  | [c0, c1, c2], _ =>
    obtain ⟨a, e0⟩ := h0.int Tryz.underlying3
    obtain ⟨b, e1⟩ := h1.int Tryz.underlying2
    obtain ⟨s, e2, hs⟩ := h2.str Tryz.underlying9
    simp only [List.drop_zero, List.drop_succ_cons, List.take_succ_cons, List.take_zero, List.cons.injEq, and_true] at e0 e1 e2
    subst e0 e1 e2
    exact ⟨⟨a, b, s⟩, hs, (Ex.int _ _).cons ((Ex.int _ _).cons (Ex.str _))⟩
theorem open71 (N : Nat) : Opens enc W N 71 encC (fun _ => True) := by
  intro fuel _ cs hr
  obtain ⟨k, rfl, hl, hf⟩ := hr.struct Tryz.underlying71
  have h0 : Tells enc W k 9 (List.take (Tryz.prog.cellsOf 9) (List.drop 0 cs)) := hf 0 _ rfl
  have h1 : Tells enc W k 3 (List.take (Tryz.prog.cellsOf 3) (List.drop 1 cs)) := hf 1 _ rfl
  rw [ce9] at h0; rw [ce3] at h1; rw [ce71] at hl
  match cs, hl with
  | [c0, c1], _ =>
    obtain ⟨s, e0, hs⟩ := h0.str Tryz.underlying9
    obtain ⟨b, e1⟩ := h1.int Tryz.underlying3
    simp only [List.drop_zero, List.drop_succ_cons, List.take_succ_cons, List.take_zero, List.cons.injEq, and_true] at e0 e1
    subst e0 e1
    exact ⟨(s, b), trivial, (Ex.str _).cons (Ex.int _ _)⟩

section
variable {N : Nat} {α : Type} {e : α → Dt} {big : α → Prop} (hcb : ∃ (b : Nat) (c : Array Value) (t : TypeId) (fz : Nat × Nat), W.heap[b]? = some (Obj.cells c t fz))
include hcb
theorem open26 (N : Nat) : Opens enc W N 26 (fun l : List Val3 => [lst encV l]) (fun l => l.length ≤ 140737488355328 ∧ ∀ x ∈ l, x.text.size ≤ 140737488355328) :=
  ((open52 N).slice hcb Tryz.underlying26 ce52 (by decide) by52 (fun _ => rfl)).mono (Nat.le_succ _)
theorem open22 (N : Nat) : Opens enc W N 22 (fun l : List (ByteArray × Int) => [lst encC l]) (fun l => l.length ≤ 140737488355328 ∧ ∀ x ∈ l, True) :=
  ((open71 N).slice hcb Tryz.underlying22 ce71 (by decide) by71 (fun _ => rfl)).mono (Nat.le_succ _)
variable (HA : Opens enc W N 31 (enc1 e) big)
include HA
theorem open102 : Opens enc W N 102 (fun l : List α => [lst (enc1 e) l]) (fun l => l.length ≤ 140737488355328 ∧ ∀ x ∈ l, big x) :=
  (HA.slice hcb Tryz.underlying102 ce31 (by decide) by31 (fun _ => rfl)).mono (Nat.le_succ _)
omit hcb in
theorem open66 : Opens enc W N 66 (encI e) (fun p => big p.2 ∧ p.1.text.size ≤ 140737488355328) := by
  intro fuel hle cs hr
  obtain ⟨k, rfl, hl, hf⟩ := hr.struct Tryz.underlying66
  have h0 : Tells enc W k 52 (List.take (Tryz.prog.cellsOf 52) (List.drop 0 cs)) := hf 0 _ rfl
  have h1 : Tells enc W k 31 (List.take (Tryz.prog.cellsOf 31) (List.drop 3 cs)) := hf 1 _ rfl
  rw [ce52] at h0; rw [ce31] at h1; rw [ce66] at hl
  match cs, hl with
  | [c0, c1, c2, c3], _ =>
    obtain ⟨v, gv, xv⟩ := open52 k k (Nat.le_refl _) _ h0
    obtain ⟨a, ga, xa⟩ := HA k (by omega) _ h1
    exact ⟨(v, a), ⟨ga, gv⟩, xv.app xa⟩
theorem open62 : Opens enc W N 62 (fun l : List (Val3 × α) => [lst (encI e) l]) (fun l => l.length ≤ 140737488355328 ∧ ∀ p ∈ l, big p.2 ∧ p.1.text.size ≤ 140737488355328) :=
  ((open66 HA).slice hcb Tryz.underlying62 ce66 (by decide) by66 (fun _ => rfl)).mono (Nat.le_succ _)
theorem open123 : Opens enc W N 123 (encF e) (bgF big) := by
  intro fuel hle cs hr
  obtain ⟨k, rfl, hl, hf⟩ := hr.struct Tryz.underlying123
  have h0 : Tells enc W k 113 (List.take (Tryz.prog.cellsOf 113) (List.drop 0 cs)) := hf 0 _ rfl
  have h1 : Tells enc W k 3 (List.take (Tryz.prog.cellsOf 3) (List.drop 10 cs)) := hf 1 _ rfl
  rw [ce113] at h0; rw [ce3] at h1; rw [ce123] at hl
  match cs, hl with
  | [w0, w1, w2, w3, w4, w5, w6, w7, w8, w9, w10], _ =>
    obtain ⟨ex, e10⟩ := h1.int Tryz.underlying3
    obtain ⟨m, rfl, _, hg⟩ := h0.struct Tryz.underlying113
    have r0 : Tells enc W m 3 (List.take (Tryz.prog.cellsOf 3) (List.drop 0 [w0, w1, w2, w3, w4, w5, w6, w7, w8, w9])) := hg 0 _ rfl
    have r1 : Tells enc W m 41 (List.take (Tryz.prog.cellsOf 41) (List.drop 1 [w0, w1, w2, w3, w4, w5, w6, w7, w8, w9])) := hg 1 _ rfl
    have r2 : Tells enc W m 102 (List.take (Tryz.prog.cellsOf 102) (List.drop 3 [w0, w1, w2, w3, w4, w5, w6, w7, w8, w9])) := hg 2 _ rfl
    have r3 : Tells enc W m 3 (List.take (Tryz.prog.cellsOf 3) (List.drop 4 [w0, w1, w2, w3, w4, w5, w6, w7, w8, w9])) := hg 3 _ rfl
    have r4 : Tells enc W m 62 (List.take (Tryz.prog.cellsOf 62) (List.drop 5 [w0, w1, w2, w3, w4, w5, w6, w7, w8, w9])) := hg 4 _ rfl
    have r5 : Tells enc W m 3 (List.take (Tryz.prog.cellsOf 3) (List.drop 6 [w0, w1, w2, w3, w4, w5, w6, w7, w8, w9])) := hg 5 _ rfl
    have r6 : Tells enc W m 52 (List.take (Tryz.prog.cellsOf 52) (List.drop 7 [w0, w1, w2, w3, w4, w5, w6, w7, w8, w9])) := hg 6 _ rfl
    rw [ce3] at r0 r3 r5
    rw [ce41] at r1
    rw [ce102] at r2
    rw [ce62] at r4
    rw [ce52] at r6
    obtain ⟨kd, ek⟩ := r0.int Tryz.underlying3
    obtain ⟨q, rfl, _, h4⟩ := r1.struct Tryz.underlying41
    have s0 : Tells enc W q 3 (List.take (Tryz.prog.cellsOf 3) (List.drop 0 [w1, w2])) := h4 0 _ rfl
    have s1 : Tells enc W q 3 (List.take (Tryz.prog.cellsOf 3) (List.drop 1 [w1, w2])) := h4 1 _ rfl
    rw [ce3] at s0 s1
    obtain ⟨tb, et⟩ := s0.int Tryz.underlying3
    obtain ⟨sq, es⟩ := s1.int Tryz.underlying3
    obtain ⟨args, gargs, xargs⟩ := open102 hcb HA _ (by omega) _ r2
    obtain ⟨fn, ef⟩ := r3.int Tryz.underlying3
    obtain ⟨items, gitems, xitems⟩ := open62 hcb HA _ (by omega) _ r4
    obtain ⟨op, eo⟩ := r5.int Tryz.underlying3
    obtain ⟨bd, gbd, xbd⟩ := open52 _ _ (Nat.le_refl _) _ r6
    simp only [List.drop_zero, List.drop_succ_cons, List.take_succ_cons, List.take_zero, List.cons.injEq, and_true] at e10 ek et es ef eo
    subst e10 ek et es ef eo
    exact ⟨⟨kd, tb, sq, args, fn, items, op, bd, ex⟩, ⟨gargs.1, gitems.1, gbd, gargs.2, gitems.2⟩,
      (Ex.int _ _).cons ((Ex.int _ _).cons ((Ex.int _ _).cons (Ex.cons xargs ((Ex.int _ _).cons (Ex.cons xitems ((Ex.int _ _).cons (Ex.app (c1 := [w7, w8, w9]) (d1 := encV bd) xbd (Ex.int _ _))))))))⟩
theorem open119 : Opens enc W N 119 (fun l : List (Fac α) => [lst (encF e) l]) (fun l => l.length ≤ 140737488355328 ∧ ∀ x ∈ l, bgF big x) :=
  ((open123 hcb HA).slice hcb Tryz.underlying119 ce123 (by decide) by123 (fun _ => rfl)).mono (Nat.le_succ _)
theorem open121 : Opens enc W N 121 (encT e) (bgT big) := by
  intro fuel hle cs hr
  obtain ⟨k, rfl, hl, hf⟩ := hr.struct Tryz.underlying121
  have h0 : Tells enc W k 2 (List.take (Tryz.prog.cellsOf 2) (List.drop 0 cs)) := hf 0 _ rfl
  have h1 : Tells enc W k 119 (List.take (Tryz.prog.cellsOf 119) (List.drop 1 cs)) := hf 1 _ rfl
  rw [ce2] at h0; rw [ce119] at h1; rw [ce121] at hl
  match cs, hl with
  | [c0, c1], _ =>
    obtain ⟨co, e0⟩ := h0.int Tryz.underlying2
    obtain ⟨fs, gf, xf⟩ := open119 hcb HA k (by omega) _ h1
    simp only [List.drop_zero, List.drop_succ_cons, List.take_succ_cons, List.take_zero, List.cons.injEq, and_true] at e0
    subst e0
    exact ⟨⟨co, fs⟩, gf, (Ex.int _ _).cons xf⟩
theorem open31 : Opens enc W (N + 1) 31 (enc1 (encAnn e)) (bgD big) :=
  (open121 hcb HA).slice hcb Tryz.underlying31 ce121 (by decide) by121 (fun _ => rfl)
theorem open64 : Opens enc W N 64 (encSum e) (fun s => s.2.length ≤ 140737488355328 ∧ ∀ p ∈ s.2, big p.2) := by
  intro fuel hle cs hr
  obtain ⟨k, rfl, hl, hf⟩ := hr.struct Tryz.underlying64
  have h0 : Tells enc W k 3 (List.take (Tryz.prog.cellsOf 3) (List.drop 0 cs)) := hf 0 _ rfl
  have h1 : Tells enc W k 62 (List.take (Tryz.prog.cellsOf 62) (List.drop 1 cs)) := hf 1 _ rfl
  rw [ce3] at h0; rw [ce62] at h1; rw [ce64] at hl
  match cs, hl with
  | [c0, c1], _ =>
    obtain ⟨fn, e0⟩ := h0.int Tryz.underlying3
    obtain ⟨it, gi, xi⟩ := open62 hcb HA k (by omega) _ h1
    simp only [List.drop_zero, List.drop_succ_cons, List.take_succ_cons, List.take_zero, List.cons.injEq, and_true] at e0
    subst e0
    exact ⟨(fn, it), ⟨gi.1, fun p hp => (gi.2 p hp).1⟩, (Ex.int _ _).cons xi⟩
theorem open29 : Opens enc W N 29 (fun l : List (Int × List (Val3 × α)) => [lst (encSum e) l]) (fun l => l.length ≤ 140737488355328 ∧ ∀ s ∈ l, s.2.length ≤ 140737488355328 ∧ ∀ p ∈ s.2, big p.2) :=
  ((open64 hcb HA).slice hcb Tryz.underlying29 ce64 (by decide) by64 (fun _ => rfl)).mono (Nat.le_succ _)
theorem open33 : Opens enc W N 33 (encRow e) (bgRow big) := by
  intro fuel hle cs hr
  obtain ⟨k, rfl, hl, hf⟩ := hr.struct Tryz.underlying33
  have h0 : Tells enc W k 26 (List.take (Tryz.prog.cellsOf 26) (List.drop 0 cs)) := hf 0 _ rfl
  have h1 : Tells enc W k 29 (List.take (Tryz.prog.cellsOf 29) (List.drop 1 cs)) := hf 1 _ rfl
  have h2 : Tells enc W k 31 (List.take (Tryz.prog.cellsOf 31) (List.drop 2 cs)) := hf 2 _ rfl
  rw [ce26] at h0; rw [ce29] at h1; rw [ce31] at h2; rw [ce33] at hl
  match cs, hl with
  | [c0, c1, c2], _ =>
    obtain ⟨vs, gv, xv⟩ := open26 hcb k k (Nat.le_refl _) _ h0
    obtain ⟨ss, gs, xs⟩ := open29 hcb HA k (by omega) _ h1
    obtain ⟨a, ga, xa⟩ := HA k (by omega) _ h2
    exact ⟨⟨vs, ss, a⟩, ⟨Nat.lt_of_le_of_lt gv.1 (by decide), Nat.lt_of_le_of_lt gs.1 (by decide), ga, fun s hs => ⟨by have := (gs.2 s hs).1; omega, (gs.2 s hs).2⟩⟩, Ex.cons xv (Ex.cons xs xa)⟩
theorem open23 : Opens enc W N 23 (fun l : List (ARow α) => [lst (encRow e) l]) (fun l => l.length ≤ 140737488355328 ∧ ∀ x ∈ l, bgRow big x) :=
  ((open33 hcb HA).slice hcb Tryz.underlying23 ce33 (by decide) by33 (fun _ => rfl)).mono (Nat.le_succ _)
end

theorem openA (hcb : ∃ (b : Nat) (c : Array Value) (t : TypeId) (fz : Nat × Nat), W.heap[b]? = some (Obj.cells c t fz)) : ∀ n, Opens enc W n 31 (enc1 (encA n)) (bgA n)
  | 0 => fun fuel hf cs ⟨y, h, _⟩ => by
    obtain rfl : fuel = 0 := by omega
    simp [DataW.trod] at h
  | n + 1 => open31 hcb (openA hcb n)

/-- The law, whatever the world, for arguments that read as their types say. -/
theorem law_any (hcb : ∃ (b : Nat) (c : Array Value) (t : TypeId) (fz : Nat × Nat), W.heap[b]? = some (Obj.cells c t fz)) {c0 c1 v : Value} (ab : Bool) {k0 k1 k2 : Nat}
    (h0 : Tells enc W k0 22 [c0]) (h1 : Tells enc W k1 23 [c1]) (h2 : Tells enc W k2 26 [v]) :
    Calls Tryz.prog 3 #[.agg #[c0, c1, .bool ab], v] W fun e W' => e = .returned (.bool true) ∧ Below W.heap.size W W' := by
  obtain ⟨cols, gc, xc⟩ := open22 (enc := enc) hcb k0 k0 (Nat.le_refl _) _ h0
  obtain ⟨rows, gr, xr⟩ := open23 hcb (openA (enc := enc) hcb (k1 + 1)) k1 (Nat.le_succ _) _ h1
  obtain ⟨ys, _, xy⟩ := open26 (enc := enc) hcb k2 k2 (Nat.le_refl _) _ h2
  have hW : 0 < W.heap.size := by
    obtain ⟨b, c, t, fz, hb⟩ := hcb
    have := (Array.getElem?_eq_some_iff.1 hb).1
    omega
  obtain ⟨ρ0, w0, Ψ0, O0⟩ := Op.start W hW
  obtain ⟨ρ, w, Ψ, us, O, _, _, hv, hd⟩ := (xc.app (xr.app xy)) ρ0 w0 Ψ0 O0
  cases hv with
  | @cons u0 _ us _ v0 hv =>
  cases hv with
  | @cons u1 _ us _ v1 hv =>
  cases hv with
  | @cons u2 _ us _ v2 hv =>
  cases hv
  cases hd with
  | cons d0 hd =>
  cases hd with
  | cons d1 hd =>
  cases hd with
  | cons d2 hd =>
  obtain ⟨r, w', hT, hr, _⟩ := law_ok k1 cols rows ys (Nat.lt_of_le_of_lt gc.1 (by decide)) (Nat.lt_of_le_of_lt gr.1 (by decide)) gr.2 O.wt d0 d1 (show oneC (.bool ab) = true from rfl) d2
  subst hr
  refine (hT ρ W #[.agg #[c0, c1, .bool ab], v] O.sat (fun g hg => by simp at hg; subst hg; exact O.g0) (.cons (.agg (.cons v0 (.cons v1 (.cons (.bool ab) .nil)))) (.cons v2 .nil))).mono fun e W' ⟨ρ', v', h1, h2, h3, h4⟩ => ?_
  have := flat_eq h2 rfl
  subst this
  refine ⟨h1, h4.os, h4.tape, h4.output, h4.wsize, fun k hk => h4.frame k hk fun i img hi _ hl => .inl ?_⟩
  rcases O.ro i (O.sat.dom i img hi).1 with h | h
  · exact absurd h hl
  · exact h
end

end Go.Proofs.YtkjbbbjebidniaaGreatDoor
