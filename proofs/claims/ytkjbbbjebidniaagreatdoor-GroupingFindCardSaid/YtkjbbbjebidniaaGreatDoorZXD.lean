/- Find: copied, weighted. -/
import Derived.Test.YtkjbbbjebidniaaGreatDoorZXC
namespace Go.Proofs.YtkjbbbjebidniaaGreatDoor
open Go Go.RowKit
set_option linter.unusedSimpArgs false
set_option linter.unusedVariables false
set_option maxRecDepth 100000
set_option maxHeartbeats 4000000

/-- .. in a region whose order is drawn. -/
theorem putD_ok {t n : Nat} (hst : stOk Tryz.prog t n = true) {Ψ : Psi} {w : AW} (W : Wt Ψ w) {s0 b o m : Nat} (hs : Shape b m w) (hb : s0 ≤ b) (hb2 : b < w.size) (hlow : w.low ≤ s0) {v : Value} {l : List Value} (hv : v.cells.toList = l) (hl : l.length = n) (h1 : l.all oneC = true) (ho : o + n ≤ m)
    (hD : ∀ j u, l[j]? = some u → ∀ d, Ψ.at' b (o + j) = some d → Den Ψ u d) :
    ∃ w1, storeW Tryz.prog t (.pointer (some ⟨b, o, none⟩)) v w.rs = some (undef, w1) ∧ Wt Ψ (w1.lw w.low) ∧ GrS s0 w (w1.lw w.low) ∧ (w1.lw w.low).size = w.size ∧ (∀ j, j ≠ b → (w1.lw w.low).heap.get j = w.heap.get j) ∧ (w1.lw w.low).cells ⟨b, o, none⟩ n = some l := by
  obtain ⟨c, el, k, q1, q2, q3⟩ := hs
  obtain ⟨w1, s1, s2, s3, s4⟩ := storeW_ok hst (o := o) (w := w.rs) hv hl h1 q1 q2 (by omega)
  have hlen : (c.take o ++ l ++ c.drop (o + n)).length = m := by simp; omega
  have hw : w.rs.size = w.size := rfl
  have hL : (w1.lw w.low).low = w.low := by
    have hl1 : w1.low = b := by rw [s3, if_neg (by show ¬ w.size ≤ b; omega)]
    show (bif Nat.ble w.low w1.low then w.low else w1.low) = w.low
    rw [hl1, Nat.ble_eq_true_of_le (by omega)]; rfl
  refine ⟨w1, s1, (Wt.put (ds := []) W.rs s2 s3 q1 (by omega) (fun j => by rw [s4, hl]) hD).lw _, ⟨hL, Nat.le_of_eq s2.symm, fun i hi => (s4 i).trans (by rw [if_neg (by omega)]; rfl), ?_⟩, s2, fun j hj => (s4 j).trans (by rw [if_neg hj]; rfl), ?_⟩
  · rintro x nn hx ⟨c', el', k', p1, p2, p3⟩
    by_cases e : x = b
    · subst e
      rw [q1] at p1; cases p1
      exact ⟨_, _, _, (s4 _).trans (by rw [if_pos rfl]), q2, by omega⟩
    · exact ⟨c', el', k', (s4 _).trans (by rw [if_neg e]; exact p1), p2, p3⟩
  · have hg : (w1.lw w.low).heap.get b = some (.row (c.take o ++ l ++ c.drop (o + n)) el k) := (s4 b).trans (by rw [if_pos rfl])
    rw [cells_row hg o n (by omega)]
    congr 1
    rw [List.append_assoc, List.drop_append_of_le_length (by simp; omega), List.drop_of_length_le (by simp; omega), List.nil_append, List.take_append_of_le_length (by omega), List.take_of_length_le (by omega)]
theorem cell_same {w w1 : AW} {b o : Nat} (h : w1.heap.get b = w.heap.get b) {u : Value} (hc : w.cell ⟨b, o, none⟩ = some u) : w1.cell ⟨b, o, none⟩ = some u := by simp only [AW.cell, h]; exact hc
/-- One cell that is put. -/
theorem put1 {Ψ : Psi} {b o : Nat} {r : Value} {d : Dt} (ha : Ψ.at' b o = some d) (hr : Den Ψ r d) : ∀ (j : Nat) (u : Value), ([r] : List Value)[j]? = some u → ∀ d, Ψ.at' b (o + j) = some d → Den Ψ u d := by
  intro j u hj d' hd'
  cases j with
  | zero => simp at hj; subst hj; rw [Nat.add_zero, ha] at hd'; cases hd'; exact hr
  | succ j => simp at hj

section
variable {α : Type}
/-- A copy that says the same. -/
def CopyOk (f : FuncId) (ok : α → Prop) (enc : α → Dt) : Prop := ∀ a, ok a → ∀ {Ψ : Psi} {w : AW} {u : Value}, Wt Ψ w → Den Ψ u (enc a) → CallP f [u] w (fun r w' => Gr w w' ∧ ∃ Ψ', PLe Ψ Ψ' ∧ Wt Ψ' w' ∧ Den Ψ' r (enc a))
variable {enc : α → Dt} {ok : α → Prop}
def encAt (e : α → Dt) (f : Fac α) : List Dt := [vI f.kind, vI f.tb, vI f.sq, lst (enc1 e) f.args, vI f.fn, lst (encI e) f.items, vI f.op, vI f.bound.kind, vI f.bound.int, vS f.bound.text]
theorem Dens.vI {Ψ : Psi} {us : List Value} {ds : List Dt} (n : Int) (h : Dens Ψ us ds) : Dens Ψ (.int .i64 n :: us) (vI n :: ds) := .cons (Den.of_v rfl) h
theorem Dens.vS {Ψ : Psi} {us : List Value} {ds : List Dt} (s : ByteArray) (h : Dens Ψ us ds) : Dens Ψ (.string s :: us) (vS s :: ds) := .cons (Den.of_v rfl) h
theorem dens_At {Ψ : Psi} {f : Fac α} {v x : Value} (hv : Den Ψ v (lst (enc1 enc) f.args)) (hx : Den Ψ x (lst (encI enc) f.items)) : Dens Ψ (atomL f v x) (encAt enc f) :=
  .vI _ (.vI _ (.vI _ (.cons hv (.vI _ (.cons hx (.vI _ (.vI _ (.vI _ (.vS _ .nil)))))))))
theorem dens_At_inv {Ψ : Psi} {f : Fac α} {us : List Value} (h : Dens Ψ us (encAt enc f)) : ∃ v x, us = atomL f v x ∧ Den Ψ v (lst (enc1 enc) f.args) ∧ Den Ψ x (lst (encI enc) f.items) := by
  obtain ⟨_, rfl, q1⟩ := h.vI_inv
  obtain ⟨_, rfl, q2⟩ := q1.vI_inv
  obtain ⟨_, rfl, q3⟩ := q2.vI_inv
  obtain ⟨u, _, rfl, h1, q4⟩ := q3.cons_inv
  obtain ⟨_, rfl, q5⟩ := q4.vI_inv
  obtain ⟨v, _, rfl, h2, q6⟩ := q5.cons_inv
  obtain ⟨_, rfl, q7⟩ := q6.vI_inv
  obtain ⟨_, rfl, q8⟩ := q7.vI_inv
  obtain ⟨_, rfl, q9⟩ := q8.vI_inv
  obtain ⟨_, rfl, q10⟩ := q9.vS_inv
  rw [q10.nil_inv]; exact ⟨u, v, rfl, h1, h2⟩
theorem put_At {Ψ : Psi} {f : Fac α} {b o : Nat} {us : List Value} (hus : Dens Ψ us (encAt enc f)) (hat : ∀ j d, (encF enc f)[j]? = some d → Ψ.at' b (o + j) = some d) : ∀ (j : Nat) (u : Value), us[j]? = some u → ∀ d, Ψ.at' b (o + j) = some d → Den Ψ u d := by
  intro j u hj d hd
  have hlen : j < (encAt enc f).length := by rw [← hus.length]; exact (List.getElem?_eq_some_iff.1 hj).1
  obtain ⟨u', h1, h2⟩ := hus.get (List.getElem?_eq_getElem hlen)
  rw [hj] at h1; cases h1
  have h3 := hat j _ (show (encAt enc f ++ [vI f.exp])[j]? = some (encAt enc f)[j] by rw [List.getElem?_append_left hlen, List.getElem?_eq_getElem hlen])
  rw [h3] at hd; cases hd; exact h2

theorem weighted_ok (H : CopyOk 45 ok enc) (l : List (Val3 × α)) (hl : l.length ≤ 1000000) (hok : ∀ p ∈ l, ok p.2) {Ψ : Psi} {w : AW} {u : Value} (W : Wt Ψ w) (hu : Den Ψ u (lst (encI enc) l)) : CallP 47 [u] w (fun r w' => Gr w w' ∧ ∃ Ψ', PLe Ψ Ψ' ∧ Wt Ψ' w' ∧ Den Ψ' r (lst (encI enc) l)) := by
  obtain ⟨r1, w1, k1, g1, Ψ1, p1, W1, hd1, own1⟩ := clone_92 (F := encI enc) (fun _ => rfl) l hl W hu
  obtain ⟨ra, rc, rfl⟩ := hd1.len
  refine CallP.of (t := 2) (args := [u]) Tryz.func47 rfl rfl (by simp) (by show _ ≤ 23; simp) ?_
  have a0 : argsE [u] 0 = u := rfl
  refine TF.seq ?_
  refine TF.reg (call := oracle []) (by show 23 ≤ 1000000; decide) (by kernel_rfl) (oracle_ok _ (by simp)) ?_
  simp (maxSteps := 2000000) only [EVS, EVL, Nat.reduceEqDiff, Nat.reduceAdd, reduceIte, XE.then, XE.out, a0]
  refine TF.seq ?_
  refine TF.reg (call := oracle [(92, ⟨[u]⟩, w, .slice ra l.length rc, w1)]) (by show 23 ≤ 1000000; decide) (by kernel_rfl) (oracle_ok _ (by simpa using k1)) ?_
  simp (maxSteps := 2000000) only [EVS, EVL, Nat.reduceEqDiff, Nat.reduceAdd, reduceIte, XE.then, XE.out, a0]
  refine TF.seq ?_
  refine TF.seq ?_
  refine TF.reg (call := oracle []) (by show 23 ≤ 1000000; decide) (by kernel_rfl) (oracle_ok _ (by simp)) ?_
  simp (maxSteps := 2000000) only [EVS, EVL, Nat.reduceEqDiff, Nat.reduceAdd, reduceIte, XE.then, XE.out, a0]
  refine TF.block ?_
  generalize hw0 : w = w0 at *
  refine TF.loopH (fun e w => ∃ (i : Nat) (Ψi : Psi), i ≤ l.length ∧ e 0 = .slice ra l.length rc ∧ e 7 = .slice ra l.length rc ∧ e 8 = .int .i64 (l.length : Int) ∧ e 9 = .int .i64 (i : Int) ∧ PLe Ψ Ψi ∧ Wt Ψi w ∧ Den Ψi (.slice ra l.length rc) (lst (encI enc) l) ∧ GrS w0.size w1 w) (fun e w => l.length - natOf (e 9)) ?_ ?_
  · exact ⟨0, Ψ1, Nat.zero_le _, (by simp (maxSteps := 2000000) only [EVS, EVL, Nat.reduceEqDiff, Nat.reduceAdd, reduceIte, XE.then, XE.out, a0]), (by simp (maxSteps := 2000000) only [EVS, EVL, Nat.reduceEqDiff, Nat.reduceAdd, reduceIte, XE.then, XE.out, a0]), (by simp (maxSteps := 2000000) only [EVS, EVL, Nat.reduceEqDiff, Nat.reduceAdd, reduceIte, XE.then, XE.out, a0]), rfl, p1, W1, hd1, GrS.refl _ _⟩
  · rintro e w2 ⟨i, Ψi, hi1, h0, h7, h8, h9, pi, Wi, hdi, gi⟩
    have hlowA := W.low
    have s1 := g1.size
    have s2 := gi.size
    refine TF.seq ?_
    refine TF.reg (call := oracle []) (by show 23 ≤ 1000000; decide) (by kernel_rfl) (oracle_ok _ (by simp)) ?_
    simp (maxSteps := 2000000) only [EVS, EVL, Nat.reduceEqDiff, Nat.reduceAdd, reduceIte, XE.then, XE.out, h0, h7, h8, h9]
    refine TF.seq ?_
    by_cases hlt : i < l.length
    · have hc_hlt := hlt
      refine TF.cond (t := true) rfl (by simp (maxSteps := 2000000) only [EVS, EVL, Nat.reduceEqDiff, Nat.reduceAdd, reduceIte, XE.then, XE.out, h0, h7, h8, h9, hlt]) ?_
      simp (maxSteps := 2000000) only [EVS, EVL, Nat.reduceEqDiff, Nat.reduceAdd, reduceIte, XE.then, XE.out, h0, h7, h8, h9, hlt]
      refine TF.skip ?_
      simp (maxSteps := 2000000) only [EVS, EVL, Nat.reduceEqDiff, Nat.reduceAdd, reduceIte, XE.then, XE.out, h0, h7, h8, h9, hlt]
      refine TF.seq ?_
      refine TF.block ?_
      refine TF.seq ?_
      obtain ⟨b, eb, hb1, hb2, hsh⟩ := own1 (by omega)
      cases eb
      have hx1 : l[i]? = some l[i] := List.getElem?_eq_getElem hlt
      have hox := hok _ (List.getElem_mem hlt)
      generalize l[i] = x at *
      obtain ⟨ub, uo, uc', ua, e1, _, hub, hcx, hdx, hat⟩ := Wi.rdI hdi hx1
      cases e1
      simp only [Nat.zero_add] at hcx hat
      obtain ⟨w3, w4, b3, b4, g4, z4, r4⟩ := new_box al_66 st_66 w2 Wi.low [.int .i64 x.1.kind, .int .i64 x.1.int, .string x.1.text, ua] rfl (by have q5 := hdx.one; simp [oneI, oneS, q5])
      have f3 : w4.cell ⟨w2.size, 3, none⟩ = some ua := by rw [cell_at r4]; rfl
      refine TF.reg (call := oracle []) (by show 23 ≤ 1000000; decide) (by kernel_rfl) (oracle_ok _ (by simp)) ?_
      simp (maxSteps := 2000000) only [EVS, EVL, Nat.reduceEqDiff, Nat.reduceAdd, reduceIte, XE.then, XE.out, h0, h7, h8, h9, hlt, hcx, b3, b4]
      obtain ⟨r5, w5, k5, g5, Ψ5, p5, W5, hd5⟩ := H x.2 hox (Wi.gr g4) hdx
      have s5 := g5.size
      obtain ⟨w6, s6, W6, g6, z6, _, _⟩ := putS_ok st_31 W5 (s0 := w0.size) (((g4.trans g5).S (s0 := 0) (by omega)).shape _ _ (by omega) (gi.shape _ _ hb2 hsh)) (b := b) (o := i * 4 + 3) (by omega) (by omega) (by rw [(g4.trans g5).low, gi.low, g1.low]; exact hlowA) (v := r5) (l := [r5]) (flatten_one hd5.one) rfl (by simp [hd5.one]) (by have := Nat.mul_le_mul_right 4 (Nat.succ_le_of_lt hlt); omega) (put1 (p5.at' _ _ _ (hat 3 _ rfl)) hd5)
      refine TF.reg (call := oracle [(45, ⟨[ua]⟩, w4, r5, w5)]) (by show 23 ≤ 1000000; decide) (by kernel_rfl) (oracle_ok _ (by simpa using k5)) ?_
      simp (maxSteps := 2000000) only [EVS, EVL, Nat.reduceEqDiff, Nat.reduceAdd, reduceIte, XE.then, XE.out, h0, h7, h8, h9, hlt, f3, s6]
      refine TF.reg (call := oracle []) (by show 23 ≤ 1000000; decide) (by kernel_rfl) (oracle_ok _ (by simp)) ?_
      simp (maxSteps := 2000000) only [EVS, EVL, Nat.reduceEqDiff, Nat.reduceAdd, reduceIte, XE.then, XE.out, h0, h7, h8, h9, hlt, wr1 (show i < 4611686018427387904 by omega)]
      refine ⟨⟨i + 1, Ψ5, by omega, (by simp (maxSteps := 2000000) only [EVS, EVL, Nat.reduceEqDiff, Nat.reduceAdd, reduceIte, XE.then, XE.out, h0, h7, h8, h9, hlt, wr1 (show i < 4611686018427387904 by omega)]), (by simp (maxSteps := 2000000) only [EVS, EVL, Nat.reduceEqDiff, Nat.reduceAdd, reduceIte, XE.then, XE.out, h0, h7, h8, h9, hlt, wr1 (show i < 4611686018427387904 by omega)]), (by simp (maxSteps := 2000000) only [EVS, EVL, Nat.reduceEqDiff, Nat.reduceAdd, reduceIte, XE.then, XE.out, h0, h7, h8, h9, hlt, wr1 (show i < 4611686018427387904 by omega)]), (by simp (maxSteps := 2000000) only [EVS, EVL, Nat.reduceEqDiff, Nat.reduceAdd, reduceIte, XE.then, XE.out, h0, h7, h8, h9, hlt, wr1 (show i < 4611686018427387904 by omega)]), pi.trans p5, W6, hdi.mono p5, gi.trans (((g4.trans g5).S (by omega)).trans g6)⟩, ?_⟩
      simp only [EVS, h9, wr1 (show i < 4611686018427387904 by omega), Nat.reduceEqDiff, if_true, if_false, reduceIte]; omega
    · have hc_hlt := hlt
      refine TF.cond (t := false) rfl (by simp (maxSteps := 2000000) only [EVS, EVL, Nat.reduceEqDiff, Nat.reduceAdd, reduceIte, XE.then, XE.out, h0, h7, h8, h9, hlt]) ?_
      simp (maxSteps := 2000000) only [EVS, EVL, Nat.reduceEqDiff, Nat.reduceAdd, reduceIte, XE.then, XE.out, h0, h7, h8, h9, hlt]
      refine TF.exit ?_
      simp (maxSteps := 2000000) only [EVS, EVL, Nat.reduceEqDiff, Nat.reduceAdd, reduceIte, XE.then, XE.out, h0, h7, h8, h9, hlt]
      refine TF.seq ?_
      refine TF.reg (call := oracle []) (by show 23 ≤ 1000000; decide) (by kernel_rfl) (oracle_ok _ (by simp)) ?_
      simp (maxSteps := 2000000) only [EVS, EVL, Nat.reduceEqDiff, Nat.reduceAdd, reduceIte, XE.then, XE.out, h0, h7, h8, h9, hlt]
      refine TF.ret ?_
      try simp (maxSteps := 2000000) only [EVS, EVL, Nat.reduceEqDiff, Nat.reduceAdd, reduceIte, XE.then, XE.out, h0, h7, h8, h9, hlt]
      exact ⟨((g1.S (Nat.le_refl _)).trans gi).gr, Ψi, pi, Wi, hdi⟩

theorem copied_ok (H : CopyOk 45 ok enc) (d : List (Term α)) (hd : okD 1000000 ok d) {Ψ : Psi} {w : AW} {u : Value} (W : Wt Ψ w) (hu : Den Ψ u (encAnn enc d)) : CallP 45 [u] w (fun r w' => Gr w w' ∧ ∃ Ψ', PLe Ψ Ψ' ∧ Wt Ψ' w' ∧ Den Ψ' r (encAnn enc d)) := by
  obtain ⟨hdl, hdt⟩ := hd
  obtain ⟨r1, w1, k1, g1, Ψ1, p1, W1, hd1, own1⟩ := clone_89 (F := encT enc) (fun _ => rfl) d hdl W hu
  obtain ⟨ra, rc, rfl⟩ := hd1.len
  refine CallP.of (t := 2) (args := [u]) Tryz.func45 rfl rfl (by simp) (by show _ ≤ 74; simp) ?_
  have a0 : argsE [u] 0 = u := rfl
  refine TF.seq ?_
  refine TF.reg (call := oracle []) (by show 74 ≤ 1000000; decide) (by kernel_rfl) (oracle_ok _ (by simp)) ?_
  simp (maxSteps := 2000000) only [EVS, EVL, Nat.reduceEqDiff, Nat.reduceAdd, reduceIte, XE.then, XE.out, a0]
  refine TF.seq ?_
  refine TF.reg (call := oracle [(89, ⟨[u]⟩, w, .slice ra d.length rc, w1)]) (by show 74 ≤ 1000000; decide) (by kernel_rfl) (oracle_ok _ (by simpa using k1)) ?_
  simp (maxSteps := 2000000) only [EVS, EVL, Nat.reduceEqDiff, Nat.reduceAdd, reduceIte, XE.then, XE.out, a0]
  refine TF.seq ?_
  refine TF.seq ?_
  refine TF.reg (call := oracle []) (by show 74 ≤ 1000000; decide) (by kernel_rfl) (oracle_ok _ (by simp)) ?_
  simp (maxSteps := 2000000) only [EVS, EVL, Nat.reduceEqDiff, Nat.reduceAdd, reduceIte, XE.then, XE.out, a0]
  refine TF.block ?_
  generalize hw0 : w = w0 at *
  have hlowA := W.low
  refine TF.loopH (fun e w => ∃ (i : Nat) (Ψi : Psi), i ≤ d.length ∧ e 0 = .slice ra d.length rc ∧ e 12 = .slice ra d.length rc ∧ e 13 = .int .i64 (d.length : Int) ∧ e 14 = .int .i64 (i : Int) ∧ PLe Ψ Ψi ∧ Wt Ψi w ∧ Den Ψi (.slice ra d.length rc) (encAnn enc d) ∧ GrS w0.size w1 w) (fun e w => d.length - natOf (e 14)) ?_ ?_
  · exact ⟨0, Ψ1, Nat.zero_le _, (by simp (maxSteps := 2000000) only [EVS, EVL, Nat.reduceEqDiff, Nat.reduceAdd, reduceIte, XE.then, XE.out, a0]), (by simp (maxSteps := 2000000) only [EVS, EVL, Nat.reduceEqDiff, Nat.reduceAdd, reduceIte, XE.then, XE.out, a0]), (by simp (maxSteps := 2000000) only [EVS, EVL, Nat.reduceEqDiff, Nat.reduceAdd, reduceIte, XE.then, XE.out, a0]), rfl, p1, W1, hd1, GrS.refl _ _⟩
  · rintro e w2 ⟨i, Ψi, hi1, h0, h12, h13, h14, pi, Wi, hdi, gi⟩
    have s1 := g1.size
    have s2 := gi.size
    refine TF.seq ?_
    refine TF.reg (call := oracle []) (by show 74 ≤ 1000000; decide) (by kernel_rfl) (oracle_ok _ (by simp)) ?_
    simp (maxSteps := 2000000) only [EVS, EVL, Nat.reduceEqDiff, Nat.reduceAdd, reduceIte, XE.then, XE.out, h0, h12, h13, h14]
    refine TF.seq ?_
    by_cases hlt : i < d.length
    · have hc_hlt := hlt
      refine TF.cond (t := true) rfl (by simp (maxSteps := 2000000) only [EVS, EVL, Nat.reduceEqDiff, Nat.reduceAdd, reduceIte, XE.then, XE.out, h0, h12, h13, h14, hlt]) ?_
      simp (maxSteps := 2000000) only [EVS, EVL, Nat.reduceEqDiff, Nat.reduceAdd, reduceIte, XE.then, XE.out, h0, h12, h13, h14, hlt]
      refine TF.skip ?_
      simp (maxSteps := 2000000) only [EVS, EVL, Nat.reduceEqDiff, Nat.reduceAdd, reduceIte, XE.then, XE.out, h0, h12, h13, h14, hlt]
      refine TF.seq ?_
      refine TF.block ?_
      refine TF.seq ?_
      obtain ⟨b, eb, hb1, hb2, hsh⟩ := own1 (by omega)
      cases eb
      have hx1 : d[i]? = some d[i] := List.getElem?_eq_getElem hlt
      obtain ⟨hfl, hff⟩ := hdt _ (List.getElem_mem hlt)
      generalize d[i] = x at *
      obtain ⟨ub, uo, uc', fu, e1, _, hub, hcx, hdx, hat⟩ := Wi.rdT hdi hx1
      cases e1
      simp only [Nat.zero_add] at hcx hat
      obtain ⟨w3, w4, b3, b4, g4, z4, r4⟩ := new_box al_121 st_121 w2 Wi.low [.int .i64 x.coef, fu] rfl (by have q5 := hdx.one; simp [oneI, q5])
      have f1 : w4.cell ⟨w2.size, 1, none⟩ = some fu := by rw [cell_at r4]; rfl
      refine TF.reg (call := oracle []) (by show 74 ≤ 1000000; decide) (by kernel_rfl) (oracle_ok _ (by simp)) ?_
      simp (maxSteps := 2000000) only [EVS, EVL, Nat.reduceEqDiff, Nat.reduceAdd, reduceIte, XE.then, XE.out, h0, h12, h13, h14, hlt, hcx, b3, b4]
      refine TF.seq ?_
      obtain ⟨r5, w5, k5, g5, Ψ5, p5, W5, hd5, own5⟩ := clone_90 (F := encF enc) (fun _ => rfl) x.facs hfl (Wi.gr g4) hdx
      have s5 := g5.size
      obtain ⟨w6, s6, W6, g6, z6, _, cc6⟩ := putS_ok st_119 W5 (s0 := w0.size) (((g4.trans g5).S (s0 := 0) (by omega)).shape _ _ (by omega) (gi.shape _ _ hb2 hsh)) (b := b) (o := i * 2 + 1) (by omega) (by omega) (by rw [(g4.trans g5).low, gi.low, g1.low]; exact hlowA) (v := r5) (l := [r5]) (flatten_one hd5.one) rfl (by simp [hd5.one]) (by have := Nat.mul_le_mul_right 2 (Nat.succ_le_of_lt hlt); omega) (put1 (p5.at' _ _ _ (hat 1 _ rfl)) hd5)
      have g16 := gi.trans (((g4.trans g5).S (s0 := w0.size) (by omega)).trans g6)
      obtain ⟨fa, fc, rfl⟩ := hd5.len
      have c6 := cell_of0 cc6 rfl
      refine TF.reg (call := oracle [(90, ⟨[fu]⟩, w4, .slice fa x.facs.length fc, w5)]) (by show 74 ≤ 1000000; decide) (by kernel_rfl) (oracle_ok _ (by simpa using k5)) ?_
      simp (maxSteps := 2000000) only [EVS, EVL, Nat.reduceEqDiff, Nat.reduceAdd, reduceIte, XE.then, XE.out, h0, h12, h13, h14, hlt, f1, s6]
      refine TF.seq ?_
      refine TF.reg (call := oracle []) (by show 74 ≤ 1000000; decide) (by kernel_rfl) (oracle_ok _ (by simp)) ?_
      simp (maxSteps := 2000000) only [EVS, EVL, Nat.reduceEqDiff, Nat.reduceAdd, reduceIte, XE.then, XE.out, h0, h12, h13, h14, hlt, c6]
      refine TF.block ?_
      refine TF.loopH (fun e w => ∃ (j : Nat) (Ψj : Psi), j ≤ x.facs.length ∧ e 0 = .slice (some ⟨b, 0, none⟩) d.length d.length ∧ e 12 = .slice (some ⟨b, 0, none⟩) d.length d.length ∧ e 13 = .int .i64 (d.length : Int) ∧ e 14 = .int .i64 (i : Int) ∧ e 3 = .int .i64 (i : Int) ∧ e 30 = .slice fa x.facs.length fc ∧ e 31 = .int .i64 (x.facs.length : Int) ∧ e 32 = .int .i64 (j : Int) ∧ PLe Ψ5 Ψj ∧ Wt Ψj w ∧ Den Ψj (.slice fa x.facs.length fc) (lst (encF enc) x.facs) ∧ GrS w0.size w6 w ∧ w.cell ⟨b, i * 2 + 1, none⟩ = some (.slice fa x.facs.length fc)) (fun e w => x.facs.length - natOf (e 32)) ?_ ?_
      · exact ⟨0, Ψ5, Nat.zero_le _, (by simp (maxSteps := 2000000) only [EVS, EVL, Nat.reduceEqDiff, Nat.reduceAdd, reduceIte, XE.then, XE.out, h0, h12, h13, h14, hlt]), (by simp (maxSteps := 2000000) only [EVS, EVL, Nat.reduceEqDiff, Nat.reduceAdd, reduceIte, XE.then, XE.out, h0, h12, h13, h14, hlt]), (by simp (maxSteps := 2000000) only [EVS, EVL, Nat.reduceEqDiff, Nat.reduceAdd, reduceIte, XE.then, XE.out, h0, h12, h13, h14, hlt]), (by simp (maxSteps := 2000000) only [EVS, EVL, Nat.reduceEqDiff, Nat.reduceAdd, reduceIte, XE.then, XE.out, h0, h12, h13, h14, hlt]), (by simp (maxSteps := 2000000) only [EVS, EVL, Nat.reduceEqDiff, Nat.reduceAdd, reduceIte, XE.then, XE.out, h0, h12, h13, h14, hlt]), (by simp (maxSteps := 2000000) only [EVS, EVL, Nat.reduceEqDiff, Nat.reduceAdd, reduceIte, XE.then, XE.out, h0, h12, h13, h14, hlt]), (by simp (maxSteps := 2000000) only [EVS, EVL, Nat.reduceEqDiff, Nat.reduceAdd, reduceIte, XE.then, XE.out, h0, h12, h13, h14, hlt]), rfl, PLe.refl _, W6, hd5, GrS.refl _ _, c6⟩
      · rintro e w7 ⟨j, Ψj, hj1, h0, h12, h13, h14, h3, h30, h31, h32, pj, Wj, hdj, gj, cj⟩
        have s7 := gj.size
        refine TF.seq ?_
        refine TF.reg (call := oracle []) (by show 74 ≤ 1000000; decide) (by kernel_rfl) (oracle_ok _ (by simp)) ?_
        simp (maxSteps := 2000000) only [EVS, EVL, Nat.reduceEqDiff, Nat.reduceAdd, reduceIte, XE.then, XE.out, h0, h12, h13, h14, hlt, h3, h30, h31, h32]
        refine TF.seq ?_
        by_cases hlt2 : j < x.facs.length
        · have hc_hlt2 := hlt2
          refine TF.cond (t := true) rfl (by simp (maxSteps := 2000000) only [EVS, EVL, Nat.reduceEqDiff, Nat.reduceAdd, reduceIte, XE.then, XE.out, h0, h12, h13, h14, hlt, h3, h30, h31, h32, hlt2]) ?_
          simp (maxSteps := 2000000) only [EVS, EVL, Nat.reduceEqDiff, Nat.reduceAdd, reduceIte, XE.then, XE.out, h0, h12, h13, h14, hlt, h3, h30, h31, h32, hlt2]
          refine TF.skip ?_
          simp (maxSteps := 2000000) only [EVS, EVL, Nat.reduceEqDiff, Nat.reduceAdd, reduceIte, XE.then, XE.out, h0, h12, h13, h14, hlt, h3, h30, h31, h32, hlt2]
          refine TF.seq ?_
          refine TF.block ?_
          refine TF.seq ?_
          obtain ⟨fb, ef, hfb1, hfb2, hfsh⟩ := own5 (by omega)
          cases ef
          have hy1 : x.facs[j]? = some x.facs[j] := List.getElem?_eq_getElem hlt2
          obtain ⟨hal, hil, hao, hio⟩ := hff _ (List.getElem_mem hlt2)
          generalize x.facs[j] = y at *
          obtain ⟨ub, uo, uc', av, iv, e2, _, hub2, hcy, hda, hdi2, haty⟩ := Wj.rdF hdj hy1
          cases e2
          simp only [Nat.zero_add] at hcy haty
          obtain ⟨w8, w9, b8, b9, g9, z9, r9⟩ := new_box al_123 st_123 w7 Wj.low [.int .i64 y.kind, .int .i64 y.tb, .int .i64 y.sq, av, .int .i64 y.fn, iv, .int .i64 y.op, .int .i64 y.bound.kind, .int .i64 y.bound.int, .string y.bound.text, .int .i64 y.exp] rfl (by have q5 := hda.one; have q6 := hdi2.one; simp [oneI, oneS, q5, q6])
          have f9 := cells_row r9 0 10 (by show 10 ≤ 11; decide)
          change w9.cells _ 10 = some (atomL y av iv) at f9
          refine TF.reg (call := oracle []) (by show 74 ≤ 1000000; decide) (by kernel_rfl) (oracle_ok _ (by simp)) ?_
          simp (maxSteps := 2000000) only [EVS, EVL, Nat.reduceEqDiff, Nat.reduceAdd, reduceIte, XE.then, XE.out, h0, h12, h13, h14, hlt, h3, h30, h31, h32, hlt2, hcy, b8, b9]
          refine TF.seq ?_
          obtain ⟨wa, wb, ba, bb, gb, zb, Wb, pb, shb, cb⟩ := new_said al_113 st_113 (Wj.gr g9) (dens_At hda hdi2) rfl
          generalize hΨb : Ψj.add w9.size (encAt enc y) = Ψb at *
          have hatb : ∀ k d, (encAt enc y)[k]? = some d → Ψb.at' w9.size k = some d := fun k d hk => by rw [← hΨb, Psi.add_at]; exact hk
          have cb3 : wb.cell ⟨w9.size, 3, none⟩ = some av := by have := cell_of cb 3 rfl; rwa [Nat.zero_add] at this
          refine TF.reg (call := oracle []) (by show 74 ≤ 1000000; decide) (by kernel_rfl) (oracle_ok _ (by simp)) ?_
          simp (maxSteps := 2000000) only [EVS, EVL, Nat.reduceEqDiff, Nat.reduceAdd, reduceIte, XE.then, XE.out, h0, h12, h13, h14, hlt, h3, h30, h31, h32, hlt2, f9, ba, bb]
          refine TF.seq ?_
          obtain ⟨r10, wc, k10, g10, Ψ11, p11, W11, hd11, own11⟩ := clone_91 (F := enc1 enc) (fun _ => rfl) y.args hal Wb (hda.mono pb)
          have s10 := g10.size
          obtain ⟨w11, s11, W12, g11, z11, o11, cc11⟩ := putS_ok st_102 W11 (s0 := w0.size) (((g10).S (s0 := 0) (by omega)).shape _ _ (by omega) shb) (b := w9.size) (o := 3) (by omega) (by omega) (by rw [g10.low, gb.low, g9.low, gj.low, g16.low, g1.low]; exact hlowA) (v := r10) (l := [r10]) (flatten_one hd11.one) rfl (by simp [hd11.one]) (by omega) (put1 (p11.at' _ _ _ (hatb 3 _ rfl)) hd11)
          have g7c := ((g9.trans (gb.trans g10)).S (s0 := w0.size) (by omega)).trans g11
          obtain ⟨aa, ac, rfl⟩ := hd11.len
          have c11 := cell_of0 cc11 rfl
          have cj11 : w11.cell ⟨b, i * 2 + 1, none⟩ = some (.slice (some ⟨fb, 0, none⟩) x.facs.length x.facs.length) := cell_same (o11 b (by omega)) ((g9.trans (gb.trans g10)).cell' (by omega) cj)
          refine TF.reg (call := oracle [(91, ⟨[av]⟩, wb, .slice aa y.args.length ac, wc)]) (by show 74 ≤ 1000000; decide) (by kernel_rfl) (oracle_ok _ (by simpa using k10)) ?_
          simp (maxSteps := 2000000) only [EVS, EVL, Nat.reduceEqDiff, Nat.reduceAdd, reduceIte, XE.then, XE.out, h0, h12, h13, h14, hlt, h3, h30, h31, h32, hlt2, cb3, s11]
          refine TF.seq ?_
          refine TF.seq ?_
          refine TF.reg (call := oracle []) (by show 74 ≤ 1000000; decide) (by kernel_rfl) (oracle_ok _ (by simp)) ?_
          simp (maxSteps := 2000000) only [EVS, EVL, Nat.reduceEqDiff, Nat.reduceAdd, reduceIte, XE.then, XE.out, h0, h12, h13, h14, hlt, h3, h30, h31, h32, hlt2, c11]
          refine TF.block ?_
          refine TF.loopH (fun e w => ∃ (q : Nat) (Ψq : Psi), q ≤ y.args.length ∧ e 0 = .slice (some ⟨b, 0, none⟩) d.length d.length ∧ e 12 = .slice (some ⟨b, 0, none⟩) d.length d.length ∧ e 13 = .int .i64 (d.length : Int) ∧ e 14 = .int .i64 (i : Int) ∧ e 3 = .int .i64 (i : Int) ∧ e 30 = .slice (some ⟨fb, 0, none⟩) x.facs.length x.facs.length ∧ e 31 = .int .i64 (x.facs.length : Int) ∧ e 32 = .int .i64 (j : Int) ∧ e 5 = .int .i64 (j : Int) ∧ e 7 = .pointer (some ⟨w9.size, 0, none⟩) ∧ e 44 = .slice aa y.args.length ac ∧ e 45 = .int .i64 (y.args.length : Int) ∧ e 46 = .int .i64 (q : Int) ∧ PLe Ψ11 Ψq ∧ Wt Ψq w ∧ Den Ψq (.slice aa y.args.length ac) (lst (enc1 enc) y.args) ∧ GrS w0.size w11 w ∧ w.cell ⟨w9.size, 3, none⟩ = some (.slice aa y.args.length ac) ∧ w.cell ⟨b, i * 2 + 1, none⟩ = some (.slice (some ⟨fb, 0, none⟩) x.facs.length x.facs.length)) (fun e w => y.args.length - natOf (e 46)) ?_ ?_
          · exact ⟨0, Ψ11, Nat.zero_le _, (by simp (maxSteps := 2000000) only [EVS, EVL, Nat.reduceEqDiff, Nat.reduceAdd, reduceIte, XE.then, XE.out, h0, h12, h13, h14, hlt, h3, h30, h31, h32, hlt2]), (by simp (maxSteps := 2000000) only [EVS, EVL, Nat.reduceEqDiff, Nat.reduceAdd, reduceIte, XE.then, XE.out, h0, h12, h13, h14, hlt, h3, h30, h31, h32, hlt2]), (by simp (maxSteps := 2000000) only [EVS, EVL, Nat.reduceEqDiff, Nat.reduceAdd, reduceIte, XE.then, XE.out, h0, h12, h13, h14, hlt, h3, h30, h31, h32, hlt2]), (by simp (maxSteps := 2000000) only [EVS, EVL, Nat.reduceEqDiff, Nat.reduceAdd, reduceIte, XE.then, XE.out, h0, h12, h13, h14, hlt, h3, h30, h31, h32, hlt2]), (by simp (maxSteps := 2000000) only [EVS, EVL, Nat.reduceEqDiff, Nat.reduceAdd, reduceIte, XE.then, XE.out, h0, h12, h13, h14, hlt, h3, h30, h31, h32, hlt2]), (by simp (maxSteps := 2000000) only [EVS, EVL, Nat.reduceEqDiff, Nat.reduceAdd, reduceIte, XE.then, XE.out, h0, h12, h13, h14, hlt, h3, h30, h31, h32, hlt2]), (by simp (maxSteps := 2000000) only [EVS, EVL, Nat.reduceEqDiff, Nat.reduceAdd, reduceIte, XE.then, XE.out, h0, h12, h13, h14, hlt, h3, h30, h31, h32, hlt2]), (by simp (maxSteps := 2000000) only [EVS, EVL, Nat.reduceEqDiff, Nat.reduceAdd, reduceIte, XE.then, XE.out, h0, h12, h13, h14, hlt, h3, h30, h31, h32, hlt2]), (by simp (maxSteps := 2000000) only [EVS, EVL, Nat.reduceEqDiff, Nat.reduceAdd, reduceIte, XE.then, XE.out, h0, h12, h13, h14, hlt, h3, h30, h31, h32, hlt2]), (by simp (maxSteps := 2000000) only [EVS, EVL, Nat.reduceEqDiff, Nat.reduceAdd, reduceIte, XE.then, XE.out, h0, h12, h13, h14, hlt, h3, h30, h31, h32, hlt2]), (by simp (maxSteps := 2000000) only [EVS, EVL, Nat.reduceEqDiff, Nat.reduceAdd, reduceIte, XE.then, XE.out, h0, h12, h13, h14, hlt, h3, h30, h31, h32, hlt2]), (by simp (maxSteps := 2000000) only [EVS, EVL, Nat.reduceEqDiff, Nat.reduceAdd, reduceIte, XE.then, XE.out, h0, h12, h13, h14, hlt, h3, h30, h31, h32, hlt2]), rfl, PLe.refl _, W12, hd11, GrS.refl _ _, c11, cj11⟩
          · rintro e wd ⟨q, Ψq, hq1, h0, h12, h13, h14, h3, h30, h31, h32, h5, h7, h44, h45, h46, pq, Wq, hdq, gq, cq, cqj⟩
            have sd := gq.size
            refine TF.seq ?_
            refine TF.reg (call := oracle []) (by show 74 ≤ 1000000; decide) (by kernel_rfl) (oracle_ok _ (by simp)) ?_
            simp (maxSteps := 2000000) only [EVS, EVL, Nat.reduceEqDiff, Nat.reduceAdd, reduceIte, XE.then, XE.out, h0, h12, h13, h14, hlt, h3, h30, h31, h32, hlt2, h5, h7, h44, h45, h46]
            refine TF.seq ?_
            by_cases hlt4 : q < y.args.length
            · have hc_hlt4 := hlt4
              refine TF.cond (t := true) rfl (by simp (maxSteps := 2000000) only [EVS, EVL, Nat.reduceEqDiff, Nat.reduceAdd, reduceIte, XE.then, XE.out, h0, h12, h13, h14, hlt, h3, h30, h31, h32, hlt2, h5, h7, h44, h45, h46, hlt4]) ?_
              simp (maxSteps := 2000000) only [EVS, EVL, Nat.reduceEqDiff, Nat.reduceAdd, reduceIte, XE.then, XE.out, h0, h12, h13, h14, hlt, h3, h30, h31, h32, hlt2, h5, h7, h44, h45, h46, hlt4]
              refine TF.skip ?_
              simp (maxSteps := 2000000) only [EVS, EVL, Nat.reduceEqDiff, Nat.reduceAdd, reduceIte, XE.then, XE.out, h0, h12, h13, h14, hlt, h3, h30, h31, h32, hlt2, h5, h7, h44, h45, h46, hlt4]
              refine TF.seq ?_
              refine TF.block ?_
              refine TF.seq ?_
              obtain ⟨ab, ea, hab1, hab2, hash⟩ := own11 (by omega)
              cases ea
              have hz1 : y.args[q]? = some y.args[q] := List.getElem?_eq_getElem hlt4
              have hzo := hao _ (List.getElem_mem hlt4)
              generalize y.args[q] = z at *
              obtain ⟨ub, uo, uc', zu, e3, _, hub3, hcz, hdz, hatz⟩ := Wq.rd1 hdq hz1
              cases e3
              simp only [Nat.zero_add] at hcz hatz
              have hcz0 := cell_of0 hcz rfl
              refine TF.reg (call := oracle []) (by show 74 ≤ 1000000; decide) (by kernel_rfl) (oracle_ok _ (by simp)) ?_
              simp (maxSteps := 2000000) only [EVS, EVL, Nat.reduceEqDiff, Nat.reduceAdd, reduceIte, XE.then, XE.out, h0, h12, h13, h14, hlt, h3, h30, h31, h32, hlt2, h5, h7, h44, h45, h46, hlt4, hcz0]
              obtain ⟨r14, we, k14, ge, Ψf, pf, Wf, hdf⟩ := H z hzo Wq.rs hdz
              have gg := rs_gr ge Wq.low
              have glow := ge.low
              have Wf' := Wf.lw wd.low
              obtain ⟨wx, hwx⟩ : ∃ wx, we.lw wd.low = wx := ⟨_, rfl⟩
              rw [hwx] at gg Wf'
              have sx := gg.size
              obtain ⟨wg, sg, Wg, gw, zg, og, _⟩ := putD_ok st_31 Wf' (s0 := w0.size) ((gg.S (s0 := 0) (by omega)).shape _ _ (by omega) (gq.shape _ _ (by omega) (g11.shape _ _ hab2 hash))) (b := ab) (o := q * 1) (by omega) (by omega) (by rw [gg.low, gq.low, g11.low, g10.low, gb.low, g9.low, gj.low, g16.low, g1.low]; exact hlowA) (v := r14) (l := [r14]) (flatten_one hdf.one) rfl (by simp [hdf.one]) (by have := Nat.mul_le_mul_right 1 (Nat.succ_le_of_lt hlt4); omega) (put1 (pf.at' _ _ _ (hatz 0 _ rfl)) hdf)
              have rl := rs_lw wd Wq.low
              have rlx := rs_lw wx Wf'.low
              refine TF.regD (call := oracle [(45, ⟨[zu]⟩, wd.rs, r14, we)]) (by show 74 ≤ 1000000; decide) (by kernel_rfl) (oracle_ok _ (by simpa using k14)) ?_
              simp (maxSteps := 2000000) only [EVS, EVL, Nat.reduceEqDiff, Nat.reduceAdd, reduceIte, XE.then, XE.out, h0, h12, h13, h14, hlt, h3, h30, h31, h32, hlt2, h5, h7, h44, h45, h46, hlt4, cq, hwx, glow, rl, rlx, sg]
              refine ⟨.inr (by kernel_rfl), ?_⟩
              refine TF.reg (call := oracle []) (by show 74 ≤ 1000000; decide) (by kernel_rfl) (oracle_ok _ (by simp)) ?_
              simp (maxSteps := 2000000) only [EVS, EVL, Nat.reduceEqDiff, Nat.reduceAdd, reduceIte, XE.then, XE.out, h0, h12, h13, h14, hlt, h3, h30, h31, h32, hlt2, h5, h7, h44, h45, h46, hlt4, wr1 (show q < 4611686018427387904 by omega)]
              refine ⟨⟨q + 1, Ψf, by omega, (by simp (maxSteps := 2000000) only [EVS, EVL, Nat.reduceEqDiff, Nat.reduceAdd, reduceIte, XE.then, XE.out, h0, h12, h13, h14, hlt, h3, h30, h31, h32, hlt2, h5, h7, h44, h45, h46, hlt4, wr1 (show q < 4611686018427387904 by omega)]), (by simp (maxSteps := 2000000) only [EVS, EVL, Nat.reduceEqDiff, Nat.reduceAdd, reduceIte, XE.then, XE.out, h0, h12, h13, h14, hlt, h3, h30, h31, h32, hlt2, h5, h7, h44, h45, h46, hlt4, wr1 (show q < 4611686018427387904 by omega)]), (by simp (maxSteps := 2000000) only [EVS, EVL, Nat.reduceEqDiff, Nat.reduceAdd, reduceIte, XE.then, XE.out, h0, h12, h13, h14, hlt, h3, h30, h31, h32, hlt2, h5, h7, h44, h45, h46, hlt4, wr1 (show q < 4611686018427387904 by omega)]), (by simp (maxSteps := 2000000) only [EVS, EVL, Nat.reduceEqDiff, Nat.reduceAdd, reduceIte, XE.then, XE.out, h0, h12, h13, h14, hlt, h3, h30, h31, h32, hlt2, h5, h7, h44, h45, h46, hlt4, wr1 (show q < 4611686018427387904 by omega)]), (by simp (maxSteps := 2000000) only [EVS, EVL, Nat.reduceEqDiff, Nat.reduceAdd, reduceIte, XE.then, XE.out, h0, h12, h13, h14, hlt, h3, h30, h31, h32, hlt2, h5, h7, h44, h45, h46, hlt4, wr1 (show q < 4611686018427387904 by omega)]), (by simp (maxSteps := 2000000) only [EVS, EVL, Nat.reduceEqDiff, Nat.reduceAdd, reduceIte, XE.then, XE.out, h0, h12, h13, h14, hlt, h3, h30, h31, h32, hlt2, h5, h7, h44, h45, h46, hlt4, wr1 (show q < 4611686018427387904 by omega)]), (by simp (maxSteps := 2000000) only [EVS, EVL, Nat.reduceEqDiff, Nat.reduceAdd, reduceIte, XE.then, XE.out, h0, h12, h13, h14, hlt, h3, h30, h31, h32, hlt2, h5, h7, h44, h45, h46, hlt4, wr1 (show q < 4611686018427387904 by omega)]), (by simp (maxSteps := 2000000) only [EVS, EVL, Nat.reduceEqDiff, Nat.reduceAdd, reduceIte, XE.then, XE.out, h0, h12, h13, h14, hlt, h3, h30, h31, h32, hlt2, h5, h7, h44, h45, h46, hlt4, wr1 (show q < 4611686018427387904 by omega)]), (by simp (maxSteps := 2000000) only [EVS, EVL, Nat.reduceEqDiff, Nat.reduceAdd, reduceIte, XE.then, XE.out, h0, h12, h13, h14, hlt, h3, h30, h31, h32, hlt2, h5, h7, h44, h45, h46, hlt4, wr1 (show q < 4611686018427387904 by omega)]), (by simp (maxSteps := 2000000) only [EVS, EVL, Nat.reduceEqDiff, Nat.reduceAdd, reduceIte, XE.then, XE.out, h0, h12, h13, h14, hlt, h3, h30, h31, h32, hlt2, h5, h7, h44, h45, h46, hlt4, wr1 (show q < 4611686018427387904 by omega)]), (by simp (maxSteps := 2000000) only [EVS, EVL, Nat.reduceEqDiff, Nat.reduceAdd, reduceIte, XE.then, XE.out, h0, h12, h13, h14, hlt, h3, h30, h31, h32, hlt2, h5, h7, h44, h45, h46, hlt4, wr1 (show q < 4611686018427387904 by omega)]), (by simp (maxSteps := 2000000) only [EVS, EVL, Nat.reduceEqDiff, Nat.reduceAdd, reduceIte, XE.then, XE.out, h0, h12, h13, h14, hlt, h3, h30, h31, h32, hlt2, h5, h7, h44, h45, h46, hlt4, wr1 (show q < 4611686018427387904 by omega)]), (by simp (maxSteps := 2000000) only [EVS, EVL, Nat.reduceEqDiff, Nat.reduceAdd, reduceIte, XE.then, XE.out, h0, h12, h13, h14, hlt, h3, h30, h31, h32, hlt2, h5, h7, h44, h45, h46, hlt4, wr1 (show q < 4611686018427387904 by omega)]), pq.trans pf, Wg, hdq.mono pf, gq.trans ((gg.S (by omega)).trans gw), cell_same (og _ (by omega)) (gg.cell' (by omega) cq), cell_same (og _ (by omega)) (gg.cell' (by omega) cqj)⟩, ?_⟩
              simp only [EVS, h46, wr1 (show q < 4611686018427387904 by omega), Nat.reduceEqDiff, if_true, if_false, reduceIte]; omega
            · have hc_hlt4 := hlt4
              refine TF.cond (t := false) rfl (by simp (maxSteps := 2000000) only [EVS, EVL, Nat.reduceEqDiff, Nat.reduceAdd, reduceIte, XE.then, XE.out, h0, h12, h13, h14, hlt, h3, h30, h31, h32, hlt2, h5, h7, h44, h45, h46, hlt4]) ?_
              simp (maxSteps := 2000000) only [EVS, EVL, Nat.reduceEqDiff, Nat.reduceAdd, reduceIte, XE.then, XE.out, h0, h12, h13, h14, hlt, h3, h30, h31, h32, hlt2, h5, h7, h44, h45, h46, hlt4]
              refine TF.exit ?_
              simp (maxSteps := 2000000) only [EVS, EVL, Nat.reduceEqDiff, Nat.reduceAdd, reduceIte, XE.then, XE.out, h0, h12, h13, h14, hlt, h3, h30, h31, h32, hlt2, h5, h7, h44, h45, h46, hlt4]
              refine TF.seq ?_
              obtain ⟨iu, ciu, hdiu⟩ := Wq.cell _ _ _ (pq.at' _ _ _ (p11.at' _ _ _ (hatb 5 _ rfl)))
              obtain ⟨r16, wh, k16, gh, Ψh, ph, Wh, hdh⟩ := weighted_ok H y.items hil hio Wq hdiu
              have sh := gh.size
              obtain ⟨wi, si, Wi2, gi2, zi, oi, _⟩ := putS_ok st_62 Wh (s0 := w0.size) ((gh.S (s0 := 0) (by omega)).shape _ _ (by omega) (gq.shape _ _ (by omega) (g11.shape _ _ (by omega) (((g10).S (s0 := 0) (by omega)).shape _ _ (by omega) shb)))) (b := w9.size) (o := 5) (by omega) (by omega) (by rw [gh.low, gq.low, g11.low, g10.low, gb.low, g9.low, gj.low, g16.low, g1.low]; exact hlowA) (v := r16) (l := [r16]) (flatten_one hdh.one) rfl (by simp [hdh.one]) (by omega) (put1 (ph.at' _ _ _ (pq.at' _ _ _ (p11.at' _ _ _ (hatb 5 _ rfl)))) hdh)
              have ci := cell_same (oi b (by omega)) (gh.cell' (by omega) cqj)
              refine TF.reg (call := oracle [(47, ⟨[iu]⟩, wd, r16, wh)]) (by show 74 ≤ 1000000; decide) (by kernel_rfl) (oracle_ok _ (by simpa using k16)) ?_
              simp (maxSteps := 2000000) only [EVS, EVL, Nat.reduceEqDiff, Nat.reduceAdd, reduceIte, XE.then, XE.out, h0, h12, h13, h14, hlt, h3, h30, h31, h32, hlt2, h5, h7, h44, h45, h46, hlt4, ciu, si]
              have q7i : PLe Ψb Ψh := p11.trans (pq.trans ph)
              have hli : Ψh.live w9.size (0 + (encAt enc y).length) := by rw [Nat.zero_add]; exact q7i.live _ _ (by rw [← hΨb]; exact Psi.add_live _ _ _ _ (Nat.le_refl _))
              obtain ⟨us, cus, hus⟩ := Wi2.cells (o := 0) hli (fun k d hk => by rw [Nat.zero_add]; exact q7i.at' _ _ _ (hatb k d hk))
              obtain ⟨v1, v2, rfl, hv1, hv2⟩ := dens_At_inv hus
              change wi.cells _ 10 = _ at cus
              have gjk0 := g7c.trans (gq.trans ((gh.S (s0 := w0.size) (by omega)).trans gi2))
              obtain ⟨wk, sk, Wk, gk, zk, ok2, _⟩ := putD_ok st_113 Wi2 (s0 := w0.size) (gjk0.shape _ _ (by omega) (gj.shape _ _ (by omega) (g6.shape _ _ hfb2 hfsh))) (b := fb) (o := j * 11) (by omega) (by omega) (by rw [gi2.low, gh.low, gq.low, g11.low, g10.low, gb.low, g9.low, gj.low, g16.low, g1.low]; exact hlowA) (v := atomV y v1 v2) (l := atomL y v1 v2) rfl rfl (by have q5 := hv1.one; have q6 := hv2.one; simp [oneI, oneS, q5, q6]) (by have := Nat.mul_le_mul_right 11 (Nat.succ_le_of_lt hlt2); omega) (put_At hus (fun k d' hk => (pb.trans (p11.trans (pq.trans ph))).at' _ _ _ (haty k d' hk)))
              have rl := rs_lw wi Wi2.low
              have gjk := gjk0.trans gk
              have ck := cell_same (ok2 b (by omega)) ci
              refine TF.regD (call := oracle []) (by show 74 ≤ 1000000; decide) (by kernel_rfl) (oracle_ok _ (by simp)) ?_
              simp (maxSteps := 2000000) only [EVS, EVL, Nat.reduceEqDiff, Nat.reduceAdd, reduceIte, XE.then, XE.out, h0, h12, h13, h14, hlt, h3, h30, h31, h32, hlt2, h5, h7, h44, h45, h46, hlt4, ci, cus, rl, sk]
              refine ⟨.inr (by kernel_rfl), ?_⟩
              refine TF.reg (call := oracle []) (by show 74 ≤ 1000000; decide) (by kernel_rfl) (oracle_ok _ (by simp)) ?_
              simp (maxSteps := 2000000) only [EVS, EVL, Nat.reduceEqDiff, Nat.reduceAdd, reduceIte, XE.then, XE.out, h0, h12, h13, h14, hlt, h3, h30, h31, h32, hlt2, h5, h7, h44, h45, h46, hlt4, wr1 (show j < 4611686018427387904 by omega)]
              refine ⟨⟨j + 1, Ψh, by omega, (by simp (maxSteps := 2000000) only [EVS, EVL, Nat.reduceEqDiff, Nat.reduceAdd, reduceIte, XE.then, XE.out, h0, h12, h13, h14, hlt, h3, h30, h31, h32, hlt2, h5, h7, h44, h45, h46, hlt4, wr1 (show j < 4611686018427387904 by omega)]), (by simp (maxSteps := 2000000) only [EVS, EVL, Nat.reduceEqDiff, Nat.reduceAdd, reduceIte, XE.then, XE.out, h0, h12, h13, h14, hlt, h3, h30, h31, h32, hlt2, h5, h7, h44, h45, h46, hlt4, wr1 (show j < 4611686018427387904 by omega)]), (by simp (maxSteps := 2000000) only [EVS, EVL, Nat.reduceEqDiff, Nat.reduceAdd, reduceIte, XE.then, XE.out, h0, h12, h13, h14, hlt, h3, h30, h31, h32, hlt2, h5, h7, h44, h45, h46, hlt4, wr1 (show j < 4611686018427387904 by omega)]), (by simp (maxSteps := 2000000) only [EVS, EVL, Nat.reduceEqDiff, Nat.reduceAdd, reduceIte, XE.then, XE.out, h0, h12, h13, h14, hlt, h3, h30, h31, h32, hlt2, h5, h7, h44, h45, h46, hlt4, wr1 (show j < 4611686018427387904 by omega)]), (by simp (maxSteps := 2000000) only [EVS, EVL, Nat.reduceEqDiff, Nat.reduceAdd, reduceIte, XE.then, XE.out, h0, h12, h13, h14, hlt, h3, h30, h31, h32, hlt2, h5, h7, h44, h45, h46, hlt4, wr1 (show j < 4611686018427387904 by omega)]), (by simp (maxSteps := 2000000) only [EVS, EVL, Nat.reduceEqDiff, Nat.reduceAdd, reduceIte, XE.then, XE.out, h0, h12, h13, h14, hlt, h3, h30, h31, h32, hlt2, h5, h7, h44, h45, h46, hlt4, wr1 (show j < 4611686018427387904 by omega)]), (by simp (maxSteps := 2000000) only [EVS, EVL, Nat.reduceEqDiff, Nat.reduceAdd, reduceIte, XE.then, XE.out, h0, h12, h13, h14, hlt, h3, h30, h31, h32, hlt2, h5, h7, h44, h45, h46, hlt4, wr1 (show j < 4611686018427387904 by omega)]), (by simp (maxSteps := 2000000) only [EVS, EVL, Nat.reduceEqDiff, Nat.reduceAdd, reduceIte, XE.then, XE.out, h0, h12, h13, h14, hlt, h3, h30, h31, h32, hlt2, h5, h7, h44, h45, h46, hlt4, wr1 (show j < 4611686018427387904 by omega)]), pj.trans (pb.trans (p11.trans (pq.trans ph))), Wk, hdj.mono (pb.trans (p11.trans (pq.trans ph))), gj.trans gjk, ck⟩, ?_⟩
              simp only [EVS, h32, wr1 (show j < 4611686018427387904 by omega), Nat.reduceEqDiff, if_true, if_false, reduceIte]; omega
        · have hc_hlt2 := hlt2
          refine TF.cond (t := false) rfl (by simp (maxSteps := 2000000) only [EVS, EVL, Nat.reduceEqDiff, Nat.reduceAdd, reduceIte, XE.then, XE.out, h0, h12, h13, h14, hlt, h3, h30, h31, h32, hlt2]) ?_
          simp (maxSteps := 2000000) only [EVS, EVL, Nat.reduceEqDiff, Nat.reduceAdd, reduceIte, XE.then, XE.out, h0, h12, h13, h14, hlt, h3, h30, h31, h32, hlt2]
          refine TF.exit ?_
          simp (maxSteps := 2000000) only [EVS, EVL, Nat.reduceEqDiff, Nat.reduceAdd, reduceIte, XE.then, XE.out, h0, h12, h13, h14, hlt, h3, h30, h31, h32, hlt2]
          refine TF.reg (call := oracle []) (by show 74 ≤ 1000000; decide) (by kernel_rfl) (oracle_ok _ (by simp)) ?_
          simp (maxSteps := 2000000) only [EVS, EVL, Nat.reduceEqDiff, Nat.reduceAdd, reduceIte, XE.then, XE.out, h0, h12, h13, h14, hlt, h3, h30, h31, h32, hlt2, wr1 (show i < 4611686018427387904 by omega)]
          refine ⟨⟨i + 1, Ψj, by omega, (by simp (maxSteps := 2000000) only [EVS, EVL, Nat.reduceEqDiff, Nat.reduceAdd, reduceIte, XE.then, XE.out, h0, h12, h13, h14, hlt, h3, h30, h31, h32, hlt2, wr1 (show i < 4611686018427387904 by omega)]), (by simp (maxSteps := 2000000) only [EVS, EVL, Nat.reduceEqDiff, Nat.reduceAdd, reduceIte, XE.then, XE.out, h0, h12, h13, h14, hlt, h3, h30, h31, h32, hlt2, wr1 (show i < 4611686018427387904 by omega)]), (by simp (maxSteps := 2000000) only [EVS, EVL, Nat.reduceEqDiff, Nat.reduceAdd, reduceIte, XE.then, XE.out, h0, h12, h13, h14, hlt, h3, h30, h31, h32, hlt2, wr1 (show i < 4611686018427387904 by omega)]), (by simp (maxSteps := 2000000) only [EVS, EVL, Nat.reduceEqDiff, Nat.reduceAdd, reduceIte, XE.then, XE.out, h0, h12, h13, h14, hlt, h3, h30, h31, h32, hlt2, wr1 (show i < 4611686018427387904 by omega)]), pi.trans (p5.trans pj), Wj, hdi.mono (p5.trans pj), g16.trans gj⟩, ?_⟩
          simp only [EVS, h14, wr1 (show i < 4611686018427387904 by omega), Nat.reduceEqDiff, if_true, if_false, reduceIte]; omega
    · have hc_hlt := hlt
      refine TF.cond (t := false) rfl (by simp (maxSteps := 2000000) only [EVS, EVL, Nat.reduceEqDiff, Nat.reduceAdd, reduceIte, XE.then, XE.out, h0, h12, h13, h14, hlt]) ?_
      simp (maxSteps := 2000000) only [EVS, EVL, Nat.reduceEqDiff, Nat.reduceAdd, reduceIte, XE.then, XE.out, h0, h12, h13, h14, hlt]
      refine TF.exit ?_
      simp (maxSteps := 2000000) only [EVS, EVL, Nat.reduceEqDiff, Nat.reduceAdd, reduceIte, XE.then, XE.out, h0, h12, h13, h14, hlt]
      refine TF.seq ?_
      refine TF.reg (call := oracle []) (by show 74 ≤ 1000000; decide) (by kernel_rfl) (oracle_ok _ (by simp)) ?_
      simp (maxSteps := 2000000) only [EVS, EVL, Nat.reduceEqDiff, Nat.reduceAdd, reduceIte, XE.then, XE.out, h0, h12, h13, h14, hlt]
      refine TF.ret ?_
      try simp (maxSteps := 2000000) only [EVS, EVL, Nat.reduceEqDiff, Nat.reduceAdd, reduceIte, XE.then, XE.out, h0, h12, h13, h14, hlt]
      exact ⟨((g1.S (Nat.le_refl _)).trans gi).gr, Ψi, pi, Wi, hdi⟩
end

end Go.Proofs.YtkjbbbjebidniaaGreatDoor
