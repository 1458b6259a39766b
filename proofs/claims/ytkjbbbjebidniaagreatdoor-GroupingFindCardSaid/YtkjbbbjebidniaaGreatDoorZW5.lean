/- Find: the reference's Rows, Variables. -/
import Derived.Test.YtkjbbbjebidniaaGreatDoorZW4
namespace Go.Proofs.YtkjbbbjebidniaaGreatDoor
open Go Go.RowKit
set_option linter.unusedSimpArgs false
set_option linter.unusedVariables false
set_option maxRecDepth 100000
set_option maxHeartbeats 4000000

/-- A value that is a row of these pairs. -/
def PV (w : AW) (r : Value) (m : List (Int × Int)) : Prop := ∃ b k, r = .slice (some ⟨b, 0, none⟩) m.length m.length ∧ RowOk w b (flatP m) k ∧ b < w.size
theorem PV.gr {w w' : AW} {r : Value} {m : List (Int × Int)} (h : PV w r m) (g : Gr w w') : PV w' r m := by
  obtain ⟨b, k, h1, h2, h3⟩ := h
  exact ⟨b, k, h1, ⟨(g.same _ h3).trans h2.1, h2.2⟩, Nat.lt_of_lt_of_le h3 g.size⟩
/-- .. that says the same as the list. -/
def SV (w : AW) (r : Value) (L : List (Int × Int)) : Prop := ∃ m, PV w r m ∧ SS m ∧ (∀ p, p ∈ m ↔ p ∈ L) ∧ m.length ≤ L.length
theorem SV.gr {w w' : AW} {r : Value} {L : List (Int × Int)} (h : SV w r L) (g : Gr w w') : SV w' r L := by
  obtain ⟨m, h1, h2⟩ := h; exact ⟨m, h1.gr g, h2⟩
theorem SV.put {w : AW} {r : Value} {L : List (Int × Int)} (h : SV w r L) (hl : L.length + 1 ≤ 1000000) (hlow : w.low ≤ w.size) (id : Int × Int) : CallP 57 [r, .agg ⟨[.int .i64 id.1, .int .i64 id.2]⟩] w (fun r' w' => Gr w w' ∧ SV w' r' (L ++ [id])) := by
  obtain ⟨m, ⟨b, k, rfl, h1, h2⟩, h3, h4, h5⟩ := h
  refine (putRow_ok m (by omega) h3 id h1 h2 hlow).mono fun r' w' ⟨g, m', b', k', q1, q2, q3, q4, q5, q6⟩ => ⟨g, m', ⟨b', k', q1, q2, q3⟩, q4, fun p => ?_, by rw [List.length_append]; simp; omega⟩
  rw [q5, List.mem_append, h4]
  simp only [List.mem_singleton]
  exact ⟨fun h => h.symm, fun h => h.symm⟩

theorem rows_ok {w : AW} {ra : Value} {La m : List (Int × Int)} {bb kb : Nat} (hA : SV w ra La) (hB : RowOk w bb (flatP m) kb) (hbb : bb < w.size) (hl : La.length + m.length ≤ 1000000) (hlow : w.low ≤ w.size) : CallP 29 [ra, .slice (some ⟨bb, 0, none⟩) m.length m.length] w (fun r w' => Gr w w' ∧ SV w' r (La ++ m)) := by
  refine CallP.of (t := 4) (args := [ra, .slice (some ⟨bb, 0, none⟩) m.length m.length]) Tryz.func29 rfl rfl (by simp) (by show _ ≤ 19; simp) ?_
  have a0 : argsE [ra, .slice (some ⟨bb, 0, none⟩) m.length m.length] 0 = ra := rfl
  have a1 : argsE [ra, .slice (some ⟨bb, 0, none⟩) m.length m.length] 1 = .slice (some ⟨bb, 0, none⟩) m.length m.length := rfl
  refine TF.seq ?_
  refine TF.reg (call := oracle []) (by show 19 ≤ 1000000; decide) (by kernel_rfl) (oracle_ok _ (by simp)) ?_
  simp (maxSteps := 2000000) only [EVS, EVL, Nat.reduceEqDiff, Nat.reduceAdd, reduceIte, XE.then, XE.out, a0, a1]
  refine TF.seq ?_
  refine TF.seq ?_
  refine TF.reg (call := oracle []) (by show 19 ≤ 1000000; decide) (by kernel_rfl) (oracle_ok _ (by simp)) ?_
  simp (maxSteps := 2000000) only [EVS, EVL, Nat.reduceEqDiff, Nat.reduceAdd, reduceIte, XE.then, XE.out, a0, a1]
  refine TF.block ?_
  generalize hw0 : w = w0 at *
  refine TF.loopH (fun e w => ∃ (i : Nat) (r : Value), i ≤ m.length ∧ e 0 = r ∧ e 1 = .slice (some ⟨bb, 0, none⟩) m.length m.length ∧ e 5 = .int .i64 (i : Int) ∧ SV w r (La ++ m.take i) ∧ w.low ≤ w.size ∧ Gr w0 w) (fun e w => m.length - natOf (e 5)) ?_ ?_
  · exact ⟨0, ra, Nat.zero_le _, a0, a1, rfl, by rw [List.take_zero, List.append_nil]; exact hA, hlow, Gr.refl _⟩
  · rintro e w1 ⟨i, r, hi1, h0, h1, h5, hS, hlow1, g⟩
    refine TF.seq ?_
    refine TF.seq ?_
    refine TF.reg (call := oracle []) (by show 19 ≤ 1000000; decide) (by kernel_rfl) (oracle_ok _ (by simp)) ?_
    simp (maxSteps := 2000000) only [EVS, EVL, Nat.reduceEqDiff, Nat.reduceAdd, reduceIte, XE.then, XE.out, h0, h1, h5]
    by_cases hlt : i < m.length
    · have hc_hlt := hlt
      refine TF.cond (t := true) rfl (by simp (maxSteps := 2000000) only [EVS, EVL, Nat.reduceEqDiff, Nat.reduceAdd, reduceIte, XE.then, XE.out, h0, h1, h5, hlt]) ?_
      simp (maxSteps := 2000000) only [EVS, EVL, Nat.reduceEqDiff, Nat.reduceAdd, reduceIte, XE.then, XE.out, h0, h1, h5, hlt]
      refine TF.skip ?_
      try simp (maxSteps := 2000000) only [EVS, EVL, Nat.reduceEqDiff, Nat.reduceAdd, reduceIte, XE.then, XE.out, h0, h1, h5, hlt]
      refine TF.seq ?_
      refine TF.block ?_
      have hx1 : m[i]? = some m[i] := List.getElem?_eq_getElem hlt
      generalize m[i] = x at *
      have hB1 : w1.heap.get bb = some (.row (flatP m ++ []) 41 kb) := by rw [List.append_nil]; exact (g.same _ hbb).trans hB.1
      have cx := row_at hB1 hx1
      obtain ⟨r2, w2, k2, g2, S2⟩ := hS.put (by rw [List.length_append, List.length_take, Nat.min_eq_left hi1]; omega) hlow1 x
      refine TF.reg (call := oracle [(57, ⟨[r, .agg ⟨[.int .i64 x.1, .int .i64 x.2]⟩]⟩, w1, r2, w2)]) (by show 19 ≤ 1000000; decide) (by kernel_rfl) (oracle_ok _ (by simpa using k2)) ?_
      simp (maxSteps := 2000000) only [EVS, EVL, Nat.reduceEqDiff, Nat.reduceAdd, reduceIte, XE.then, XE.out, h0, h1, h5, hlt, cx, ixV_at _ _ _ _ _ _ _ hlt]
      refine TF.reg (call := oracle []) (by show 19 ≤ 1000000; decide) (by kernel_rfl) (oracle_ok _ (by simp)) ?_
      simp (maxSteps := 2000000) only [EVS, EVL, Nat.reduceEqDiff, Nat.reduceAdd, reduceIte, XE.then, XE.out, h0, h1, h5, hlt, wr1 (show i < 4611686018427387904 by omega)]
      refine ⟨⟨i + 1, r2, by omega, (by simp (maxSteps := 2000000) only [EVS, EVL, Nat.reduceEqDiff, Nat.reduceAdd, reduceIte, XE.then, XE.out, h0, h1, h5, hlt, wr1 (show i < 4611686018427387904 by omega)]), (by simp (maxSteps := 2000000) only [EVS, EVL, Nat.reduceEqDiff, Nat.reduceAdd, reduceIte, XE.then, XE.out, h0, h1, h5, hlt, wr1 (show i < 4611686018427387904 by omega)]), (by simp (maxSteps := 2000000) only [EVS, EVL, Nat.reduceEqDiff, Nat.reduceAdd, reduceIte, XE.then, XE.out, h0, h1, h5, hlt, wr1 (show i < 4611686018427387904 by omega)]), ?_, g2.lowle hlow1, g.trans g2⟩, ?_⟩
      · rw [List.take_add_one, hx1, ← List.append_assoc]; exact S2
      · simp only [EVS, h5, wr1 (show i < 4611686018427387904 by omega), Nat.reduceEqDiff, if_true, if_false, reduceIte]; omega
    · have hc_hlt := hlt
      refine TF.cond (t := false) rfl (by simp (maxSteps := 2000000) only [EVS, EVL, Nat.reduceEqDiff, Nat.reduceAdd, reduceIte, XE.then, XE.out, h0, h1, h5, hlt]) ?_
      simp (maxSteps := 2000000) only [EVS, EVL, Nat.reduceEqDiff, Nat.reduceAdd, reduceIte, XE.then, XE.out, h0, h1, h5, hlt]
      refine TF.exit ?_
      simp (maxSteps := 2000000) only [EVS, EVL, Nat.reduceEqDiff, Nat.reduceAdd, reduceIte, XE.then, XE.out, h0, h1, h5, hlt]
      refine TF.seq ?_
      refine TF.reg (call := oracle []) (by show 19 ≤ 1000000; decide) (by kernel_rfl) (oracle_ok _ (by simp)) ?_
      simp (maxSteps := 2000000) only [EVS, EVL, Nat.reduceEqDiff, Nat.reduceAdd, reduceIte, XE.then, XE.out, h0, h1, h5, hlt]
      refine TF.ret ?_
      try simp (maxSteps := 2000000) only [EVS, EVL, Nat.reduceEqDiff, Nat.reduceAdd, reduceIte, XE.then, XE.out, h0, h1, h5, hlt]
      exact ⟨g, by rw [List.take_of_length_le (by omega)] at hS; exact hS⟩


theorem SV.rows {w : AW} {ra rb : Value} {La Lb : List (Int × Int)} (hA : SV w ra La) (hB : SV w rb Lb) (hl : La.length + Lb.length ≤ 1000000) (hlow : w.low ≤ w.size) : CallP 29 [ra, rb] w (fun r w' => Gr w w' ∧ SV w' r (La ++ Lb)) := by
  obtain ⟨m, ⟨b, k, rfl, h1, h2⟩, h3, h4, h5⟩ := hB
  refine (rows_ok hA h1 h2 (by omega) hlow).mono fun r w' ⟨g, m', q1, q2, q3, q4⟩ => ⟨g, m', q1, q2, fun p => ?_, ?_⟩
  · rw [q3, List.mem_append, List.mem_append, h4]
  · rw [List.length_append] at q4 ⊢; omega

section
variable {α : Type} {enc : α → Dt} {ok : α → Prop} {vr : α → List (Int × Int)}
def RVarOk (ok : α → Prop) (enc : α → Dt) (vr : α → List (Int × Int)) : Prop := ∀ a, ok a → (vr a).length ≤ 1000000 → ∀ {Ψ : Psi} {w : AW} {u : Value}, Wt Ψ w → Den Ψ u (enc a) → CallP 30 [u] w (fun r w' => Gr w w' ∧ SV w' r (vr a))

theorem rvar_ok (H : RVarOk ok enc vr) : RVarOk (okD 1000000 ok) (encAnn enc) (vrD vr) := by
  intro d hd hn Ψ w u W hu
  obtain ⟨hdl, hdt⟩ := hd
  obtain ⟨ua, uc, rfl⟩ := hu.len
  obtain ⟨w1, el', b1, hu1, g1, z1, r1⟩ := bs0W_ok sl_38 w
  rw [un_38] at hu1
  cases hu1
  have S1 : SV w1 (.slice (some ⟨w.size, 0, none⟩) 0 0) [] := ⟨[], ⟨w.size, 0, rfl, ⟨r1, by decide⟩, by omega⟩, List.Pairwise.nil, fun p => Iff.rfl, Nat.le_refl _⟩
  refine CallP.of (t := 2) (args := [.slice ua d.length uc]) Tryz.func30 rfl rfl (by simp) (by show _ ≤ 74; simp) ?_
  have a0 : argsE [.slice ua d.length uc] 0 = .slice ua d.length uc := rfl
  refine TF.seq ?_
  refine TF.reg (call := oracle []) (by show 74 ≤ 1000000; decide) (by kernel_rfl) (oracle_ok _ (by simp)) ?_
  simp (maxSteps := 2000000) only [EVS, EVL, Nat.reduceEqDiff, Nat.reduceAdd, reduceIte, XE.then, XE.out, b1, a0]
  refine TF.seq ?_
  refine TF.reg (call := oracle []) (by show 74 ≤ 1000000; decide) (by kernel_rfl) (oracle_ok _ (by simp)) ?_
  simp (maxSteps := 2000000) only [EVS, EVL, Nat.reduceEqDiff, Nat.reduceAdd, reduceIte, XE.then, XE.out, b1, a0]
  refine TF.seq ?_
  refine TF.seq ?_
  refine TF.reg (call := oracle []) (by show 74 ≤ 1000000; decide) (by kernel_rfl) (oracle_ok _ (by simp)) ?_
  simp (maxSteps := 2000000) only [EVS, EVL, Nat.reduceEqDiff, Nat.reduceAdd, reduceIte, XE.then, XE.out, b1, a0]
  refine TF.block ?_
  generalize hw0 : w = w0 at *
  refine TF.loopH (fun e w => ∃ (i : Nat) (r : Value), i ≤ d.length ∧ e 0 = .slice ua d.length uc ∧ e 3 = r ∧ e 4 = .int .i64 (i : Int) ∧ SV w r ((d.take i).flatMap (vrT vr)) ∧ w.low ≤ w.size ∧ Gr w0 w) (fun e w => d.length - natOf (e 4)) ?_ ?_
  · exact ⟨0, _, Nat.zero_le _, (by simp (maxSteps := 2000000) only [EVS, EVL, Nat.reduceEqDiff, Nat.reduceAdd, reduceIte, XE.then, XE.out, b1, a0]), (by simp (maxSteps := 2000000) only [EVS, EVL, Nat.reduceEqDiff, Nat.reduceAdd, reduceIte, XE.then, XE.out, b1, a0]), rfl, S1, g1.lowle W.low, g1⟩
  · rintro e w2 ⟨i, r, hi1, h0, h3, h4, hS, hlow2, g2⟩
    refine TF.seq ?_
    refine TF.seq ?_
    refine TF.reg (call := oracle []) (by show 74 ≤ 1000000; decide) (by kernel_rfl) (oracle_ok _ (by simp)) ?_
    simp (maxSteps := 2000000) only [EVS, EVL, Nat.reduceEqDiff, Nat.reduceAdd, reduceIte, XE.then, XE.out, h0, h3, h4]
    by_cases hlt : i < d.length
    · have hc_hlt := hlt
      refine TF.cond (t := true) rfl (by simp (maxSteps := 2000000) only [EVS, EVL, Nat.reduceEqDiff, Nat.reduceAdd, reduceIte, XE.then, XE.out, h0, h3, h4, hlt]) ?_
      simp (maxSteps := 2000000) only [EVS, EVL, Nat.reduceEqDiff, Nat.reduceAdd, reduceIte, XE.then, XE.out, h0, h3, h4, hlt]
      refine TF.skip ?_
      try simp (maxSteps := 2000000) only [EVS, EVL, Nat.reduceEqDiff, Nat.reduceAdd, reduceIte, XE.then, XE.out, h0, h3, h4, hlt]
      refine TF.seq ?_
      refine TF.block ?_
      refine TF.seq ?_
      have hx1 : d[i]? = some d[i] := List.getElem?_eq_getElem hlt
      obtain ⟨hfl, hff⟩ := hdt _ (List.getElem_mem hlt)
      generalize d[i] = x at *
      obtain ⟨ub, uo, uc', fu, e1, _, hub, hcx, hdx, _⟩ := W.rdT hu hx1
      cases e1
      have hle1 := fm_le (vrT vr) hx1
      change _ ≤ (vrD vr d).length at hle1
      obtain ⟨fa, fc, rfl⟩ := hdx.len
      have hcx := cell_of hcx 1 rfl
      refine TF.reg (call := oracle []) (by show 74 ≤ 1000000; decide) (by kernel_rfl) (oracle_ok _ (by simp)) ?_
      simp (maxSteps := 2000000) only [EVS, EVL, Nat.reduceEqDiff, Nat.reduceAdd, reduceIte, XE.then, XE.out, h0, h3, h4, hlt]
      refine TF.block ?_
      generalize hP : (d.take i).flatMap (vrT vr) = P at *
      refine TF.loopH (fun e w => ∃ (j : Nat) (r : Value), j ≤ x.facs.length ∧ e 0 = .slice (some ⟨ub, uo, none⟩) d.length uc ∧ e 3 = r ∧ e 4 = .int .i64 (i : Int) ∧ e 5 = .int .i64 (j : Int) ∧ SV w r (P ++ (x.facs.take j).flatMap (vrF vr)) ∧ w.low ≤ w.size ∧ Gr w0 w) (fun e w => x.facs.length - natOf (e 5)) ?_ ?_
      · exact ⟨0, r, Nat.zero_le _, (by simp (maxSteps := 2000000) only [EVS, EVL, Nat.reduceEqDiff, Nat.reduceAdd, reduceIte, XE.then, XE.out, h0, h3, h4, hlt]), (by simp (maxSteps := 2000000) only [EVS, EVL, Nat.reduceEqDiff, Nat.reduceAdd, reduceIte, XE.then, XE.out, h0, h3, h4, hlt]), (by simp (maxSteps := 2000000) only [EVS, EVL, Nat.reduceEqDiff, Nat.reduceAdd, reduceIte, XE.then, XE.out, h0, h3, h4, hlt]), rfl, by rw [List.take_zero, List.flatMap_nil, List.append_nil]; exact hS, hlow2, g2⟩
      · rintro e w7 ⟨j, r, hj1, h0, h3, h4, h5, S7, hlow7, g7⟩
        have cx := g7.cell' hub hcx
        refine TF.seq ?_
        refine TF.seq ?_
        refine TF.reg (call := oracle []) (by show 74 ≤ 1000000; decide) (by kernel_rfl) (oracle_ok _ (by simp)) ?_
        simp (maxSteps := 2000000) only [EVS, EVL, Nat.reduceEqDiff, Nat.reduceAdd, reduceIte, XE.then, XE.out, h0, h3, h4, hlt, h5, cx]
        by_cases hlt2 : j < x.facs.length
        · have hc_hlt2 := hlt2
          refine TF.cond (t := true) rfl (by simp (maxSteps := 2000000) only [EVS, EVL, Nat.reduceEqDiff, Nat.reduceAdd, reduceIte, XE.then, XE.out, h0, h3, h4, hlt, h5, cx, hlt2]) ?_
          simp (maxSteps := 2000000) only [EVS, EVL, Nat.reduceEqDiff, Nat.reduceAdd, reduceIte, XE.then, XE.out, h0, h3, h4, hlt, h5, cx, hlt2]
          refine TF.skip ?_
          try simp (maxSteps := 2000000) only [EVS, EVL, Nat.reduceEqDiff, Nat.reduceAdd, reduceIte, XE.then, XE.out, h0, h3, h4, hlt, h5, cx, hlt2]
          refine TF.seq ?_
          refine TF.block ?_
          refine TF.seq ?_
          have hy1 : x.facs[j]? = some x.facs[j] := List.getElem?_eq_getElem hlt2
          obtain ⟨hal, hil, hao, hio⟩ := hff _ (List.getElem_mem hlt2)
          generalize x.facs[j] = y at *
          obtain ⟨fb, fo, fc', av, iv, e2, _, hub2, hcy, hda, hdi2, _⟩ := W.rdF hdx hy1
          cases e2
          have hle2 := fm_le (vrF vr) hy1
          change _ ≤ (vrT vr x).length at hle2
          have hle3 : (vrF vr y).length = (vrK y).length + (y.args.flatMap vr).length + (y.items.flatMap (fun p => vr p.2)).length := by unfold vrF; rw [List.length_append, List.length_append]
          have cy := g7.cells' hub2 (cells_of0 hcy 10 (by simp))
          simp only [List.take_succ_cons, List.take_zero] at cy
          obtain ⟨w8, w9, b8, b9, g9, z9, r9⟩ := new_box al_113 st_113 w7 hlow7 (atomL y av iv) rfl (by have q5 := hda.one; have q6 := hdi2.one; simp [oneI, oneS, q5, q6])
          have c0 : w9.cell ⟨w7.size, 0, none⟩ = some (.int .i64 y.kind) := by rw [cell_at r9]; rfl
          have c1 := cells_row r9 1 2 (by show 3 ≤ 10; decide)
          change w9.cells _ 2 = some [.int .i64 y.tb, .int .i64 y.sq] at c1
          have g79 := g7.trans g9
          have hlow9 := g9.lowle hlow7
          have S9 := S7.gr g9
          have hPf : (P ++ (x.facs.take j).flatMap (vrF vr)).length = P.length + ((x.facs.take j).flatMap (vrF vr)).length := List.length_append
          refine TF.reg (call := oracle []) (by show 74 ≤ 1000000; decide) (by kernel_rfl) (oracle_ok _ (by simp)) ?_
          simp (maxSteps := 2000000) only [EVS, EVL, Nat.reduceEqDiff, Nat.reduceAdd, reduceIte, XE.then, XE.out, h0, h3, h4, hlt, h5, cx, hlt2, cy, b8, b9]
          refine TF.seq ?_
          refine TF.seq ?_
          refine TF.reg (call := oracle []) (by show 74 ≤ 1000000; decide) (by kernel_rfl) (oracle_ok _ (by simp)) ?_
          simp (maxSteps := 2000000) only [EVS, EVL, Nat.reduceEqDiff, Nat.reduceAdd, reduceIte, XE.then, XE.out, h0, h3, h4, hlt, h5, cx, hlt2, c0]
          by_cases hk : y.kind = 0
          · have hc_hk := hk
            refine TF.cond (t := true) rfl (by simp only [EVS]; simp [hk]) ?_
            simp (maxSteps := 2000000) only [EVS, EVL, Nat.reduceEqDiff, Nat.reduceAdd, reduceIte, XE.then, XE.out, h0, h3, h4, hlt, h5, cx, hlt2]
            have hvk : vrK y = [(y.tb, y.sq)] := by simp [vrK, hk]
            obtain ⟨r10, w10, k10, g10, S10⟩ := S9.put (by rw [hvk] at hle3; simp only [List.length_singleton] at hle3; omega) hlow9 (y.tb, y.sq)
            refine TF.reg (call := oracle [(57, ⟨[r, .agg ⟨[.int .i64 y.tb, .int .i64 y.sq]⟩]⟩, w9, r10, w10)]) (by show 74 ≤ 1000000; decide) (by kernel_rfl) (oracle_ok _ (by simpa using k10)) ?_
            simp (maxSteps := 2000000) only [EVS, EVL, Nat.reduceEqDiff, Nat.reduceAdd, reduceIte, XE.then, XE.out, h0, h3, h4, hlt, h5, cx, hlt2, c1]
            rw [← hvk] at S10
            refine TF.seq ?_
            refine TF.seq ?_
            refine TF.reg (call := oracle []) (by show 74 ≤ 1000000; decide) (by kernel_rfl) (oracle_ok _ (by simp)) ?_
            simp (maxSteps := 2000000) only [EVS, EVL, Nat.reduceEqDiff, Nat.reduceAdd, reduceIte, XE.then, XE.out, h0, h3, h4, hlt, h5, cx, hlt2]
            refine TF.block ?_
            generalize hP1 : P ++ (x.facs.take j).flatMap (vrF vr) ++ vrK y = P1 at *
            have hP1l : P1.length = P.length + ((x.facs.take j).flatMap (vrF vr)).length + (vrK y).length := by rw [← hP1, List.length_append, List.length_append]
            obtain ⟨aa, ac, rfl⟩ := hda.len
            obtain ⟨ia, ic, rfl⟩ := hdi2.len
            have g90 := g79
            refine TF.loopH (fun e w => ∃ (q : Nat) (r : Value), q ≤ y.args.length ∧ e 0 = .slice (some ⟨ub, uo, none⟩) d.length uc ∧ e 3 = r ∧ e 4 = .int .i64 (i : Int) ∧ e 5 = .int .i64 (j : Int) ∧ e 6 = .pointer (some ⟨w7.size, 0, none⟩) ∧ e 7 = .int .i64 (q : Int) ∧ SV w r (P1 ++ (y.args.take q).flatMap vr) ∧ w.low ≤ w.size ∧ Gr w9 w) (fun e w => y.args.length - natOf (e 7)) ?_ ?_
            · exact ⟨0, r10, Nat.zero_le _, (by simp (maxSteps := 2000000) only [EVS, EVL, Nat.reduceEqDiff, Nat.reduceAdd, reduceIte, XE.then, XE.out, h0, h3, h4, hlt, h5, cx, hlt2]), (by simp (maxSteps := 2000000) only [EVS, EVL, Nat.reduceEqDiff, Nat.reduceAdd, reduceIte, XE.then, XE.out, h0, h3, h4, hlt, h5, cx, hlt2]), (by simp (maxSteps := 2000000) only [EVS, EVL, Nat.reduceEqDiff, Nat.reduceAdd, reduceIte, XE.then, XE.out, h0, h3, h4, hlt, h5, cx, hlt2]), (by simp (maxSteps := 2000000) only [EVS, EVL, Nat.reduceEqDiff, Nat.reduceAdd, reduceIte, XE.then, XE.out, h0, h3, h4, hlt, h5, cx, hlt2]), (by simp (maxSteps := 2000000) only [EVS, EVL, Nat.reduceEqDiff, Nat.reduceAdd, reduceIte, XE.then, XE.out, h0, h3, h4, hlt, h5, cx, hlt2]), rfl, by rw [List.take_zero, List.flatMap_nil, List.append_nil]; exact S10, g10.lowle hlow9, g10⟩
            · rintro e w11 ⟨q, r, hq1, h0, h3, h4, h5, h6, h7, S11, hlow11, g11⟩
              have c3 : w11.cell ⟨w7.size, 3, none⟩ = some (.slice aa y.args.length ac) := by rw [cell_at ((g11.same _ (show w7.size < w9.size by omega)).trans r9)]; rfl
              have c5 : w11.cell ⟨w7.size, 5, none⟩ = some (.slice ia y.items.length ic) := by rw [cell_at ((g11.same _ (show w7.size < w9.size by omega)).trans r9)]; rfl
              refine TF.seq ?_
              refine TF.seq ?_
              refine TF.reg (call := oracle []) (by show 74 ≤ 1000000; decide) (by kernel_rfl) (oracle_ok _ (by simp)) ?_
              simp (maxSteps := 2000000) only [EVS, EVL, Nat.reduceEqDiff, Nat.reduceAdd, reduceIte, XE.then, XE.out, h0, h3, h4, hlt, h5, cx, hlt2, h6, h7, c3]
              by_cases hlt4 : q < y.args.length
              · have hc_hlt4 := hlt4
                refine TF.cond (t := true) rfl (by simp (maxSteps := 2000000) only [EVS, EVL, Nat.reduceEqDiff, Nat.reduceAdd, reduceIte, XE.then, XE.out, h0, h3, h4, hlt, h5, cx, hlt2, h6, h7, c3, hlt4]) ?_
                simp (maxSteps := 2000000) only [EVS, EVL, Nat.reduceEqDiff, Nat.reduceAdd, reduceIte, XE.then, XE.out, h0, h3, h4, hlt, h5, cx, hlt2, h6, h7, c3, hlt4]
                refine TF.skip ?_
                try simp (maxSteps := 2000000) only [EVS, EVL, Nat.reduceEqDiff, Nat.reduceAdd, reduceIte, XE.then, XE.out, h0, h3, h4, hlt, h5, cx, hlt2, h6, h7, c3, hlt4]
                refine TF.seq ?_
                refine TF.block ?_
                have hz1 : y.args[q]? = some y.args[q] := List.getElem?_eq_getElem hlt4
                have hzo := hao _ (List.getElem_mem hlt4)
                generalize y.args[q] = z at *
                obtain ⟨ab, ao, ac', zu, e3, _, hub3, hcz, hdz, _⟩ := W.rd1 hda hz1
                cases e3
                have cz := (g90.trans g11).cell' hub3 (cell_of0 hcz rfl)
                have hle4 := fm_le vr hz1
                obtain ⟨r14, w14, k14, g14, S14⟩ := H z hzo (by omega) (W.gr (g90.trans g11)) hdz
                obtain ⟨r15, w15, k15, g15, S15⟩ := (S11.gr g14).rows S14 (by rw [List.length_append]; omega) (g14.lowle hlow11)
                refine TF.reg (call := oracle [(30, ⟨[zu]⟩, w11, r14, w14), (29, ⟨[r, r14]⟩, w14, r15, w15)]) (by show 74 ≤ 1000000; decide) (by kernel_rfl) (oracle_ok _ (by simpa using ⟨k14, k15⟩)) ?_
                simp (maxSteps := 2000000) only [EVS, EVL, Nat.reduceEqDiff, Nat.reduceAdd, reduceIte, XE.then, XE.out, h0, h3, h4, hlt, h5, cx, hlt2, h6, h7, c3, hlt4, cz, oracle_skip (show (29 : FuncId) ≠ 30 by decide)]
                refine TF.reg (call := oracle []) (by show 74 ≤ 1000000; decide) (by kernel_rfl) (oracle_ok _ (by simp)) ?_
                simp (maxSteps := 2000000) only [EVS, EVL, Nat.reduceEqDiff, Nat.reduceAdd, reduceIte, XE.then, XE.out, h0, h3, h4, hlt, h5, cx, hlt2, h6, h7, c3, hlt4, wr1 (show q < 4611686018427387904 by omega)]
                refine ⟨⟨q + 1, r15, by omega, (by simp (maxSteps := 2000000) only [EVS, EVL, Nat.reduceEqDiff, Nat.reduceAdd, reduceIte, XE.then, XE.out, h0, h3, h4, hlt, h5, cx, hlt2, h6, h7, c3, hlt4, wr1 (show q < 4611686018427387904 by omega)]), (by simp (maxSteps := 2000000) only [EVS, EVL, Nat.reduceEqDiff, Nat.reduceAdd, reduceIte, XE.then, XE.out, h0, h3, h4, hlt, h5, cx, hlt2, h6, h7, c3, hlt4, wr1 (show q < 4611686018427387904 by omega)]), (by simp (maxSteps := 2000000) only [EVS, EVL, Nat.reduceEqDiff, Nat.reduceAdd, reduceIte, XE.then, XE.out, h0, h3, h4, hlt, h5, cx, hlt2, h6, h7, c3, hlt4, wr1 (show q < 4611686018427387904 by omega)]), (by simp (maxSteps := 2000000) only [EVS, EVL, Nat.reduceEqDiff, Nat.reduceAdd, reduceIte, XE.then, XE.out, h0, h3, h4, hlt, h5, cx, hlt2, h6, h7, c3, hlt4, wr1 (show q < 4611686018427387904 by omega)]), (by simp (maxSteps := 2000000) only [EVS, EVL, Nat.reduceEqDiff, Nat.reduceAdd, reduceIte, XE.then, XE.out, h0, h3, h4, hlt, h5, cx, hlt2, h6, h7, c3, hlt4, wr1 (show q < 4611686018427387904 by omega)]), (by simp (maxSteps := 2000000) only [EVS, EVL, Nat.reduceEqDiff, Nat.reduceAdd, reduceIte, XE.then, XE.out, h0, h3, h4, hlt, h5, cx, hlt2, h6, h7, c3, hlt4, wr1 (show q < 4611686018427387904 by omega)]), ?_, (g14.trans g15).lowle hlow11, g11.trans (g14.trans g15)⟩, ?_⟩
                · rw [fm_step _ hz1, ← List.append_assoc]; exact S15
                · simp only [EVS, h7, wr1 (show q < 4611686018427387904 by omega), Nat.reduceEqDiff, if_true, if_false, reduceIte]; omega
              · have hc_hlt4 := hlt4
                refine TF.cond (t := false) rfl (by simp (maxSteps := 2000000) only [EVS, EVL, Nat.reduceEqDiff, Nat.reduceAdd, reduceIte, XE.then, XE.out, h0, h3, h4, hlt, h5, cx, hlt2, h6, h7, c3, hlt4]) ?_
                simp (maxSteps := 2000000) only [EVS, EVL, Nat.reduceEqDiff, Nat.reduceAdd, reduceIte, XE.then, XE.out, h0, h3, h4, hlt, h5, cx, hlt2, h6, h7, c3, hlt4]
                refine TF.exit ?_
                simp (maxSteps := 2000000) only [EVS, EVL, Nat.reduceEqDiff, Nat.reduceAdd, reduceIte, XE.then, XE.out, h0, h3, h4, hlt, h5, cx, hlt2, h6, h7, c3, hlt4]
                refine TF.seq ?_
                refine TF.reg (call := oracle []) (by show 74 ≤ 1000000; decide) (by kernel_rfl) (oracle_ok _ (by simp)) ?_
                simp (maxSteps := 2000000) only [EVS, EVL, Nat.reduceEqDiff, Nat.reduceAdd, reduceIte, XE.then, XE.out, h0, h3, h4, hlt, h5, cx, hlt2, h6, h7, c3, hlt4]
                refine TF.block ?_
                rw [fm_all _ hlt4] at S11
                generalize hP2 : P1 ++ y.args.flatMap vr = P2 at *
                have hP2l : P2.length = P1.length + (y.args.flatMap vr).length := by rw [← hP2, List.length_append]
                refine TF.loopH (fun e w => ∃ (q : Nat) (r : Value), q ≤ y.items.length ∧ e 0 = .slice (some ⟨ub, uo, none⟩) d.length uc ∧ e 3 = r ∧ e 4 = .int .i64 (i : Int) ∧ e 5 = .int .i64 (j : Int) ∧ e 6 = .pointer (some ⟨w7.size, 0, none⟩) ∧ e 8 = .int .i64 (q : Int) ∧ SV w r (P2 ++ (y.items.take q).flatMap (fun p => vr p.2)) ∧ w.low ≤ w.size ∧ Gr w9 w) (fun e w => y.items.length - natOf (e 8)) ?_ ?_
                · exact ⟨0, r, Nat.zero_le _, (by simp (maxSteps := 2000000) only [EVS, EVL, Nat.reduceEqDiff, Nat.reduceAdd, reduceIte, XE.then, XE.out, h0, h3, h4, hlt, h5, cx, hlt2, h6, h7, c3, hlt4]), (by simp (maxSteps := 2000000) only [EVS, EVL, Nat.reduceEqDiff, Nat.reduceAdd, reduceIte, XE.then, XE.out, h0, h3, h4, hlt, h5, cx, hlt2, h6, h7, c3, hlt4]), (by simp (maxSteps := 2000000) only [EVS, EVL, Nat.reduceEqDiff, Nat.reduceAdd, reduceIte, XE.then, XE.out, h0, h3, h4, hlt, h5, cx, hlt2, h6, h7, c3, hlt4]), (by simp (maxSteps := 2000000) only [EVS, EVL, Nat.reduceEqDiff, Nat.reduceAdd, reduceIte, XE.then, XE.out, h0, h3, h4, hlt, h5, cx, hlt2, h6, h7, c3, hlt4]), (by simp (maxSteps := 2000000) only [EVS, EVL, Nat.reduceEqDiff, Nat.reduceAdd, reduceIte, XE.then, XE.out, h0, h3, h4, hlt, h5, cx, hlt2, h6, h7, c3, hlt4]), rfl, by rw [List.take_zero, List.flatMap_nil, List.append_nil]; exact S11, hlow11, g11⟩
                · rintro e w12 ⟨q6, r, hq6, h0, h3, h4, h5, h6, h8, S12, hlow12, g12⟩
                  have c5 : w12.cell ⟨w7.size, 5, none⟩ = some (.slice ia y.items.length ic) := by rw [cell_at ((g12.same _ (show w7.size < w9.size by omega)).trans r9)]; rfl
                  refine TF.seq ?_
                  refine TF.seq ?_
                  refine TF.reg (call := oracle []) (by show 74 ≤ 1000000; decide) (by kernel_rfl) (oracle_ok _ (by simp)) ?_
                  simp (maxSteps := 2000000) only [EVS, EVL, Nat.reduceEqDiff, Nat.reduceAdd, reduceIte, XE.then, XE.out, h0, h3, h4, hlt, h5, cx, hlt2, h6, hlt4, h8, c5]
                  by_cases hlt6 : q6 < y.items.length
                  · have hc_hlt6 := hlt6
                    refine TF.cond (t := true) rfl (by simp (maxSteps := 2000000) only [EVS, EVL, Nat.reduceEqDiff, Nat.reduceAdd, reduceIte, XE.then, XE.out, h0, h3, h4, hlt, h5, cx, hlt2, h6, hlt4, h8, c5, hlt6]) ?_
                    simp (maxSteps := 2000000) only [EVS, EVL, Nat.reduceEqDiff, Nat.reduceAdd, reduceIte, XE.then, XE.out, h0, h3, h4, hlt, h5, cx, hlt2, h6, hlt4, h8, c5, hlt6]
                    refine TF.skip ?_
                    try simp (maxSteps := 2000000) only [EVS, EVL, Nat.reduceEqDiff, Nat.reduceAdd, reduceIte, XE.then, XE.out, h0, h3, h4, hlt, h5, cx, hlt2, h6, hlt4, h8, c5, hlt6]
                    refine TF.seq ?_
                    refine TF.block ?_
                    have hz1 : y.items[q6]? = some y.items[q6] := List.getElem?_eq_getElem hlt6
                    have hzo := hio _ (List.getElem_mem hlt6)
                    generalize y.items[q6] = z at *
                    obtain ⟨ib, io, ic', zu, e3, _, hub3, hcz, hdz, _⟩ := W.rdI hdi2 hz1
                    cases e3
                    have cz := (g90.trans g12).cell' hub3 (cell_of hcz 3 rfl)
                    have hle5 := fm_le (fun p : Val3 × α => vr p.2) hz1
                    obtain ⟨r14, w14, k14, g14, S14⟩ := H z.2 hzo (by omega) (W.gr (g90.trans g12)) hdz
                    obtain ⟨r15, w15, k15, g15, S15⟩ := (S12.gr g14).rows S14 (by rw [List.length_append]; omega) (g14.lowle hlow12)
                    refine TF.reg (call := oracle [(30, ⟨[zu]⟩, w12, r14, w14), (29, ⟨[r, r14]⟩, w14, r15, w15)]) (by show 74 ≤ 1000000; decide) (by kernel_rfl) (oracle_ok _ (by simpa using ⟨k14, k15⟩)) ?_
                    simp (maxSteps := 2000000) only [EVS, EVL, Nat.reduceEqDiff, Nat.reduceAdd, reduceIte, XE.then, XE.out, h0, h3, h4, hlt, h5, cx, hlt2, h6, hlt4, h8, c5, hlt6, cz, oracle_skip (show (29 : FuncId) ≠ 30 by decide)]
                    refine TF.reg (call := oracle []) (by show 74 ≤ 1000000; decide) (by kernel_rfl) (oracle_ok _ (by simp)) ?_
                    simp (maxSteps := 2000000) only [EVS, EVL, Nat.reduceEqDiff, Nat.reduceAdd, reduceIte, XE.then, XE.out, h0, h3, h4, hlt, h5, cx, hlt2, h6, hlt4, h8, c5, hlt6, wr1 (show q6 < 4611686018427387904 by omega)]
                    refine ⟨⟨q6 + 1, r15, by omega, (by simp (maxSteps := 2000000) only [EVS, EVL, Nat.reduceEqDiff, Nat.reduceAdd, reduceIte, XE.then, XE.out, h0, h3, h4, hlt, h5, cx, hlt2, h6, hlt4, h8, c5, hlt6, wr1 (show q6 < 4611686018427387904 by omega)]), (by simp (maxSteps := 2000000) only [EVS, EVL, Nat.reduceEqDiff, Nat.reduceAdd, reduceIte, XE.then, XE.out, h0, h3, h4, hlt, h5, cx, hlt2, h6, hlt4, h8, c5, hlt6, wr1 (show q6 < 4611686018427387904 by omega)]), (by simp (maxSteps := 2000000) only [EVS, EVL, Nat.reduceEqDiff, Nat.reduceAdd, reduceIte, XE.then, XE.out, h0, h3, h4, hlt, h5, cx, hlt2, h6, hlt4, h8, c5, hlt6, wr1 (show q6 < 4611686018427387904 by omega)]), (by simp (maxSteps := 2000000) only [EVS, EVL, Nat.reduceEqDiff, Nat.reduceAdd, reduceIte, XE.then, XE.out, h0, h3, h4, hlt, h5, cx, hlt2, h6, hlt4, h8, c5, hlt6, wr1 (show q6 < 4611686018427387904 by omega)]), (by simp (maxSteps := 2000000) only [EVS, EVL, Nat.reduceEqDiff, Nat.reduceAdd, reduceIte, XE.then, XE.out, h0, h3, h4, hlt, h5, cx, hlt2, h6, hlt4, h8, c5, hlt6, wr1 (show q6 < 4611686018427387904 by omega)]), (by simp (maxSteps := 2000000) only [EVS, EVL, Nat.reduceEqDiff, Nat.reduceAdd, reduceIte, XE.then, XE.out, h0, h3, h4, hlt, h5, cx, hlt2, h6, hlt4, h8, c5, hlt6, wr1 (show q6 < 4611686018427387904 by omega)]), ?_, (g14.trans g15).lowle hlow12, g12.trans (g14.trans g15)⟩, ?_⟩
                    · rw [fm_step _ hz1, ← List.append_assoc]; exact S15
                    · simp only [EVS, h8, wr1 (show q6 < 4611686018427387904 by omega), Nat.reduceEqDiff, if_true, if_false, reduceIte]; omega
                  · have hc_hlt6 := hlt6
                    refine TF.cond (t := false) rfl (by simp (maxSteps := 2000000) only [EVS, EVL, Nat.reduceEqDiff, Nat.reduceAdd, reduceIte, XE.then, XE.out, h0, h3, h4, hlt, h5, cx, hlt2, h6, hlt4, h8, c5, hlt6]) ?_
                    simp (maxSteps := 2000000) only [EVS, EVL, Nat.reduceEqDiff, Nat.reduceAdd, reduceIte, XE.then, XE.out, h0, h3, h4, hlt, h5, cx, hlt2, h6, hlt4, h8, c5, hlt6]
                    refine TF.exit ?_
                    simp (maxSteps := 2000000) only [EVS, EVL, Nat.reduceEqDiff, Nat.reduceAdd, reduceIte, XE.then, XE.out, h0, h3, h4, hlt, h5, cx, hlt2, h6, hlt4, h8, c5, hlt6]
                    refine TF.reg (call := oracle []) (by show 74 ≤ 1000000; decide) (by kernel_rfl) (oracle_ok _ (by simp)) ?_
                    simp (maxSteps := 2000000) only [EVS, EVL, Nat.reduceEqDiff, Nat.reduceAdd, reduceIte, XE.then, XE.out, h0, h3, h4, hlt, h5, cx, hlt2, h6, hlt4, h8, c5, hlt6, wr1 (show j < 4611686018427387904 by omega)]
                    refine ⟨⟨j + 1, r, by omega, (by simp (maxSteps := 2000000) only [EVS, EVL, Nat.reduceEqDiff, Nat.reduceAdd, reduceIte, XE.then, XE.out, h0, h3, h4, hlt, h5, cx, hlt2, h6, hlt4, h8, c5, hlt6, wr1 (show j < 4611686018427387904 by omega)]), (by simp (maxSteps := 2000000) only [EVS, EVL, Nat.reduceEqDiff, Nat.reduceAdd, reduceIte, XE.then, XE.out, h0, h3, h4, hlt, h5, cx, hlt2, h6, hlt4, h8, c5, hlt6, wr1 (show j < 4611686018427387904 by omega)]), (by simp (maxSteps := 2000000) only [EVS, EVL, Nat.reduceEqDiff, Nat.reduceAdd, reduceIte, XE.then, XE.out, h0, h3, h4, hlt, h5, cx, hlt2, h6, hlt4, h8, c5, hlt6, wr1 (show j < 4611686018427387904 by omega)]), (by simp (maxSteps := 2000000) only [EVS, EVL, Nat.reduceEqDiff, Nat.reduceAdd, reduceIte, XE.then, XE.out, h0, h3, h4, hlt, h5, cx, hlt2, h6, hlt4, h8, c5, hlt6, wr1 (show j < 4611686018427387904 by omega)]), ?_, hlow12, g90.trans g12⟩, ?_⟩
                    · rw [fm_step _ hy1, ← List.append_assoc]; rw [fm_all _ hlt6, ← hP2, ← hP1] at S12; simp only [List.append_assoc] at S12 ⊢; rw [show vrF vr y = vrK y ++ (y.args.flatMap vr ++ y.items.flatMap (fun p => vr p.2)) from List.append_assoc _ _ _]; exact S12
                    · simp only [EVS, h5, wr1 (show j < 4611686018427387904 by omega), Nat.reduceEqDiff, if_true, if_false, reduceIte]; omega
          · have hc_hk := hk
            refine TF.cond (t := false) rfl (by simp only [EVS]; simp [hk]) ?_
            simp (maxSteps := 2000000) only [EVS, EVL, Nat.reduceEqDiff, Nat.reduceAdd, reduceIte, XE.then, XE.out, h0, h3, h4, hlt, h5, cx, hlt2]
            refine TF.skip ?_
            try simp (maxSteps := 2000000) only [EVS, EVL, Nat.reduceEqDiff, Nat.reduceAdd, reduceIte, XE.then, XE.out, h0, h3, h4, hlt, h5, cx, hlt2]
            refine TF.seq ?_
            refine TF.seq ?_
            have hvk : vrK y = [] := by simp [vrK, hk]
            obtain ⟨w10, hw10⟩ : ∃ x, x = w9 := ⟨_, rfl⟩
            have g10 : Gr w9 w10 := by rw [hw10]; exact Gr.refl _
            have S10 : SV w10 r (P ++ (x.facs.take j).flatMap (vrF vr) ++ vrK y) := by rw [hvk, List.append_nil, hw10]; exact S9
            obtain ⟨r10, hr10⟩ : ∃ x, x = r := ⟨_, rfl⟩
            rw [← hr10] at S10 h3
            rw [← hw10]
            refine TF.reg (call := oracle []) (by show 74 ≤ 1000000; decide) (by kernel_rfl) (oracle_ok _ (by simp)) ?_
            simp (maxSteps := 2000000) only [EVS, EVL, Nat.reduceEqDiff, Nat.reduceAdd, reduceIte, XE.then, XE.out, h0, h3, h4, hlt, h5, cx, hlt2]
            refine TF.block ?_
            generalize hP1 : P ++ (x.facs.take j).flatMap (vrF vr) ++ vrK y = P1 at *
            have hP1l : P1.length = P.length + ((x.facs.take j).flatMap (vrF vr)).length + (vrK y).length := by rw [← hP1, List.length_append, List.length_append]
            obtain ⟨aa, ac, rfl⟩ := hda.len
            obtain ⟨ia, ic, rfl⟩ := hdi2.len
            have g90 := g79
            refine TF.loopH (fun e w => ∃ (q : Nat) (r : Value), q ≤ y.args.length ∧ e 0 = .slice (some ⟨ub, uo, none⟩) d.length uc ∧ e 3 = r ∧ e 4 = .int .i64 (i : Int) ∧ e 5 = .int .i64 (j : Int) ∧ e 6 = .pointer (some ⟨w7.size, 0, none⟩) ∧ e 7 = .int .i64 (q : Int) ∧ SV w r (P1 ++ (y.args.take q).flatMap vr) ∧ w.low ≤ w.size ∧ Gr w9 w) (fun e w => y.args.length - natOf (e 7)) ?_ ?_
            · exact ⟨0, r10, Nat.zero_le _, (by simp (maxSteps := 2000000) only [EVS, EVL, Nat.reduceEqDiff, Nat.reduceAdd, reduceIte, XE.then, XE.out, h0, h3, h4, hlt, h5, cx, hlt2]), (by simp (maxSteps := 2000000) only [EVS, EVL, Nat.reduceEqDiff, Nat.reduceAdd, reduceIte, XE.then, XE.out, h0, h3, h4, hlt, h5, cx, hlt2]), (by simp (maxSteps := 2000000) only [EVS, EVL, Nat.reduceEqDiff, Nat.reduceAdd, reduceIte, XE.then, XE.out, h0, h3, h4, hlt, h5, cx, hlt2]), (by simp (maxSteps := 2000000) only [EVS, EVL, Nat.reduceEqDiff, Nat.reduceAdd, reduceIte, XE.then, XE.out, h0, h3, h4, hlt, h5, cx, hlt2]), (by simp (maxSteps := 2000000) only [EVS, EVL, Nat.reduceEqDiff, Nat.reduceAdd, reduceIte, XE.then, XE.out, h0, h3, h4, hlt, h5, cx, hlt2]), rfl, by rw [List.take_zero, List.flatMap_nil, List.append_nil]; exact S10, g10.lowle hlow9, g10⟩
            · rintro e w11 ⟨q, r, hq1, h0, h3, h4, h5, h6, h7, S11, hlow11, g11⟩
              have c3 : w11.cell ⟨w7.size, 3, none⟩ = some (.slice aa y.args.length ac) := by rw [cell_at ((g11.same _ (show w7.size < w9.size by omega)).trans r9)]; rfl
              have c5 : w11.cell ⟨w7.size, 5, none⟩ = some (.slice ia y.items.length ic) := by rw [cell_at ((g11.same _ (show w7.size < w9.size by omega)).trans r9)]; rfl
              refine TF.seq ?_
              refine TF.seq ?_
              refine TF.reg (call := oracle []) (by show 74 ≤ 1000000; decide) (by kernel_rfl) (oracle_ok _ (by simp)) ?_
              simp (maxSteps := 2000000) only [EVS, EVL, Nat.reduceEqDiff, Nat.reduceAdd, reduceIte, XE.then, XE.out, h0, h3, h4, hlt, h5, cx, hlt2, h6, h7, c3]
              by_cases hlt4 : q < y.args.length
              · have hc_hlt4 := hlt4
                refine TF.cond (t := true) rfl (by simp (maxSteps := 2000000) only [EVS, EVL, Nat.reduceEqDiff, Nat.reduceAdd, reduceIte, XE.then, XE.out, h0, h3, h4, hlt, h5, cx, hlt2, h6, h7, c3, hlt4]) ?_
                simp (maxSteps := 2000000) only [EVS, EVL, Nat.reduceEqDiff, Nat.reduceAdd, reduceIte, XE.then, XE.out, h0, h3, h4, hlt, h5, cx, hlt2, h6, h7, c3, hlt4]
                refine TF.skip ?_
                try simp (maxSteps := 2000000) only [EVS, EVL, Nat.reduceEqDiff, Nat.reduceAdd, reduceIte, XE.then, XE.out, h0, h3, h4, hlt, h5, cx, hlt2, h6, h7, c3, hlt4]
                refine TF.seq ?_
                refine TF.block ?_
                have hz1 : y.args[q]? = some y.args[q] := List.getElem?_eq_getElem hlt4
                have hzo := hao _ (List.getElem_mem hlt4)
                generalize y.args[q] = z at *
                obtain ⟨ab, ao, ac', zu, e3, _, hub3, hcz, hdz, _⟩ := W.rd1 hda hz1
                cases e3
                have cz := (g90.trans g11).cell' hub3 (cell_of0 hcz rfl)
                have hle4 := fm_le vr hz1
                obtain ⟨r14, w14, k14, g14, S14⟩ := H z hzo (by omega) (W.gr (g90.trans g11)) hdz
                obtain ⟨r15, w15, k15, g15, S15⟩ := (S11.gr g14).rows S14 (by rw [List.length_append]; omega) (g14.lowle hlow11)
                refine TF.reg (call := oracle [(30, ⟨[zu]⟩, w11, r14, w14), (29, ⟨[r, r14]⟩, w14, r15, w15)]) (by show 74 ≤ 1000000; decide) (by kernel_rfl) (oracle_ok _ (by simpa using ⟨k14, k15⟩)) ?_
                simp (maxSteps := 2000000) only [EVS, EVL, Nat.reduceEqDiff, Nat.reduceAdd, reduceIte, XE.then, XE.out, h0, h3, h4, hlt, h5, cx, hlt2, h6, h7, c3, hlt4, cz, oracle_skip (show (29 : FuncId) ≠ 30 by decide)]
                refine TF.reg (call := oracle []) (by show 74 ≤ 1000000; decide) (by kernel_rfl) (oracle_ok _ (by simp)) ?_
                simp (maxSteps := 2000000) only [EVS, EVL, Nat.reduceEqDiff, Nat.reduceAdd, reduceIte, XE.then, XE.out, h0, h3, h4, hlt, h5, cx, hlt2, h6, h7, c3, hlt4, wr1 (show q < 4611686018427387904 by omega)]
                refine ⟨⟨q + 1, r15, by omega, (by simp (maxSteps := 2000000) only [EVS, EVL, Nat.reduceEqDiff, Nat.reduceAdd, reduceIte, XE.then, XE.out, h0, h3, h4, hlt, h5, cx, hlt2, h6, h7, c3, hlt4, wr1 (show q < 4611686018427387904 by omega)]), (by simp (maxSteps := 2000000) only [EVS, EVL, Nat.reduceEqDiff, Nat.reduceAdd, reduceIte, XE.then, XE.out, h0, h3, h4, hlt, h5, cx, hlt2, h6, h7, c3, hlt4, wr1 (show q < 4611686018427387904 by omega)]), (by simp (maxSteps := 2000000) only [EVS, EVL, Nat.reduceEqDiff, Nat.reduceAdd, reduceIte, XE.then, XE.out, h0, h3, h4, hlt, h5, cx, hlt2, h6, h7, c3, hlt4, wr1 (show q < 4611686018427387904 by omega)]), (by simp (maxSteps := 2000000) only [EVS, EVL, Nat.reduceEqDiff, Nat.reduceAdd, reduceIte, XE.then, XE.out, h0, h3, h4, hlt, h5, cx, hlt2, h6, h7, c3, hlt4, wr1 (show q < 4611686018427387904 by omega)]), (by simp (maxSteps := 2000000) only [EVS, EVL, Nat.reduceEqDiff, Nat.reduceAdd, reduceIte, XE.then, XE.out, h0, h3, h4, hlt, h5, cx, hlt2, h6, h7, c3, hlt4, wr1 (show q < 4611686018427387904 by omega)]), (by simp (maxSteps := 2000000) only [EVS, EVL, Nat.reduceEqDiff, Nat.reduceAdd, reduceIte, XE.then, XE.out, h0, h3, h4, hlt, h5, cx, hlt2, h6, h7, c3, hlt4, wr1 (show q < 4611686018427387904 by omega)]), ?_, (g14.trans g15).lowle hlow11, g11.trans (g14.trans g15)⟩, ?_⟩
                · rw [fm_step _ hz1, ← List.append_assoc]; exact S15
                · simp only [EVS, h7, wr1 (show q < 4611686018427387904 by omega), Nat.reduceEqDiff, if_true, if_false, reduceIte]; omega
              · have hc_hlt4 := hlt4
                refine TF.cond (t := false) rfl (by simp (maxSteps := 2000000) only [EVS, EVL, Nat.reduceEqDiff, Nat.reduceAdd, reduceIte, XE.then, XE.out, h0, h3, h4, hlt, h5, cx, hlt2, h6, h7, c3, hlt4]) ?_
                simp (maxSteps := 2000000) only [EVS, EVL, Nat.reduceEqDiff, Nat.reduceAdd, reduceIte, XE.then, XE.out, h0, h3, h4, hlt, h5, cx, hlt2, h6, h7, c3, hlt4]
                refine TF.exit ?_
                simp (maxSteps := 2000000) only [EVS, EVL, Nat.reduceEqDiff, Nat.reduceAdd, reduceIte, XE.then, XE.out, h0, h3, h4, hlt, h5, cx, hlt2, h6, h7, c3, hlt4]
                refine TF.seq ?_
                refine TF.reg (call := oracle []) (by show 74 ≤ 1000000; decide) (by kernel_rfl) (oracle_ok _ (by simp)) ?_
                simp (maxSteps := 2000000) only [EVS, EVL, Nat.reduceEqDiff, Nat.reduceAdd, reduceIte, XE.then, XE.out, h0, h3, h4, hlt, h5, cx, hlt2, h6, h7, c3, hlt4]
                refine TF.block ?_
                rw [fm_all _ hlt4] at S11
                generalize hP2 : P1 ++ y.args.flatMap vr = P2 at *
                have hP2l : P2.length = P1.length + (y.args.flatMap vr).length := by rw [← hP2, List.length_append]
                refine TF.loopH (fun e w => ∃ (q : Nat) (r : Value), q ≤ y.items.length ∧ e 0 = .slice (some ⟨ub, uo, none⟩) d.length uc ∧ e 3 = r ∧ e 4 = .int .i64 (i : Int) ∧ e 5 = .int .i64 (j : Int) ∧ e 6 = .pointer (some ⟨w7.size, 0, none⟩) ∧ e 8 = .int .i64 (q : Int) ∧ SV w r (P2 ++ (y.items.take q).flatMap (fun p => vr p.2)) ∧ w.low ≤ w.size ∧ Gr w9 w) (fun e w => y.items.length - natOf (e 8)) ?_ ?_
                · exact ⟨0, r, Nat.zero_le _, (by simp (maxSteps := 2000000) only [EVS, EVL, Nat.reduceEqDiff, Nat.reduceAdd, reduceIte, XE.then, XE.out, h0, h3, h4, hlt, h5, cx, hlt2, h6, h7, c3, hlt4]), (by simp (maxSteps := 2000000) only [EVS, EVL, Nat.reduceEqDiff, Nat.reduceAdd, reduceIte, XE.then, XE.out, h0, h3, h4, hlt, h5, cx, hlt2, h6, h7, c3, hlt4]), (by simp (maxSteps := 2000000) only [EVS, EVL, Nat.reduceEqDiff, Nat.reduceAdd, reduceIte, XE.then, XE.out, h0, h3, h4, hlt, h5, cx, hlt2, h6, h7, c3, hlt4]), (by simp (maxSteps := 2000000) only [EVS, EVL, Nat.reduceEqDiff, Nat.reduceAdd, reduceIte, XE.then, XE.out, h0, h3, h4, hlt, h5, cx, hlt2, h6, h7, c3, hlt4]), (by simp (maxSteps := 2000000) only [EVS, EVL, Nat.reduceEqDiff, Nat.reduceAdd, reduceIte, XE.then, XE.out, h0, h3, h4, hlt, h5, cx, hlt2, h6, h7, c3, hlt4]), rfl, by rw [List.take_zero, List.flatMap_nil, List.append_nil]; exact S11, hlow11, g11⟩
                · rintro e w12 ⟨q6, r, hq6, h0, h3, h4, h5, h6, h8, S12, hlow12, g12⟩
                  have c5 : w12.cell ⟨w7.size, 5, none⟩ = some (.slice ia y.items.length ic) := by rw [cell_at ((g12.same _ (show w7.size < w9.size by omega)).trans r9)]; rfl
                  refine TF.seq ?_
                  refine TF.seq ?_
                  refine TF.reg (call := oracle []) (by show 74 ≤ 1000000; decide) (by kernel_rfl) (oracle_ok _ (by simp)) ?_
                  simp (maxSteps := 2000000) only [EVS, EVL, Nat.reduceEqDiff, Nat.reduceAdd, reduceIte, XE.then, XE.out, h0, h3, h4, hlt, h5, cx, hlt2, h6, hlt4, h8, c5]
                  by_cases hlt6 : q6 < y.items.length
                  · have hc_hlt6 := hlt6
                    refine TF.cond (t := true) rfl (by simp (maxSteps := 2000000) only [EVS, EVL, Nat.reduceEqDiff, Nat.reduceAdd, reduceIte, XE.then, XE.out, h0, h3, h4, hlt, h5, cx, hlt2, h6, hlt4, h8, c5, hlt6]) ?_
                    simp (maxSteps := 2000000) only [EVS, EVL, Nat.reduceEqDiff, Nat.reduceAdd, reduceIte, XE.then, XE.out, h0, h3, h4, hlt, h5, cx, hlt2, h6, hlt4, h8, c5, hlt6]
                    refine TF.skip ?_
                    try simp (maxSteps := 2000000) only [EVS, EVL, Nat.reduceEqDiff, Nat.reduceAdd, reduceIte, XE.then, XE.out, h0, h3, h4, hlt, h5, cx, hlt2, h6, hlt4, h8, c5, hlt6]
                    refine TF.seq ?_
                    refine TF.block ?_
                    have hz1 : y.items[q6]? = some y.items[q6] := List.getElem?_eq_getElem hlt6
                    have hzo := hio _ (List.getElem_mem hlt6)
                    generalize y.items[q6] = z at *
                    obtain ⟨ib, io, ic', zu, e3, _, hub3, hcz, hdz, _⟩ := W.rdI hdi2 hz1
                    cases e3
                    have cz := (g90.trans g12).cell' hub3 (cell_of hcz 3 rfl)
                    have hle5 := fm_le (fun p : Val3 × α => vr p.2) hz1
                    obtain ⟨r14, w14, k14, g14, S14⟩ := H z.2 hzo (by omega) (W.gr (g90.trans g12)) hdz
                    obtain ⟨r15, w15, k15, g15, S15⟩ := (S12.gr g14).rows S14 (by rw [List.length_append]; omega) (g14.lowle hlow12)
                    refine TF.reg (call := oracle [(30, ⟨[zu]⟩, w12, r14, w14), (29, ⟨[r, r14]⟩, w14, r15, w15)]) (by show 74 ≤ 1000000; decide) (by kernel_rfl) (oracle_ok _ (by simpa using ⟨k14, k15⟩)) ?_
                    simp (maxSteps := 2000000) only [EVS, EVL, Nat.reduceEqDiff, Nat.reduceAdd, reduceIte, XE.then, XE.out, h0, h3, h4, hlt, h5, cx, hlt2, h6, hlt4, h8, c5, hlt6, cz, oracle_skip (show (29 : FuncId) ≠ 30 by decide)]
                    refine TF.reg (call := oracle []) (by show 74 ≤ 1000000; decide) (by kernel_rfl) (oracle_ok _ (by simp)) ?_
                    simp (maxSteps := 2000000) only [EVS, EVL, Nat.reduceEqDiff, Nat.reduceAdd, reduceIte, XE.then, XE.out, h0, h3, h4, hlt, h5, cx, hlt2, h6, hlt4, h8, c5, hlt6, wr1 (show q6 < 4611686018427387904 by omega)]
                    refine ⟨⟨q6 + 1, r15, by omega, (by simp (maxSteps := 2000000) only [EVS, EVL, Nat.reduceEqDiff, Nat.reduceAdd, reduceIte, XE.then, XE.out, h0, h3, h4, hlt, h5, cx, hlt2, h6, hlt4, h8, c5, hlt6, wr1 (show q6 < 4611686018427387904 by omega)]), (by simp (maxSteps := 2000000) only [EVS, EVL, Nat.reduceEqDiff, Nat.reduceAdd, reduceIte, XE.then, XE.out, h0, h3, h4, hlt, h5, cx, hlt2, h6, hlt4, h8, c5, hlt6, wr1 (show q6 < 4611686018427387904 by omega)]), (by simp (maxSteps := 2000000) only [EVS, EVL, Nat.reduceEqDiff, Nat.reduceAdd, reduceIte, XE.then, XE.out, h0, h3, h4, hlt, h5, cx, hlt2, h6, hlt4, h8, c5, hlt6, wr1 (show q6 < 4611686018427387904 by omega)]), (by simp (maxSteps := 2000000) only [EVS, EVL, Nat.reduceEqDiff, Nat.reduceAdd, reduceIte, XE.then, XE.out, h0, h3, h4, hlt, h5, cx, hlt2, h6, hlt4, h8, c5, hlt6, wr1 (show q6 < 4611686018427387904 by omega)]), (by simp (maxSteps := 2000000) only [EVS, EVL, Nat.reduceEqDiff, Nat.reduceAdd, reduceIte, XE.then, XE.out, h0, h3, h4, hlt, h5, cx, hlt2, h6, hlt4, h8, c5, hlt6, wr1 (show q6 < 4611686018427387904 by omega)]), (by simp (maxSteps := 2000000) only [EVS, EVL, Nat.reduceEqDiff, Nat.reduceAdd, reduceIte, XE.then, XE.out, h0, h3, h4, hlt, h5, cx, hlt2, h6, hlt4, h8, c5, hlt6, wr1 (show q6 < 4611686018427387904 by omega)]), ?_, (g14.trans g15).lowle hlow12, g12.trans (g14.trans g15)⟩, ?_⟩
                    · rw [fm_step _ hz1, ← List.append_assoc]; exact S15
                    · simp only [EVS, h8, wr1 (show q6 < 4611686018427387904 by omega), Nat.reduceEqDiff, if_true, if_false, reduceIte]; omega
                  · have hc_hlt6 := hlt6
                    refine TF.cond (t := false) rfl (by simp (maxSteps := 2000000) only [EVS, EVL, Nat.reduceEqDiff, Nat.reduceAdd, reduceIte, XE.then, XE.out, h0, h3, h4, hlt, h5, cx, hlt2, h6, hlt4, h8, c5, hlt6]) ?_
                    simp (maxSteps := 2000000) only [EVS, EVL, Nat.reduceEqDiff, Nat.reduceAdd, reduceIte, XE.then, XE.out, h0, h3, h4, hlt, h5, cx, hlt2, h6, hlt4, h8, c5, hlt6]
                    refine TF.exit ?_
                    simp (maxSteps := 2000000) only [EVS, EVL, Nat.reduceEqDiff, Nat.reduceAdd, reduceIte, XE.then, XE.out, h0, h3, h4, hlt, h5, cx, hlt2, h6, hlt4, h8, c5, hlt6]
                    refine TF.reg (call := oracle []) (by show 74 ≤ 1000000; decide) (by kernel_rfl) (oracle_ok _ (by simp)) ?_
                    simp (maxSteps := 2000000) only [EVS, EVL, Nat.reduceEqDiff, Nat.reduceAdd, reduceIte, XE.then, XE.out, h0, h3, h4, hlt, h5, cx, hlt2, h6, hlt4, h8, c5, hlt6, wr1 (show j < 4611686018427387904 by omega)]
                    refine ⟨⟨j + 1, r, by omega, (by simp (maxSteps := 2000000) only [EVS, EVL, Nat.reduceEqDiff, Nat.reduceAdd, reduceIte, XE.then, XE.out, h0, h3, h4, hlt, h5, cx, hlt2, h6, hlt4, h8, c5, hlt6, wr1 (show j < 4611686018427387904 by omega)]), (by simp (maxSteps := 2000000) only [EVS, EVL, Nat.reduceEqDiff, Nat.reduceAdd, reduceIte, XE.then, XE.out, h0, h3, h4, hlt, h5, cx, hlt2, h6, hlt4, h8, c5, hlt6, wr1 (show j < 4611686018427387904 by omega)]), (by simp (maxSteps := 2000000) only [EVS, EVL, Nat.reduceEqDiff, Nat.reduceAdd, reduceIte, XE.then, XE.out, h0, h3, h4, hlt, h5, cx, hlt2, h6, hlt4, h8, c5, hlt6, wr1 (show j < 4611686018427387904 by omega)]), (by simp (maxSteps := 2000000) only [EVS, EVL, Nat.reduceEqDiff, Nat.reduceAdd, reduceIte, XE.then, XE.out, h0, h3, h4, hlt, h5, cx, hlt2, h6, hlt4, h8, c5, hlt6, wr1 (show j < 4611686018427387904 by omega)]), ?_, hlow12, g90.trans g12⟩, ?_⟩
                    · rw [fm_step _ hy1, ← List.append_assoc]; rw [fm_all _ hlt6, ← hP2, ← hP1] at S12; simp only [List.append_assoc] at S12 ⊢; rw [show vrF vr y = vrK y ++ (y.args.flatMap vr ++ y.items.flatMap (fun p => vr p.2)) from List.append_assoc _ _ _]; exact S12
                    · simp only [EVS, h5, wr1 (show j < 4611686018427387904 by omega), Nat.reduceEqDiff, if_true, if_false, reduceIte]; omega
        · have hc_hlt2 := hlt2
          refine TF.cond (t := false) rfl (by simp (maxSteps := 2000000) only [EVS, EVL, Nat.reduceEqDiff, Nat.reduceAdd, reduceIte, XE.then, XE.out, h0, h3, h4, hlt, h5, cx, hlt2]) ?_
          simp (maxSteps := 2000000) only [EVS, EVL, Nat.reduceEqDiff, Nat.reduceAdd, reduceIte, XE.then, XE.out, h0, h3, h4, hlt, h5, cx, hlt2]
          refine TF.exit ?_
          simp (maxSteps := 2000000) only [EVS, EVL, Nat.reduceEqDiff, Nat.reduceAdd, reduceIte, XE.then, XE.out, h0, h3, h4, hlt, h5, cx, hlt2]
          refine TF.reg (call := oracle []) (by show 74 ≤ 1000000; decide) (by kernel_rfl) (oracle_ok _ (by simp)) ?_
          simp (maxSteps := 2000000) only [EVS, EVL, Nat.reduceEqDiff, Nat.reduceAdd, reduceIte, XE.then, XE.out, h0, h3, h4, hlt, h5, cx, hlt2, wr1 (show i < 4611686018427387904 by omega)]
          refine ⟨⟨i + 1, r, by omega, (by simp (maxSteps := 2000000) only [EVS, EVL, Nat.reduceEqDiff, Nat.reduceAdd, reduceIte, XE.then, XE.out, h0, h3, h4, hlt, h5, cx, hlt2, wr1 (show i < 4611686018427387904 by omega)]), (by simp (maxSteps := 2000000) only [EVS, EVL, Nat.reduceEqDiff, Nat.reduceAdd, reduceIte, XE.then, XE.out, h0, h3, h4, hlt, h5, cx, hlt2, wr1 (show i < 4611686018427387904 by omega)]), (by simp (maxSteps := 2000000) only [EVS, EVL, Nat.reduceEqDiff, Nat.reduceAdd, reduceIte, XE.then, XE.out, h0, h3, h4, hlt, h5, cx, hlt2, wr1 (show i < 4611686018427387904 by omega)]), ?_, hlow7, g7⟩, ?_⟩
          · rw [fm_step _ hx1]; rw [fm_all _ hlt2, ← hP] at S7; exact S7
          · simp only [EVS, h4, wr1 (show i < 4611686018427387904 by omega), Nat.reduceEqDiff, if_true, if_false, reduceIte]; omega
    · have hc_hlt := hlt
      refine TF.cond (t := false) rfl (by simp (maxSteps := 2000000) only [EVS, EVL, Nat.reduceEqDiff, Nat.reduceAdd, reduceIte, XE.then, XE.out, h0, h3, h4, hlt]) ?_
      simp (maxSteps := 2000000) only [EVS, EVL, Nat.reduceEqDiff, Nat.reduceAdd, reduceIte, XE.then, XE.out, h0, h3, h4, hlt]
      refine TF.exit ?_
      simp (maxSteps := 2000000) only [EVS, EVL, Nat.reduceEqDiff, Nat.reduceAdd, reduceIte, XE.then, XE.out, h0, h3, h4, hlt]
      refine TF.seq ?_
      refine TF.reg (call := oracle []) (by show 74 ≤ 1000000; decide) (by kernel_rfl) (oracle_ok _ (by simp)) ?_
      simp (maxSteps := 2000000) only [EVS, EVL, Nat.reduceEqDiff, Nat.reduceAdd, reduceIte, XE.then, XE.out, h0, h3, h4, hlt]
      refine TF.ret ?_
      try simp (maxSteps := 2000000) only [EVS, EVL, Nat.reduceEqDiff, Nat.reduceAdd, reduceIte, XE.then, XE.out, h0, h3, h4, hlt]
      exact ⟨g2, by rw [fm_all _ hlt] at hS; exact hS⟩
end

end Go.Proofs.YtkjbbbjebidniaaGreatDoor
