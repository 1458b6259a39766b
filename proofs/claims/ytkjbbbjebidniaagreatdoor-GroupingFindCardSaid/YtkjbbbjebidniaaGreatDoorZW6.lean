/- Find: the reference's Variables of an answer; all depths. -/
import Derived.Test.YtkjbbbjebidniaaGreatDoorZW5
namespace Go.Proofs.YtkjbbbjebidniaaGreatDoor
open Go Go.RowKit
set_option linter.unusedSimpArgs false
set_option linter.unusedVariables false
set_option maxRecDepth 100000
set_option maxHeartbeats 4000000

section
variable {α : Type} {enc : α → Dt} {ok : α → Prop} {vr : α → List (Int × Int)}

theorem rvars_ok (H : RVarOk ok enc vr) (rows : List (ARow α)) (hr : rows.length ≤ 1000000) (hok : ∀ x ∈ rows, okRow ok x) {Ψ : Psi} {w : AW} {ucol u uab : Value} (W : Wt Ψ w) (hu : Den Ψ u (lst (encRow enc) rows)) (hn : (rows.flatMap (vrR vr)).length ≤ 1000000) : CallP 10 [.agg ⟨[ucol, u, uab]⟩] w (fun r w' => Gr w w' ∧ SV w' r (rows.flatMap (vrR vr))) := by
  obtain ⟨ua, uc, rfl⟩ := hu.len
  obtain ⟨w1, b1, g1, z1, r1⟩ := boxW_ok 25 (.agg ⟨[ucol, .slice ua rows.length uc, uab]⟩) w
  have c1 : w1.cell ⟨w.size, 1, none⟩ = some (.slice ua rows.length uc) := by rw [cell_at r1]; rfl
  obtain ⟨w2, el', b2, hu1, g2, z2, r2⟩ := bs0W_ok sl_38 w1
  rw [un_38] at hu1
  cases hu1
  have S1 : SV w2 (.slice (some ⟨w1.size, 0, none⟩) 0 0) [] := ⟨[], ⟨w1.size, 0, rfl, ⟨r2, by decide⟩, by omega⟩, List.Pairwise.nil, fun p => Iff.rfl, Nat.le_refl _⟩
  refine CallP.of (t := 2) (args := [.agg ⟨[ucol, .slice ua rows.length uc, uab]⟩]) Tryz.func10 rfl rfl (by simp) (by show _ ≤ 68; simp) ?_
  have a0 : argsE [.agg ⟨[ucol, .slice ua rows.length uc, uab]⟩] 0 = .agg ⟨[ucol, .slice ua rows.length uc, uab]⟩ := rfl
  refine TF.seq ?_
  refine TF.reg (call := oracle []) (by show 68 ≤ 1000000; decide) (by kernel_rfl) (oracle_ok _ (by simp)) ?_
  simp (maxSteps := 2000000) only [EVS, EVL, Nat.reduceEqDiff, Nat.reduceAdd, reduceIte, XE.then, XE.out, b1, b2, a0]
  refine TF.seq ?_
  refine TF.reg (call := oracle []) (by show 68 ≤ 1000000; decide) (by kernel_rfl) (oracle_ok _ (by simp)) ?_
  simp (maxSteps := 2000000) only [EVS, EVL, Nat.reduceEqDiff, Nat.reduceAdd, reduceIte, XE.then, XE.out, b1, b2, a0]
  refine TF.seq ?_
  refine TF.seq ?_
  refine TF.reg (call := oracle []) (by show 68 ≤ 1000000; decide) (by kernel_rfl) (oracle_ok _ (by simp)) ?_
  simp (maxSteps := 2000000) only [EVS, EVL, Nat.reduceEqDiff, Nat.reduceAdd, reduceIte, XE.then, XE.out, b1, b2, a0]
  refine TF.block ?_
  generalize hw0 : w = w0 at *
  refine TF.loopH (fun e w => ∃ (i : Nat) (r : Value), i ≤ rows.length ∧ e 1 = .pointer (some ⟨w0.size, 0, none⟩) ∧ e 3 = r ∧ e 4 = .int .i64 (i : Int) ∧ SV w r ((rows.take i).flatMap (vrR vr)) ∧ w.low ≤ w.size ∧ Gr w1 w) (fun e w => rows.length - natOf (e 4)) ?_ ?_
  · exact ⟨0, _, Nat.zero_le _, (by simp (maxSteps := 2000000) only [EVS, EVL, Nat.reduceEqDiff, Nat.reduceAdd, reduceIte, XE.then, XE.out, b1, b2, a0]), (by simp (maxSteps := 2000000) only [EVS, EVL, Nat.reduceEqDiff, Nat.reduceAdd, reduceIte, XE.then, XE.out, b1, b2, a0]), rfl, S1, (g1.trans g2).lowle W.low, g2⟩
  · rintro e w3 ⟨i, r, hi1, h1, h3, h4, hS, hlow3, g3⟩
    have d1 := g3.cell' (by omega) c1
    refine TF.seq ?_
    refine TF.seq ?_
    refine TF.reg (call := oracle []) (by show 68 ≤ 1000000; decide) (by kernel_rfl) (oracle_ok _ (by simp)) ?_
    simp (maxSteps := 2000000) only [EVS, EVL, Nat.reduceEqDiff, Nat.reduceAdd, reduceIte, XE.then, XE.out, h1, h3, h4, d1]
    by_cases hlt : i < rows.length
    · have hc_hlt := hlt
      refine TF.cond (t := true) rfl (by simp (maxSteps := 2000000) only [EVS, EVL, Nat.reduceEqDiff, Nat.reduceAdd, reduceIte, XE.then, XE.out, h1, h3, h4, d1, hlt]) ?_
      simp (maxSteps := 2000000) only [EVS, EVL, Nat.reduceEqDiff, Nat.reduceAdd, reduceIte, XE.then, XE.out, h1, h3, h4, d1, hlt]
      refine TF.skip ?_
      try simp (maxSteps := 2000000) only [EVS, EVL, Nat.reduceEqDiff, Nat.reduceAdd, reduceIte, XE.then, XE.out, h1, h3, h4, d1, hlt]
      refine TF.seq ?_
      refine TF.block ?_
      refine TF.seq ?_
      have hx1 : rows[i]? = some rows[i] := List.getElem?_eq_getElem hlt
      obtain ⟨_, hsl, hxa, hxi⟩ := hok _ (List.getElem_mem hlt)
      generalize rows[i] = x at *
      obtain ⟨ub, uo, uc', xv, xs, xa, e1, _, hub, hcx, hdv, hds, hda⟩ := W.rdRow hu hx1
      cases e1
      have hle1 := fm_le (vrR vr) hx1
      have hle0 : (vrR vr x).length = (vr x.ann).length + (x.sums.flatMap (vrI vr)).length := by unfold vrR; rw [List.length_append]
      have gW := g1.trans g3
      have cx2 := gW.cell' hub (cell_of hcx 2 rfl)
      obtain ⟨r4, w4, k4, g4, S4⟩ := H x.ann hxa (by omega) (W.gr gW) hda
      obtain ⟨r5, w5, k5, g5, S5⟩ := (hS.gr g4).rows S4 (by omega) (g4.lowle hlow3)
      have hlow5 := (g4.trans g5).lowle hlow3
      refine TF.reg (call := oracle [(30, ⟨[xa]⟩, w3, r4, w4), (29, ⟨[r, r4]⟩, w4, r5, w5)]) (by show 68 ≤ 1000000; decide) (by kernel_rfl) (oracle_ok _ (by simpa using ⟨k4, k5⟩)) ?_
      simp (maxSteps := 2000000) only [EVS, EVL, Nat.reduceEqDiff, Nat.reduceAdd, reduceIte, XE.then, XE.out, h1, h3, h4, d1, hlt, cx2, oracle_skip (show (29 : FuncId) ≠ 30 by decide)]
      refine TF.seq ?_
      refine TF.reg (call := oracle []) (by show 68 ≤ 1000000; decide) (by kernel_rfl) (oracle_ok _ (by simp)) ?_
      simp (maxSteps := 2000000) only [EVS, EVL, Nat.reduceEqDiff, Nat.reduceAdd, reduceIte, XE.then, XE.out, h1, h3, h4, d1, hlt]
      refine TF.block ?_
      generalize hP : (rows.take i).flatMap (vrR vr) ++ vr x.ann = P at *
      have hPl : P.length = ((rows.take i).flatMap (vrR vr)).length + (vr x.ann).length := by rw [← hP, List.length_append]
      obtain ⟨sa, sc, rfl⟩ := hds.len
      have hcx1 := cell_of hcx 1 rfl
      refine TF.loopH (fun e w => ∃ (j : Nat) (r : Value), j ≤ x.sums.length ∧ e 1 = .pointer (some ⟨w0.size, 0, none⟩) ∧ e 3 = r ∧ e 4 = .int .i64 (i : Int) ∧ e 5 = .int .i64 (j : Int) ∧ SV w r (P ++ (x.sums.take j).flatMap (vrI vr)) ∧ w.low ≤ w.size ∧ Gr w1 w) (fun e w => x.sums.length - natOf (e 5)) ?_ ?_
      · exact ⟨0, r5, Nat.zero_le _, (by simp (maxSteps := 2000000) only [EVS, EVL, Nat.reduceEqDiff, Nat.reduceAdd, reduceIte, XE.then, XE.out, h1, h3, h4, d1, hlt]), (by simp (maxSteps := 2000000) only [EVS, EVL, Nat.reduceEqDiff, Nat.reduceAdd, reduceIte, XE.then, XE.out, h1, h3, h4, d1, hlt]), (by simp (maxSteps := 2000000) only [EVS, EVL, Nat.reduceEqDiff, Nat.reduceAdd, reduceIte, XE.then, XE.out, h1, h3, h4, d1, hlt]), rfl, by rw [List.take_zero, List.flatMap_nil, List.append_nil]; exact S5, hlow5, g3.trans (g4.trans g5)⟩
      · rintro e w7 ⟨j, r, hj1, h1, h3, h4, h5, S7, hlow7, g7⟩
        have d1 := g7.cell' (by omega) c1
        have d2 := (g1.trans g7).cell' hub hcx1
        refine TF.seq ?_
        refine TF.seq ?_
        refine TF.reg (call := oracle []) (by show 68 ≤ 1000000; decide) (by kernel_rfl) (oracle_ok _ (by simp)) ?_
        simp (maxSteps := 2000000) only [EVS, EVL, Nat.reduceEqDiff, Nat.reduceAdd, reduceIte, XE.then, XE.out, h1, h3, h4, d1, hlt, h5, d2]
        by_cases hlt2 : j < x.sums.length
        · have hc_hlt2 := hlt2
          refine TF.cond (t := true) rfl (by simp (maxSteps := 2000000) only [EVS, EVL, Nat.reduceEqDiff, Nat.reduceAdd, reduceIte, XE.then, XE.out, h1, h3, h4, d1, hlt, h5, d2, hlt2]) ?_
          simp (maxSteps := 2000000) only [EVS, EVL, Nat.reduceEqDiff, Nat.reduceAdd, reduceIte, XE.then, XE.out, h1, h3, h4, d1, hlt, h5, d2, hlt2]
          refine TF.skip ?_
          try simp (maxSteps := 2000000) only [EVS, EVL, Nat.reduceEqDiff, Nat.reduceAdd, reduceIte, XE.then, XE.out, h1, h3, h4, d1, hlt, h5, d2, hlt2]
          refine TF.seq ?_
          refine TF.block ?_
          refine TF.seq ?_
          have hy1 : x.sums[j]? = some x.sums[j] := List.getElem?_eq_getElem hlt2
          obtain ⟨hyl, hyo⟩ := hxi _ (List.getElem_mem hlt2)
          generalize x.sums[j] = y at *
          obtain ⟨sb, so, sc', yi, e2, _, hsb, hcy, hdy, _⟩ := W.rdSum hds hy1
          cases e2
          have hle2 := fm_le (vrI vr) hy1
          change _ + (y.2.flatMap (fun p => vr p.2)).length ≤ _ at hle2
          obtain ⟨ia, ic, rfl⟩ := hdy.len
          have hcy1 := cell_of hcy 1 rfl
          refine TF.reg (call := oracle []) (by show 68 ≤ 1000000; decide) (by kernel_rfl) (oracle_ok _ (by simp)) ?_
          simp (maxSteps := 2000000) only [EVS, EVL, Nat.reduceEqDiff, Nat.reduceAdd, reduceIte, XE.then, XE.out, h1, h3, h4, d1, hlt, h5, d2, hlt2]
          refine TF.block ?_
          generalize hP2 : P ++ (x.sums.take j).flatMap (vrI vr) = P2 at *
          have hP2l : P2.length = P.length + ((x.sums.take j).flatMap (vrI vr)).length := by rw [← hP2, List.length_append]
          refine TF.loopH (fun e w => ∃ (q : Nat) (r : Value), q ≤ y.2.length ∧ e 1 = .pointer (some ⟨w0.size, 0, none⟩) ∧ e 3 = r ∧ e 4 = .int .i64 (i : Int) ∧ e 5 = .int .i64 (j : Int) ∧ e 6 = .int .i64 (q : Int) ∧ SV w r (P2 ++ (y.2.take q).flatMap (fun p => vr p.2)) ∧ w.low ≤ w.size ∧ Gr w1 w) (fun e w => y.2.length - natOf (e 6)) ?_ ?_
          · exact ⟨0, r, Nat.zero_le _, (by simp (maxSteps := 2000000) only [EVS, EVL, Nat.reduceEqDiff, Nat.reduceAdd, reduceIte, XE.then, XE.out, h1, h3, h4, d1, hlt, h5, d2, hlt2]), (by simp (maxSteps := 2000000) only [EVS, EVL, Nat.reduceEqDiff, Nat.reduceAdd, reduceIte, XE.then, XE.out, h1, h3, h4, d1, hlt, h5, d2, hlt2]), (by simp (maxSteps := 2000000) only [EVS, EVL, Nat.reduceEqDiff, Nat.reduceAdd, reduceIte, XE.then, XE.out, h1, h3, h4, d1, hlt, h5, d2, hlt2]), (by simp (maxSteps := 2000000) only [EVS, EVL, Nat.reduceEqDiff, Nat.reduceAdd, reduceIte, XE.then, XE.out, h1, h3, h4, d1, hlt, h5, d2, hlt2]), rfl, by rw [List.take_zero, List.flatMap_nil, List.append_nil]; exact S7, hlow7, g7⟩
          · rintro e w12 ⟨q6, r, hq6, h1, h3, h4, h5, h6, S12, hlow12, g12⟩
            have d1 := g12.cell' (by omega) c1
            have d2 := (g1.trans g12).cell' hub hcx1
            have d3 := (g1.trans g12).cell' hsb hcy1
            refine TF.seq ?_
            refine TF.seq ?_
            refine TF.reg (call := oracle []) (by show 68 ≤ 1000000; decide) (by kernel_rfl) (oracle_ok _ (by simp)) ?_
            simp (maxSteps := 2000000) only [EVS, EVL, Nat.reduceEqDiff, Nat.reduceAdd, reduceIte, XE.then, XE.out, h1, h3, h4, d1, hlt, h5, d2, hlt2, h6, d3]
            by_cases hlt6 : q6 < y.2.length
            · have hc_hlt6 := hlt6
              refine TF.cond (t := true) rfl (by simp (maxSteps := 2000000) only [EVS, EVL, Nat.reduceEqDiff, Nat.reduceAdd, reduceIte, XE.then, XE.out, h1, h3, h4, d1, hlt, h5, d2, hlt2, h6, d3, hlt6]) ?_
              simp (maxSteps := 2000000) only [EVS, EVL, Nat.reduceEqDiff, Nat.reduceAdd, reduceIte, XE.then, XE.out, h1, h3, h4, d1, hlt, h5, d2, hlt2, h6, d3, hlt6]
              refine TF.skip ?_
              try simp (maxSteps := 2000000) only [EVS, EVL, Nat.reduceEqDiff, Nat.reduceAdd, reduceIte, XE.then, XE.out, h1, h3, h4, d1, hlt, h5, d2, hlt2, h6, d3, hlt6]
              refine TF.seq ?_
              refine TF.block ?_
              have hz1 : y.2[q6]? = some y.2[q6] := List.getElem?_eq_getElem hlt6
              have hzo := hyo _ (List.getElem_mem hlt6)
              generalize y.2[q6] = z at *
              obtain ⟨ib, io, ic', zu, e3, _, hib, hcz, hdz, _⟩ := W.rdI hdy hz1
              cases e3
              have gW := g1.trans g12
              have cz := gW.cell' hib (cell_of hcz 3 rfl)
              have hle5 := fm_le (fun p : Val3 × α => vr p.2) hz1
              obtain ⟨r14, w14, k14, g14, S14⟩ := H z.2 hzo (by omega) (W.gr gW) hdz
              obtain ⟨r15, w15, k15, g15, S15⟩ := (S12.gr g14).rows S14 (by rw [List.length_append]; omega) (g14.lowle hlow12)
              refine TF.reg (call := oracle [(30, ⟨[zu]⟩, w12, r14, w14), (29, ⟨[r, r14]⟩, w14, r15, w15)]) (by show 68 ≤ 1000000; decide) (by kernel_rfl) (oracle_ok _ (by simpa using ⟨k14, k15⟩)) ?_
              simp (maxSteps := 2000000) only [EVS, EVL, Nat.reduceEqDiff, Nat.reduceAdd, reduceIte, XE.then, XE.out, h1, h3, h4, d1, hlt, h5, d2, hlt2, h6, d3, hlt6, cz, oracle_skip (show (29 : FuncId) ≠ 30 by decide)]
              refine TF.reg (call := oracle []) (by show 68 ≤ 1000000; decide) (by kernel_rfl) (oracle_ok _ (by simp)) ?_
              simp (maxSteps := 2000000) only [EVS, EVL, Nat.reduceEqDiff, Nat.reduceAdd, reduceIte, XE.then, XE.out, h1, h3, h4, d1, hlt, h5, d2, hlt2, h6, d3, hlt6, wr1 (show q6 < 4611686018427387904 by omega)]
              refine ⟨⟨q6 + 1, r15, by omega, (by simp (maxSteps := 2000000) only [EVS, EVL, Nat.reduceEqDiff, Nat.reduceAdd, reduceIte, XE.then, XE.out, h1, h3, h4, d1, hlt, h5, d2, hlt2, h6, d3, hlt6, wr1 (show q6 < 4611686018427387904 by omega)]), (by simp (maxSteps := 2000000) only [EVS, EVL, Nat.reduceEqDiff, Nat.reduceAdd, reduceIte, XE.then, XE.out, h1, h3, h4, d1, hlt, h5, d2, hlt2, h6, d3, hlt6, wr1 (show q6 < 4611686018427387904 by omega)]), (by simp (maxSteps := 2000000) only [EVS, EVL, Nat.reduceEqDiff, Nat.reduceAdd, reduceIte, XE.then, XE.out, h1, h3, h4, d1, hlt, h5, d2, hlt2, h6, d3, hlt6, wr1 (show q6 < 4611686018427387904 by omega)]), (by simp (maxSteps := 2000000) only [EVS, EVL, Nat.reduceEqDiff, Nat.reduceAdd, reduceIte, XE.then, XE.out, h1, h3, h4, d1, hlt, h5, d2, hlt2, h6, d3, hlt6, wr1 (show q6 < 4611686018427387904 by omega)]), (by simp (maxSteps := 2000000) only [EVS, EVL, Nat.reduceEqDiff, Nat.reduceAdd, reduceIte, XE.then, XE.out, h1, h3, h4, d1, hlt, h5, d2, hlt2, h6, d3, hlt6, wr1 (show q6 < 4611686018427387904 by omega)]), ?_, (g14.trans g15).lowle hlow12, g12.trans (g14.trans g15)⟩, ?_⟩
              · rw [fm_step _ hz1, ← List.append_assoc]; exact S15
              · simp only [EVS, h6, wr1 (show q6 < 4611686018427387904 by omega), Nat.reduceEqDiff, if_true, if_false, reduceIte]; omega
            · have hc_hlt6 := hlt6
              refine TF.cond (t := false) rfl (by simp (maxSteps := 2000000) only [EVS, EVL, Nat.reduceEqDiff, Nat.reduceAdd, reduceIte, XE.then, XE.out, h1, h3, h4, d1, hlt, h5, d2, hlt2, h6, d3, hlt6]) ?_
              simp (maxSteps := 2000000) only [EVS, EVL, Nat.reduceEqDiff, Nat.reduceAdd, reduceIte, XE.then, XE.out, h1, h3, h4, d1, hlt, h5, d2, hlt2, h6, d3, hlt6]
              refine TF.exit ?_
              simp (maxSteps := 2000000) only [EVS, EVL, Nat.reduceEqDiff, Nat.reduceAdd, reduceIte, XE.then, XE.out, h1, h3, h4, d1, hlt, h5, d2, hlt2, h6, d3, hlt6]
              refine TF.reg (call := oracle []) (by show 68 ≤ 1000000; decide) (by kernel_rfl) (oracle_ok _ (by simp)) ?_
              simp (maxSteps := 2000000) only [EVS, EVL, Nat.reduceEqDiff, Nat.reduceAdd, reduceIte, XE.then, XE.out, h1, h3, h4, d1, hlt, h5, d2, hlt2, h6, d3, hlt6, wr1 (show j < 4611686018427387904 by omega)]
              refine ⟨⟨j + 1, r, by omega, (by simp (maxSteps := 2000000) only [EVS, EVL, Nat.reduceEqDiff, Nat.reduceAdd, reduceIte, XE.then, XE.out, h1, h3, h4, d1, hlt, h5, d2, hlt2, h6, d3, hlt6, wr1 (show j < 4611686018427387904 by omega)]), (by simp (maxSteps := 2000000) only [EVS, EVL, Nat.reduceEqDiff, Nat.reduceAdd, reduceIte, XE.then, XE.out, h1, h3, h4, d1, hlt, h5, d2, hlt2, h6, d3, hlt6, wr1 (show j < 4611686018427387904 by omega)]), (by simp (maxSteps := 2000000) only [EVS, EVL, Nat.reduceEqDiff, Nat.reduceAdd, reduceIte, XE.then, XE.out, h1, h3, h4, d1, hlt, h5, d2, hlt2, h6, d3, hlt6, wr1 (show j < 4611686018427387904 by omega)]), (by simp (maxSteps := 2000000) only [EVS, EVL, Nat.reduceEqDiff, Nat.reduceAdd, reduceIte, XE.then, XE.out, h1, h3, h4, d1, hlt, h5, d2, hlt2, h6, d3, hlt6, wr1 (show j < 4611686018427387904 by omega)]), ?_, hlow12, g12⟩, ?_⟩
              · rw [fm_step _ hy1, ← List.append_assoc]; rw [fm_all _ hlt6, ← hP2] at S12; exact S12
              · simp only [EVS, h5, wr1 (show j < 4611686018427387904 by omega), Nat.reduceEqDiff, if_true, if_false, reduceIte]; omega
        · have hc_hlt2 := hlt2
          refine TF.cond (t := false) rfl (by simp (maxSteps := 2000000) only [EVS, EVL, Nat.reduceEqDiff, Nat.reduceAdd, reduceIte, XE.then, XE.out, h1, h3, h4, d1, hlt, h5, d2, hlt2]) ?_
          simp (maxSteps := 2000000) only [EVS, EVL, Nat.reduceEqDiff, Nat.reduceAdd, reduceIte, XE.then, XE.out, h1, h3, h4, d1, hlt, h5, d2, hlt2]
          refine TF.exit ?_
          simp (maxSteps := 2000000) only [EVS, EVL, Nat.reduceEqDiff, Nat.reduceAdd, reduceIte, XE.then, XE.out, h1, h3, h4, d1, hlt, h5, d2, hlt2]
          refine TF.reg (call := oracle []) (by show 68 ≤ 1000000; decide) (by kernel_rfl) (oracle_ok _ (by simp)) ?_
          simp (maxSteps := 2000000) only [EVS, EVL, Nat.reduceEqDiff, Nat.reduceAdd, reduceIte, XE.then, XE.out, h1, h3, h4, d1, hlt, h5, d2, hlt2, wr1 (show i < 4611686018427387904 by omega)]
          refine ⟨⟨i + 1, r, by omega, (by simp (maxSteps := 2000000) only [EVS, EVL, Nat.reduceEqDiff, Nat.reduceAdd, reduceIte, XE.then, XE.out, h1, h3, h4, d1, hlt, h5, d2, hlt2, wr1 (show i < 4611686018427387904 by omega)]), (by simp (maxSteps := 2000000) only [EVS, EVL, Nat.reduceEqDiff, Nat.reduceAdd, reduceIte, XE.then, XE.out, h1, h3, h4, d1, hlt, h5, d2, hlt2, wr1 (show i < 4611686018427387904 by omega)]), (by simp (maxSteps := 2000000) only [EVS, EVL, Nat.reduceEqDiff, Nat.reduceAdd, reduceIte, XE.then, XE.out, h1, h3, h4, d1, hlt, h5, d2, hlt2, wr1 (show i < 4611686018427387904 by omega)]), ?_, hlow7, g7⟩, ?_⟩
          · rw [fm_step _ hx1]; rw [fm_all _ hlt2, ← hP, List.append_assoc] at S7; exact S7
          · simp only [EVS, h4, wr1 (show i < 4611686018427387904 by omega), Nat.reduceEqDiff, if_true, if_false, reduceIte]; omega
    · have hc_hlt := hlt
      refine TF.cond (t := false) rfl (by simp (maxSteps := 2000000) only [EVS, EVL, Nat.reduceEqDiff, Nat.reduceAdd, reduceIte, XE.then, XE.out, h1, h3, h4, d1, hlt]) ?_
      simp (maxSteps := 2000000) only [EVS, EVL, Nat.reduceEqDiff, Nat.reduceAdd, reduceIte, XE.then, XE.out, h1, h3, h4, d1, hlt]
      refine TF.exit ?_
      simp (maxSteps := 2000000) only [EVS, EVL, Nat.reduceEqDiff, Nat.reduceAdd, reduceIte, XE.then, XE.out, h1, h3, h4, d1, hlt]
      refine TF.seq ?_
      refine TF.reg (call := oracle []) (by show 68 ≤ 1000000; decide) (by kernel_rfl) (oracle_ok _ (by simp)) ?_
      simp (maxSteps := 2000000) only [EVS, EVL, Nat.reduceEqDiff, Nat.reduceAdd, reduceIte, XE.then, XE.out, h1, h3, h4, d1, hlt]
      refine TF.ret ?_
      try simp (maxSteps := 2000000) only [EVS, EVL, Nat.reduceEqDiff, Nat.reduceAdd, reduceIte, XE.then, XE.out, h1, h3, h4, d1, hlt]
      exact ⟨g1.trans g3, by rw [fm_all _ hlt] at hS; exact hS⟩

end

/- all depths -/
def vrA : (n : Nat) → DA n → List (Int × Int)
  | 0, x => nomatch x
  | n + 1, d => vrD (vrA n) d
def wA : (n : Nat) → DA n → Nat
  | 0, x => nomatch x
  | n + 1, d => wD (wA n) d
def bgA : (n : Nat) → DA n → Prop
  | 0, x => nomatch x
  | n + 1, d => bgD (bgA n) d
theorem everyA : ∀ n, EvOk (okA 1000000 n) (encA n) (vrA n)
  | 0 => fun a => nomatch a
  | n + 1 => every_ok (everyA n)
theorem varA (n : Nat) : VarOk (okA 1000000 n) (encA n) (vrA n) := var27_ok (everyA n) norm_ok
theorem rvarA : ∀ n, RVarOk (okA 1000000 n) (encA n) (vrA n)
  | 0 => fun a => nomatch a
  | n + 1 => rvar_ok (rvarA n)
theorem weightA : ∀ n, WtOk (bgA n) (encA n) (wA n)
  | 0 => fun a => nomatch a
  | n + 1 => weight_ok (weightA n)

/- what is light is small -/
section
variable {α : Type}
theorem light_F {wt : α → Nat} {vr : α → List (Int × Int)} {ok : α → Prop} {B : Nat} (H : ∀ a, wt a ≤ B → ok a ∧ (vr a).length ≤ wt a) (f : Fac α) (h : wF wt f ≤ B) : okF B ok f ∧ (vrF vr f).length ≤ 1 + wF wt f := by
  have hs : ∀ a ∈ f.args, wt a ≤ B := fun a ha => by have := sm_mem wt ha; unfold wF at h; omega
  have hi : ∀ p ∈ f.items, wt p.2 ≤ B := fun p hp => by have := sm_mem (fun p : Val3 × α => wt p.2) hp; unfold wF at h; omega
  refine ⟨⟨by unfold wF at h; omega, by unfold wF at h; omega, fun a ha => (H a (hs a ha)).1, fun p hp => (H p.2 (hi p hp)).1⟩, ?_⟩
  have key : ∀ {β : Type} (g : β → α) (l : List β), (∀ x ∈ l, wt (g x) ≤ B) → (l.flatMap (fun x => vr (g x))).length ≤ sm (fun x => wt (g x)) l := by
    intro β g l
    induction l with
    | nil => intro _; simp [sm]
    | cons a l ih =>
      intro hl
      have h1 := (H (g a) (hl a (by simp))).2
      have h2 := ih fun x hx => hl x (by simp [hx])
      rw [List.flatMap_cons, List.length_append]
      simp only [sm]
      omega
  have k1 : (f.args.flatMap vr).length ≤ sm wt f.args := key (fun a => a) f.args hs
  have k2 := key (fun p : Val3 × α => p.2) f.items hi
  have k3 : (vrK f).length ≤ 1 := by unfold vrK; split <;> simp
  unfold vrF wF
  rw [List.length_append, List.length_append]
  omega
theorem light_T {wt : α → Nat} {vr : α → List (Int × Int)} {ok : α → Prop} {B : Nat} (H : ∀ a, wt a ≤ B → ok a ∧ (vr a).length ≤ wt a) (t : Term α) (h : wT wt t ≤ B) : okT B ok t ∧ (vrT vr t).length ≤ wT wt t := by
  have hf : ∀ f ∈ t.facs, wF wt f ≤ B := fun f hf => by have := sm_mem (wF wt) hf; unfold wT at h; omega
  refine ⟨⟨by unfold wT at h; omega, fun f hff => (light_F H f (hf f hff)).1⟩, ?_⟩
  have key : ∀ l : List (Fac α), (∀ f ∈ l, wF wt f ≤ B) → (l.flatMap (vrF vr)).length ≤ l.length + sm (wF wt) l := by
    intro l
    induction l with
    | nil => intro _; simp [sm]
    | cons a l ih =>
      intro hl
      have h1 := (light_F (vr := vr) H a (hl a (by simp))).2
      have h2 := ih fun x hx => hl x (by simp [hx])
      rw [List.flatMap_cons, List.length_append]
      simp only [sm, List.length_cons]
      omega
  have := key t.facs hf
  unfold vrT wT
  omega
theorem light_D {wt : α → Nat} {vr : α → List (Int × Int)} {ok : α → Prop} {B : Nat} (H : ∀ a, wt a ≤ B → ok a ∧ (vr a).length ≤ wt a) (d : List (Term α)) (h : wD wt d ≤ B) : okD B ok d ∧ (vrD vr d).length ≤ wD wt d := by
  have ht : ∀ t ∈ d, wT wt t ≤ B := fun t ht => by have := sm_mem (wT wt) ht; unfold wD at h; omega
  have key : ∀ l : List (Term α), (∀ t ∈ l, wT wt t ≤ B) → (l.flatMap (vrT vr)).length ≤ sm (wT wt) l ∧ l.length ≤ sm (wT wt) l := by
    intro l
    induction l with
    | nil => intro _; simp [sm]
    | cons a l ih =>
      intro hl
      have h1 := (light_T (vr := vr) H a (hl a (by simp))).2
      obtain ⟨h2, h3⟩ := ih fun x hx => hl x (by simp [hx])
      rw [List.flatMap_cons, List.length_append]
      simp only [sm, List.length_cons]
      have : 1 ≤ wT wt a := by unfold wT; omega
      omega
  obtain ⟨k1, k2⟩ := key d ht
  exact ⟨⟨by unfold wD at h; omega, fun t htt => (light_T (vr := vr) H t (ht t htt)).1⟩, k1⟩
end
theorem lightA (B : Nat) : ∀ (n : Nat) (a : DA n), wA n a ≤ B → okA B n a ∧ (vrA n a).length ≤ wA n a
  | 0, a => nomatch a
  | n + 1, d => fun h => light_D (lightA B n) d h
theorem okF_mono {α : Type} {B C : Nat} {ok ok' : α → Prop} (h : B ≤ C) (ho : ∀ a, ok a → ok' a) {f : Fac α} (hf : okF B ok f) : okF C ok' f := ⟨Nat.le_trans hf.1 h, Nat.le_trans hf.2.1 h, fun a ha => ho _ (hf.2.2.1 a ha), fun p hp => ho _ (hf.2.2.2 p hp)⟩
theorem okA_mono {B C : Nat} (h : B ≤ C) : ∀ (n : Nat) (a : DA n), okA B n a → okA C n a
  | 0, a => nomatch a
  | n + 1, d => fun hd => ⟨Nat.le_trans hd.1 h, fun t ht => ⟨Nat.le_trans (hd.2 t ht).1 h, fun f hf => okF_mono h (okA_mono h n) ((hd.2 t ht).2 f hf)⟩⟩

end Go.Proofs.YtkjbbbjebidniaaGreatDoor
