/- Find: the index, the reference. -/
import Derived.Test.YtkjbbbjebidniaaGreatDoorZX7
namespace Go.Proofs.YtkjbbbjebidniaaGreatDoor
open Go Go.RowKit
set_option linter.unusedSimpArgs false
set_option linter.unusedVariables false
set_option maxRecDepth 100000

section
variable {α : Type} {enc : α → Dt}

theorem FinR.two {fn : Func} {Φ : Value → AW → Prop} {a b t : Nat} {e : Env} {w : AW} {p : Addr} {l : Value} (hr : fn.results.toList = [.cell a t, .tmp b]) (ha : e a = .pointer (some p)) (hl : loadC Tryz.prog t p w = some l) (h : Φ (.tuple ⟨[l, e b]⟩) w) : FinR fn Φ .ret e w :=
  ⟨.inr rfl, [l, e b], by rw [hr]; simp only [resultsE, resultE, ha, hl], h⟩
theorem cell_of0 {w : AW} {b o n : Nat} {l : List Value} (h : w.cells ⟨b, o, none⟩ n = some l) {u : Value} (hu : l[0]? = some u) : w.cell ⟨b, o, none⟩ = some u := cell_of h 0 hu
theorem ldc_agg {P : Program} {t n : Nat} (h : aggOk P t n = true) {b o : Nat} {w : AW} {l : List Value} (hc : w.cells ⟨b, o, none⟩ n = some l) : loadC P t ⟨b, o, none⟩ w = some (.agg ⟨l⟩) := by
  have := ld_agg h b o w
  rw [hc] at this
  simp only [loadW, mapG] at this
  split at this
  · rename_i v hv; cases this; exact hv
  · cases this

theorem clo19_ok (xs ys : List Val3) (hx : xs.length < 4611686018427387904) {Ψ : Psi} {w : AW} {uv us ua vv : Value} {bp : Nat} (W : Wt Ψ w) (hu : Den Ψ uv (lst encV xs)) (hv : Den Ψ vv (lst encV ys)) (hb : bp < w.size) (hc : w.cell ⟨bp, 0, none⟩ = some vv) : CallP 19 [.agg ⟨[uv, us, ua]⟩, .pointer (some ⟨bp, 0, none⟩)] w (fun r w' => Gr w w' ∧ ∃ b, r = .bool b ∧ (b = true ↔ xs = ys)) := by
  obtain ⟨w1, b1, g1, z1, r1⟩ := boxW_ok 33 (.agg ⟨[uv, us, ua]⟩) w
  have c0 : w1.cell ⟨w.size, 0, none⟩ = some uv := by rw [cell_at r1]; rfl
  have c1 : w1.cell ⟨bp, 0, none⟩ = some vv := by rw [g1.cell hb]; exact hc
  obtain ⟨rv, w2, k1, rfl, b, rfl, hbb⟩ := equal_ok xs ys hx (W.gr g1) hu hv
  refine CallP.of (t := 3) (args := [.agg ⟨[uv, us, ua]⟩, .pointer (some ⟨bp, 0, none⟩)]) Tryz.func19 rfl rfl (by simp) (by show _ ≤ 8; simp) ?_
  have a0 : argsE [.agg ⟨[uv, us, ua]⟩, .pointer (some ⟨bp, 0, none⟩)] 0 = .agg ⟨[uv, us, ua]⟩ := rfl
  have a1 : argsE [.agg ⟨[uv, us, ua]⟩, .pointer (some ⟨bp, 0, none⟩)] 1 = .pointer (some ⟨bp, 0, none⟩) := rfl
  refine TF.seq ?_
  refine TF.reg (call := oracle []) (by show 8 ≤ 1000000; decide) (by kernel_rfl) (oracle_ok _ (by simp)) ?_
  simp only [EVS, EVL, Nat.reduceEqDiff, Nat.reduceAdd, reduceIte, XE.then, XE.out, b1, c0, c1, a0, a1]
  refine TF.seq ?_
  refine TF.reg (call := oracle [(20, ⟨[uv, vv]⟩, w2, .bool b, w2)]) (by show 8 ≤ 1000000; decide) (by kernel_rfl) (oracle_ok _ (by simpa using k1)) ?_
  simp only [EVS, EVL, Nat.reduceEqDiff, Nat.reduceAdd, reduceIte, XE.then, XE.out, b1, c0, c1, a0, a1]
  refine TF.ret ?_
  try simp only [EVS, EVL, Nat.reduceEqDiff, Nat.reduceAdd, reduceIte, XE.then, XE.out, b1, c0, c1, a0, a1]
  exact ⟨g1, b, rfl, hbb⟩

theorem index_ok (rows : List (ARow α)) (ys : List Val3) (hn : rows.length < 4611686018427387904) (hx : ∀ x ∈ rows, x.vals.length < 4611686018427387904) {Ψ : Psi} {w : AW} {u vv : Value} {bp : Nat} (W : Wt Ψ w) (hu : Den Ψ u (lst (encRow enc) rows)) (hv : Den Ψ vv (lst encV ys)) (hb : bp < w.size) (hc : w.cell ⟨bp, 0, none⟩ = some vv) : CallP 18 [u, .func (.func 19) #[] #[.pointer (some ⟨bp, 0, none⟩)]] w (fun r w' => Gr w w' ∧ ((r = .int .i64 (-1) ∧ ∀ (j : Nat) x, rows[j]? = some x → x.vals ≠ ys) ∨ ∃ (i : Nat) (x : ARow α), r = .int .i64 (i : Int) ∧ rows[i]? = some x ∧ x.vals = ys ∧ ∀ (j : Nat) z, j < i → rows[j]? = some z → z.vals ≠ ys)) := by
  obtain ⟨ua, uc, rfl⟩ := hu.len
  refine CallP.of (t := 4) (args := [.slice ua rows.length uc, .func (.func 19) #[] #[.pointer (some ⟨bp, 0, none⟩)]]) Tryz.func18 rfl rfl (by simp) (by show _ ≤ 19; simp) ?_
  have a0 : argsE [.slice ua rows.length uc, .func (.func 19) #[] #[.pointer (some ⟨bp, 0, none⟩)]] 0 = .slice ua rows.length uc := rfl
  have a1 : argsE [.slice ua rows.length uc, .func (.func 19) #[] #[.pointer (some ⟨bp, 0, none⟩)]] 1 = .func (.func 19) #[] #[.pointer (some ⟨bp, 0, none⟩)] := rfl
  refine TF.seq ?_
  refine TF.reg (call := oracle []) (by show 19 ≤ 1000000; decide) (by kernel_rfl) (oracle_ok _ (by simp)) ?_
  simp only [EVS, EVL, Nat.reduceEqDiff, Nat.reduceAdd, reduceIte, XE.then, XE.out, a0, a1]
  refine TF.seq ?_
  refine TF.seq ?_
  refine TF.reg (call := oracle []) (by show 19 ≤ 1000000; decide) (by kernel_rfl) (oracle_ok _ (by simp)) ?_
  simp only [EVS, EVL, Nat.reduceEqDiff, Nat.reduceAdd, reduceIte, XE.then, XE.out, a0, a1]
  refine TF.block ?_
  generalize hW0 : w = W0 at *
  refine TF.loopH (fun e w => ∃ i : Nat, i ≤ rows.length ∧ e 0 = .slice ua rows.length uc ∧ e 1 = .func (.func 19) #[] #[.pointer (some ⟨bp, 0, none⟩)] ∧ e 7 = .int .i64 (rows.length : Int) ∧ e 8 = .int .i64 i ∧ (∀ (j : Nat) z, j < i → rows[j]? = some z → z.vals ≠ ys) ∧ Gr W0 w) (fun e w => rows.length - natOf (e 8)) ?_ ?_
  · exact ⟨0, Nat.zero_le _, a0, a1, (by simp only [EVS, EVL, Nat.reduceEqDiff, Nat.reduceAdd, reduceIte, XE.then, XE.out, a0, a1]), rfl, fun j z h => absurd h (Nat.not_lt_zero _), Gr.refl _⟩
  · rintro e w1 ⟨i, hi1, h0, h1, h7, h8, hno, g⟩
    refine TF.seq ?_
    refine TF.reg (call := oracle []) (by show 19 ≤ 1000000; decide) (by kernel_rfl) (oracle_ok _ (by simp)) ?_
    simp only [EVS, EVL, Nat.reduceEqDiff, Nat.reduceAdd, reduceIte, XE.then, XE.out, h0, h1, h7, h8]
    refine TF.seq ?_
    by_cases hlt : i < rows.length
    · have hc_hlt := hlt
      refine TF.cond (t := true) rfl (by simp only [EVS, EVL, Nat.reduceEqDiff, Nat.reduceAdd, reduceIte, XE.then, XE.out, h0, h1, h7, h8, hlt]) ?_
      simp only [EVS, EVL, Nat.reduceEqDiff, Nat.reduceAdd, reduceIte, XE.then, XE.out, h0, h1, h7, h8, hlt]
      refine TF.skip ?_
      simp only [EVS, EVL, Nat.reduceEqDiff, Nat.reduceAdd, reduceIte, XE.then, XE.out, h0, h1, h7, h8, hlt]
      refine TF.seq ?_
      refine TF.block ?_
      refine TF.seq ?_
      refine TF.reg (call := oracle []) (by show 19 ≤ 1000000; decide) (by kernel_rfl) (oracle_ok _ (by simp)) ?_
      simp only [EVS, EVL, Nat.reduceEqDiff, Nat.reduceAdd, reduceIte, XE.then, XE.out, h0, h1, h7, h8, hlt]
      refine TF.seq ?_
      have hx1 : rows[i]? = some rows[i] := List.getElem?_eq_getElem hlt
      have hm := List.getElem_mem hlt
      generalize rows[i] = x at *
      obtain ⟨ub, uo, uc', uv, us, uw, e1, _, _, hcx, hdv, _, _⟩ := (W.gr g).rdRow hu hx1
      cases e1
      obtain ⟨rv, w2, k1, g2, b, rfl, hbb⟩ := clo19_ok x.vals ys (hx x hm) (us := us) (ua := uw) (W.gr g) hdv hv (Nat.lt_of_lt_of_le hb g.size) (by rw [g.cell hb]; exact hc)
      refine TF.reg (call := oracle [(19, ⟨[.agg ⟨[uv, us, uw]⟩, .pointer (some ⟨bp, 0, none⟩)]⟩, w1, .bool b, w2)]) (by show 19 ≤ 1000000; decide) (by kernel_rfl) (oracle_ok _ (by simpa using k1)) ?_
      simp only [EVS, EVL, Nat.reduceEqDiff, Nat.reduceAdd, reduceIte, XE.then, XE.out, h0, h1, h7, h8, hlt, hcx, res_tmp, callV_19]
      by_cases hq : b = true
      · have hc_hq := hq
        refine TF.cond (t := true) rfl (by simp only [EVS, EVL, Nat.reduceEqDiff, Nat.reduceAdd, reduceIte, XE.then, XE.out, h0, h1, h7, h8, hlt, hq]) ?_
        simp only [EVS, EVL, Nat.reduceEqDiff, Nat.reduceAdd, reduceIte, XE.then, XE.out, h0, h1, h7, h8, hlt, hq]
        refine TF.seq ?_
        refine TF.reg (call := oracle []) (by show 19 ≤ 1000000; decide) (by kernel_rfl) (oracle_ok _ (by simp)) ?_
        simp only [EVS, EVL, Nat.reduceEqDiff, Nat.reduceAdd, reduceIte, XE.then, XE.out, h0, h1, h7, h8, hlt, hq]
        refine TF.ret ?_
        try simp only [EVS, EVL, Nat.reduceEqDiff, Nat.reduceAdd, reduceIte, XE.then, XE.out, h0, h1, h7, h8, hlt, hq]
        exact ⟨g.trans g2, .inr ⟨i, x, rfl, hx1, hbb.1 hq, hno⟩⟩
      · have hc_hq := hq
        rw [Bool.not_eq_true] at hq
        refine TF.cond (t := false) rfl (by simp only [EVS, EVL, Nat.reduceEqDiff, Nat.reduceAdd, reduceIte, XE.then, XE.out, h0, h1, h7, h8, hlt, hq]) ?_
        simp only [EVS, EVL, Nat.reduceEqDiff, Nat.reduceAdd, reduceIte, XE.then, XE.out, h0, h1, h7, h8, hlt, hq]
        refine TF.skip ?_
        simp only [EVS, EVL, Nat.reduceEqDiff, Nat.reduceAdd, reduceIte, XE.then, XE.out, h0, h1, h7, h8, hlt, hq]
        refine TF.reg (call := oracle []) (by show 19 ≤ 1000000; decide) (by kernel_rfl) (oracle_ok _ (by simp)) ?_
        simp only [EVS, EVL, Nat.reduceEqDiff, Nat.reduceAdd, reduceIte, XE.then, XE.out, h0, h1, h7, h8, hlt, hq, wr1 (Nat.lt_trans hlt hn)]
        refine ⟨⟨i + 1, by omega, (by simp only [EVS, EVL, Nat.reduceEqDiff, Nat.reduceAdd, reduceIte, XE.then, XE.out, h0, h1, h7, h8, hlt, hq, wr1 (Nat.lt_trans hlt hn)]), (by simp only [EVS, EVL, Nat.reduceEqDiff, Nat.reduceAdd, reduceIte, XE.then, XE.out, h0, h1, h7, h8, hlt, hq, wr1 (Nat.lt_trans hlt hn)]), (by simp only [EVS, EVL, Nat.reduceEqDiff, Nat.reduceAdd, reduceIte, XE.then, XE.out, h0, h1, h7, h8, hlt, hq, wr1 (Nat.lt_trans hlt hn)]), (by simp only [EVS, EVL, Nat.reduceEqDiff, Nat.reduceAdd, reduceIte, XE.then, XE.out, h0, h1, h7, h8, hlt, hq, wr1 (Nat.lt_trans hlt hn)]), fun j z hj hz => ?_, g.trans g2⟩, ?_⟩
        · by_cases hji : j = i
          · subst hji; rw [hx1] at hz; cases hz; exact fun hh => by rw [hbb.2 hh] at hq; cases hq
          · exact hno j z (by omega) hz
        simp only [EVS, h8, wr1 (Nat.lt_trans hlt hn), Nat.reduceEqDiff, if_true, if_false, reduceIte]; omega
    · have hc_hlt := hlt
      refine TF.cond (t := false) rfl (by simp only [EVS, EVL, Nat.reduceEqDiff, Nat.reduceAdd, reduceIte, XE.then, XE.out, h0, h1, h7, h8, hlt]) ?_
      simp only [EVS, EVL, Nat.reduceEqDiff, Nat.reduceAdd, reduceIte, XE.then, XE.out, h0, h1, h7, h8, hlt]
      refine TF.exit ?_
      simp only [EVS, EVL, Nat.reduceEqDiff, Nat.reduceAdd, reduceIte, XE.then, XE.out, h0, h1, h7, h8, hlt]
      refine TF.seq ?_
      refine TF.reg (call := oracle []) (by show 19 ≤ 1000000; decide) (by kernel_rfl) (oracle_ok _ (by simp)) ?_
      simp only [EVS, EVL, Nat.reduceEqDiff, Nat.reduceAdd, reduceIte, XE.then, XE.out, h0, h1, h7, h8, hlt]
      refine TF.ret ?_
      try simp only [EVS, EVL, Nat.reduceEqDiff, Nat.reduceAdd, reduceIte, XE.then, XE.out, h0, h1, h7, h8, hlt]
      exact ⟨g, .inl fun j x hj => hno j x (by have := (List.getElem?_eq_some_iff.1 hj).1; omega) hj⟩

theorem same_ok (xs ys : List Val3) (hx : xs.length < 4611686018427387904) {Ψ : Psi} {w : AW} {u v : Value} (W : Wt Ψ w) (hu : Den Ψ u (lst encV xs)) (hv : Den Ψ v (lst encV ys)) : CallP 22 [u, v] w (fun r w' => Gr w w' ∧ ∃ b, r = .bool b ∧ (b = true ↔ xs = ys)) := by
  obtain ⟨rv, w2, k1, g2, k, rfl, hk⟩ := cmpRows_ok xs ys hx W hu hv
  refine CallP.of (t := 4) (args := [u, v]) Tryz.func22 rfl rfl (by simp) (by show _ ≤ 9; simp) ?_
  have a0 : argsE [u, v] 0 = u := rfl
  have a1 : argsE [u, v] 1 = v := rfl
  refine TF.seq ?_
  refine TF.reg (call := oracle []) (by show 9 ≤ 1000000; decide) (by kernel_rfl) (oracle_ok _ (by simp)) ?_
  simp only [EVS, EVL, Nat.reduceEqDiff, Nat.reduceAdd, reduceIte, XE.then, XE.out, a0, a1]
  refine TF.seq ?_
  refine TF.reg (call := oracle [(48, ⟨[u, v]⟩, w, .int .i64 k, w2)]) (by show 9 ≤ 1000000; decide) (by kernel_rfl) (oracle_ok _ (by simpa using k1)) ?_
  simp only [EVS, EVL, Nat.reduceEqDiff, Nat.reduceAdd, reduceIte, XE.then, XE.out, a0, a1]
  refine TF.ret ?_
  try simp only [EVS, EVL, Nat.reduceEqDiff, Nat.reduceAdd, reduceIte, XE.then, XE.out, a0, a1]
  exact ⟨g2, _, rfl, by rw [beq_iff_eq]; exact hk⟩


/-- What Find answers. -/
def FindRes (enc : α → Dt) (rows : List (ARow α)) (ys : List Val3) (Ψ : Psi) (r : Value) : Prop :=
  (∃ (i : Nat) (x : ARow α) (uv us ua : Value), rows[i]? = some x ∧ x.vals = ys ∧ (∀ (j : Nat) z, j < i → rows[j]? = some z → z.vals ≠ ys) ∧ r = .tuple ⟨[.agg ⟨[uv, us, ua]⟩, .bool true]⟩ ∧ Den Ψ uv (lst encV x.vals) ∧ Den Ψ us (lst (encSum enc) x.sums) ∧ Den Ψ ua (enc x.ann)) ∨
  ((∀ (j : Nat) z, rows[j]? = some z → z.vals ≠ ys) ∧ r = .tuple ⟨[.agg ⟨[.slice none 0 0, .slice none 0 0, .slice none 0 0]⟩, .bool false]⟩)

theorem bld33 (e : Operand → Value) : v_build Tryz.prog e 33 #[] = some (.agg ⟨[.slice none 0 0, .slice none 0 0, .slice none 0 0]⟩) := by kernel_rfl
theorem over_all {c l : List Value} {o n : Nat} (hl : l.length = n) (hc : c.length = n) (h0 : o = 0) : c.take o ++ l ++ c.drop (o + n) = l := by
  subst h0
  rw [List.take_zero, List.nil_append, List.drop_of_length_le (by omega), List.append_nil]

/-- A write over the whole of a block that is new. -/
theorem store_box {t n : Nat} (h : stOk Tryz.prog t n = true) {b : Nat} {w0 w : AW} {l c : List Value} {el : TypeId} (hl : l.length = n) (h1 : l.all oneC = true) (hc : c.length = n) (hg : w.heap.get b = some (.row c el 0)) (g : Gr w0 w) (hlow : w0.low ≤ w0.size) (hb : w0.size ≤ b) (hb2 : b < w.size) :
    ∃ w1, storeW Tryz.prog t (.pointer (some ⟨b, 0, none⟩)) (.agg ⟨l⟩) w = some (undef, w1) ∧ Gr w0 w1 ∧ w1.size = w.size ∧ w1.heap.get b = some (.row l el 0) ∧ ∀ j, j ≠ b → w1.heap.get j = w.heap.get j := by
  obtain ⟨w1, s1, s2, s3, s4⟩ := storeW_ok h (v := .agg ⟨l⟩) (l := l) (o := 0) rfl hl h1 hg (Nat.zero_le _) (by omega)
  rw [over_all hl hc rfl] at s4
  refine ⟨w1, s1, ⟨by rw [s3, g.low, if_pos (by omega)], by have := g.size; omega, fun i hi => by rw [s4, if_neg (by omega)]; exact g.same i hi⟩, s2, by rw [s4, if_pos rfl], fun j hj => by rw [s4, if_neg hj]⟩

theorem rfind_ok (rows : List (ARow α)) (ys : List Val3) (hn : rows.length < 4611686018427387904) (hx : ∀ x ∈ rows, x.vals.length < 4611686018427387904) {Ψ : Psi} {w : AW} {ucol u uab v : Value} (W : Wt Ψ w) (hu : Den Ψ u (lst (encRow enc) rows)) (hv : Den Ψ v (lst encV ys)) : CallP 7 [.agg ⟨[ucol, u, uab]⟩, v] w (fun r w' => Gr w w' ∧ FindRes enc rows ys Ψ r) := by
  obtain ⟨ua, uc, rfl⟩ := hu.len
  obtain ⟨w1, b1, g1, z1, r1⟩ := boxW_ok 25 (.agg ⟨[ucol, .slice ua rows.length uc, uab]⟩) w
  obtain ⟨w2, zz, b2, g2, z2, r2, hzz⟩ := allocW_ok al_33 w1
  have r1' : w2.heap.get w.size = some (.row [ucol, .slice ua rows.length uc, uab] 25 0) := by rw [g2.same _ (by omega)]; exact r1
  have g12 := g1.trans g2
  have W2 := W.gr g12
  refine CallP.ofR (args := [.agg ⟨[ucol, .slice ua rows.length uc, uab]⟩, v]) Tryz.func7 rfl (by simp) (by show _ ≤ 28; simp) ?_
  have a0 : argsE [.agg ⟨[ucol, .slice ua rows.length uc, uab]⟩, v] 0 = .agg ⟨[ucol, .slice ua rows.length uc, uab]⟩ := rfl
  have a1 : argsE [.agg ⟨[ucol, .slice ua rows.length uc, uab]⟩, v] 1 = v := rfl
  refine TF.seq ?_
  refine TF.reg (call := oracle []) (by show 28 ≤ 1000000; decide) (by kernel_rfl) (oracle_ok _ (by simp)) ?_
  simp only [EVS, EVL, Nat.reduceEqDiff, Nat.reduceAdd, reduceIte, XE.then, XE.out, b1, b2, a0, a1]
  refine TF.seq ?_
  refine TF.seq ?_
  refine TF.reg (call := oracle []) (by show 28 ≤ 1000000; decide) (by kernel_rfl) (oracle_ok _ (by simp)) ?_
  simp only [EVS, EVL, Nat.reduceEqDiff, Nat.reduceAdd, reduceIte, XE.then, XE.out, b1, b2, a0, a1]
  refine TF.block ?_
  generalize hw0 : w = w0 at *
  refine TF.loopH (fun e w => ∃ i : Nat, i ≤ rows.length ∧ e 1 = v ∧ e 2 = .pointer (some ⟨w0.size, 0, none⟩) ∧ e 4 = .pointer (some ⟨w1.size, 0, none⟩) ∧ e 6 = .int .i64 i ∧ (∀ (j : Nat) z, j < i → rows[j]? = some z → z.vals ≠ ys) ∧ Gr w2 w) (fun e w => rows.length - natOf (e 6)) ?_ ?_
  · exact ⟨0, Nat.zero_le _, a1, (by simp only [EVS, EVL, Nat.reduceEqDiff, Nat.reduceAdd, reduceIte, XE.then, XE.out, b1, b2, a0, a1]), (by simp only [EVS, EVL, Nat.reduceEqDiff, Nat.reduceAdd, reduceIte, XE.then, XE.out, b1, b2, a0, a1]), rfl, fun j z h => absurd h (Nat.not_lt_zero _), Gr.refl _⟩
  · rintro e w3 ⟨i, hi1, h1, h2, h4, h6, hno, g⟩
    have c0 : w3.cell ⟨w0.size, 1, none⟩ = some (.slice ua rows.length uc) := by rw [g.cell (by omega), cell_at r1']; rfl
    refine TF.seq ?_
    refine TF.seq ?_
    refine TF.reg (call := oracle []) (by show 28 ≤ 1000000; decide) (by kernel_rfl) (oracle_ok _ (by simp)) ?_
    simp only [EVS, EVL, Nat.reduceEqDiff, Nat.reduceAdd, reduceIte, XE.then, XE.out, b1, b2, h1, h2, h4, h6, c0]
    by_cases hlt : i < rows.length
    · have hc_hlt := hlt
      refine TF.cond (t := true) rfl (by simp only [EVS, EVL, Nat.reduceEqDiff, Nat.reduceAdd, reduceIte, XE.then, XE.out, b1, b2, h1, h2, h4, h6, c0, hlt]) ?_
      simp only [EVS, EVL, Nat.reduceEqDiff, Nat.reduceAdd, reduceIte, XE.then, XE.out, b1, b2, h1, h2, h4, h6, c0, hlt]
      refine TF.skip ?_
      simp only [EVS, EVL, Nat.reduceEqDiff, Nat.reduceAdd, reduceIte, XE.then, XE.out, b1, b2, h1, h2, h4, h6, c0, hlt]
      refine TF.seq ?_
      refine TF.block ?_
      refine TF.seq ?_
      have hx1 : rows[i]? = some rows[i] := List.getElem?_eq_getElem hlt
      have hm := List.getElem_mem hlt
      generalize rows[i] = x at *
      obtain ⟨ub, uo, uc', uv, us, uw, e1, _, hbub, hcx, hdv, hds, hda⟩ := (W2.gr g).rdRow hu hx1
      cases e1
      have hcv := cell_of0 hcx rfl
      obtain ⟨rv, w4, k1, g4, b, rfl, hbb⟩ := same_ok x.vals ys (hx x hm) (W2.gr g) hdv hv
      refine TF.reg (call := oracle [(22, ⟨[uv, v]⟩, w3, .bool b, w4)]) (by show 28 ≤ 1000000; decide) (by kernel_rfl) (oracle_ok _ (by simpa using k1)) ?_
      simp only [EVS, EVL, Nat.reduceEqDiff, Nat.reduceAdd, reduceIte, XE.then, XE.out, b1, b2, h1, h2, h4, h6, c0, hlt, hcv]
      by_cases hq : b = true
      · have hc_hq := hq
        refine TF.cond (t := true) rfl (by simp only [EVS, EVL, Nat.reduceEqDiff, Nat.reduceAdd, reduceIte, XE.then, XE.out, b1, b2, h1, h2, h4, h6, c0, hlt, hq]) ?_
        simp only [EVS, EVL, Nat.reduceEqDiff, Nat.reduceAdd, reduceIte, XE.then, XE.out, b1, b2, h1, h2, h4, h6, c0, hlt, hq]
        refine TF.seq ?_
        have c4 : w4.cell ⟨w0.size, 1, none⟩ = some (.slice (some ⟨ub, uo, none⟩) rows.length uc) := by rw [g4.cell (by have := g.size; omega)]; exact c0
        have hcx4 : w4.cells ⟨ub, uo + i * 3, none⟩ 3 = some [uv, us, uw] := by rw [g4.cells (by omega)]; exact hcx
        obtain ⟨w5, s1, s2, s3, s4, s5⟩ := store_box st_33 (t := 33) (b := w1.size) (l := [uv, us, uw]) rfl (by simp [hdv.one, hds.one, hda.one]) hzz (by rw [(g.trans g4).same _ (by omega)]; exact r2) (g12.trans (g.trans g4)) W.low (by omega) (by have := (g.trans g4).size; omega)
        refine TF.reg (call := oracle []) (by show 28 ≤ 1000000; decide) (by kernel_rfl) (oracle_ok _ (by simp)) ?_
        simp only [EVS, EVL, Nat.reduceEqDiff, Nat.reduceAdd, reduceIte, XE.then, XE.out, b1, b2, h1, h2, h4, h6, c0, hlt, hq, c4, hcx4, s1]
        refine TF.ret ?_
        try simp only [EVS, EVL, Nat.reduceEqDiff, Nat.reduceAdd, reduceIte, XE.then, XE.out, b1, b2, h1, h2, h4, h6, c0, hlt, hq]
        refine FinR.two rfl (by simp only [EVS, h4, Nat.reduceEqDiff, if_true, if_false, reduceIte]) (ldc_agg ty_33 (row_cells s4 rfl)) ⟨s2, .inl ⟨i, x, uv, us, uw, hx1, hbb.1 hq, hno, ?_, hdv, hds, hda⟩⟩
        simp only [EVS, Nat.reduceEqDiff, if_true, if_false, reduceIte]
      · have hc_hq := hq
        rw [Bool.not_eq_true] at hq
        refine TF.cond (t := false) rfl (by simp only [EVS, EVL, Nat.reduceEqDiff, Nat.reduceAdd, reduceIte, XE.then, XE.out, b1, b2, h1, h2, h4, h6, c0, hlt, hq]) ?_
        simp only [EVS, EVL, Nat.reduceEqDiff, Nat.reduceAdd, reduceIte, XE.then, XE.out, b1, b2, h1, h2, h4, h6, c0, hlt, hq]
        refine TF.skip ?_
        simp only [EVS, EVL, Nat.reduceEqDiff, Nat.reduceAdd, reduceIte, XE.then, XE.out, b1, b2, h1, h2, h4, h6, c0, hlt, hq]
        refine TF.reg (call := oracle []) (by show 28 ≤ 1000000; decide) (by kernel_rfl) (oracle_ok _ (by simp)) ?_
        simp only [EVS, EVL, Nat.reduceEqDiff, Nat.reduceAdd, reduceIte, XE.then, XE.out, b1, b2, h1, h2, h4, h6, c0, hlt, hq, wr1 (Nat.lt_trans hlt hn)]
        refine ⟨⟨i + 1, by omega, (by simp only [EVS, EVL, Nat.reduceEqDiff, Nat.reduceAdd, reduceIte, XE.then, XE.out, b1, b2, h1, h2, h4, h6, c0, hlt, hq, wr1 (Nat.lt_trans hlt hn)]), (by simp only [EVS, EVL, Nat.reduceEqDiff, Nat.reduceAdd, reduceIte, XE.then, XE.out, b1, b2, h1, h2, h4, h6, c0, hlt, hq, wr1 (Nat.lt_trans hlt hn)]), (by simp only [EVS, EVL, Nat.reduceEqDiff, Nat.reduceAdd, reduceIte, XE.then, XE.out, b1, b2, h1, h2, h4, h6, c0, hlt, hq, wr1 (Nat.lt_trans hlt hn)]), (by simp only [EVS, EVL, Nat.reduceEqDiff, Nat.reduceAdd, reduceIte, XE.then, XE.out, b1, b2, h1, h2, h4, h6, c0, hlt, hq, wr1 (Nat.lt_trans hlt hn)]), fun j z hj hz => ?_, g.trans g4⟩, ?_⟩
        · by_cases hji : j = i
          · subst hji; rw [hx1] at hz; cases hz; exact fun hh => by rw [hbb.2 hh] at hq; cases hq
          · exact hno j z (by omega) hz
        simp only [EVS, h6, wr1 (Nat.lt_trans hlt hn), Nat.reduceEqDiff, if_true, if_false, reduceIte]; omega
    · have hc_hlt := hlt
      refine TF.cond (t := false) rfl (by simp only [EVS, EVL, Nat.reduceEqDiff, Nat.reduceAdd, reduceIte, XE.then, XE.out, b1, b2, h1, h2, h4, h6, c0, hlt]) ?_
      simp only [EVS, EVL, Nat.reduceEqDiff, Nat.reduceAdd, reduceIte, XE.then, XE.out, b1, b2, h1, h2, h4, h6, c0, hlt]
      refine TF.exit ?_
      simp only [EVS, EVL, Nat.reduceEqDiff, Nat.reduceAdd, reduceIte, XE.then, XE.out, b1, b2, h1, h2, h4, h6, c0, hlt]
      refine TF.seq ?_
      obtain ⟨w5, s1, s2, s3, s4, s5⟩ := store_box st_33 (t := 33) (b := w1.size) (l := [.slice none 0 0, .slice none 0 0, .slice none 0 0]) rfl rfl hzz (by rw [g.same _ (by omega)]; exact r2) (g12.trans g) W.low (by omega) (by have := g.size; omega)
      refine TF.reg (call := oracle []) (by show 28 ≤ 1000000; decide) (by kernel_rfl) (oracle_ok _ (by simp)) ?_
      simp only [EVS, EVL, Nat.reduceEqDiff, Nat.reduceAdd, reduceIte, XE.then, XE.out, b1, b2, h1, h2, h4, h6, c0, hlt, res_build, bld33, s1]
      refine TF.ret ?_
      try simp only [EVS, EVL, Nat.reduceEqDiff, Nat.reduceAdd, reduceIte, XE.then, XE.out, b1, b2, h1, h2, h4, h6, c0, hlt]
      refine FinR.two rfl (by simp only [EVS, h4, Nat.reduceEqDiff, if_true, if_false, reduceIte]) (ldc_agg ty_33 (row_cells s4 rfl)) ⟨s2, .inr ⟨fun j x hj => hno j x (by have := (List.getElem?_eq_some_iff.1 hj).1; omega) hj, ?_⟩⟩
      simp only [EVS, Nat.reduceEqDiff, if_true, if_false, reduceIte]

end

end Go.Proofs.YtkjbbbjebidniaaGreatDoor
