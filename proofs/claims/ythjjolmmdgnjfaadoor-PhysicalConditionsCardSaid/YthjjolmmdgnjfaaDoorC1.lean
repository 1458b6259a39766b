/- The reference's 'limit'. -/
import Derived.Test.YthjjolmmdgnjfaaDoorB3
namespace Go.Proofs.YthjjolmmdgnjfaaDoor
open Go.RowKit Go.Proofs.YthjjolmmdgnjfaaDoorW.PrintWords PPhysicalConditions
set_option linter.unusedVariables false
def mir2 (k : Int) : Int := if k = 7 then 9 else if k = 9 then 7 else if k = 8 then 10 else if k = 10 then 8 else k
def limF (y : S26) : Option S55 :=
  if (y.f0 == 2 && ((y.f4.length : Int) == 2)) = true then
    (if (isCon (rd_T26 y.f4 0) && isCol (rd_T26 y.f4 1)) = true then some ⟨(rd_T26 y.f4 1).f1, mir2 y.f3, (rd_T26 y.f4 0).f2⟩
    else if (isCol (rd_T26 y.f4 0) && isCon (rd_T26 y.f4 1)) = true then some ⟨(rd_T26 y.f4 0).f1, y.f3, (rd_T26 y.f4 1).f2⟩ else none)
  else none
def LimPost (o : Option S55) (w : World) (e : Ending) (w' : World) : Prop := ∃ (q : S55) (b : Bool), e = .returned (.tuple #[.int .i64 q.f0, .int .i64 q.f1, Ag23 q.f2, .bool b]) ∧ b = o.isSome ∧ (∀ r, o = some r → r = q) ∧ Below w.heap.size w w'
theorem limPost_none {o : Option S55} {w w' : World} (h : o = none) (hb : Below w.heap.size w w') : LimPost o w (.returned (.tuple #[.int .i64 0, .int .i64 0, .agg #[.int .i64 0, .int .i64 0, .string ⟨#[]⟩], .bool false])) w' :=
  ⟨⟨0, 0, z23⟩, false, rfl, by rw [h]; rfl, (fun r hr => by rw [h] at hr; cases hr), hb⟩
theorem limPost_some {o : Option S55} {q : S55} {w w' : World} (h : o = some q) (hb : Below w.heap.size w w') : LimPost o w (.returned (.tuple #[.int .i64 q.f0, .int .i64 q.f1, Ag23 q.f2, .bool true])) w' :=
  ⟨q, true, rfl, by rw [h]; rfl, (fun r hr => by rw [h] at hr; cases hr; rfl), hb⟩
abbrev W3c (W : World) (g : Nat) (v0 v1 v2 : Value) : World := ((W.setCell ⟨g, 0, none⟩ v0).setCell ⟨g, 1, none⟩ v1).setCell ⟨g, 2, none⟩ v2
theorem con_col {u : S26} (h : isCon u = true) : isCol u = false := by
  simp only [isCon, isCol, Bool.and_eq_true, beq_iff_eq] at *
  simp [h.1]
abbrev Z23 : Array Value := #[.int .i64 0, .int .i64 0, .string ⟨#[]⟩]
abbrev Cs23 (x : S23) : Array Value := #[.int .i64 x.f0, .int .i64 x.f1, .string x.f2]
theorem box3 {W : World} {g : Nat} {T : TypeId} {a0 a1 a2 : Value} (h : W.heap[g]? = some (.cells #[a0, a1, a2] T (0, 0))) : (W.cell? ⟨g, 0, none⟩ = some a0 ∧ W.cell? ⟨g, 1, none⟩ = some a1 ∧ W.cell? ⟨g, 2, none⟩ = some a2) :=
  ⟨(blk_cell h 0).trans rfl, (blk_cell h 1).trans rfl, (blk_cell h 2).trans rfl⟩
section
variable {ops : Array Oper} {rest : List Oper} {o : Oper} {a : Act} {Q : Exit → Act → World → Prop}
theorem put3_event {W : World} (hgd : o.guard = none) (hN : o.dst = none) {p v : Operand} (ho : o.op = .store 23 p v) {g : Nat} {cs : Array Value} {T : TypeId}
    (hb : W.heap[g]? = some (.cells cs T (0, 0))) (hp : a.eval p = .pointer (some ⟨g, 0, none⟩)) {a0 a1 : Int} {s : ByteArray} (hv : a.eval v = .agg #[.int .i64 a0, .int .i64 a1, .string s]) (hs : 3 = cs.size)
    (h : ∀ W1, W1.heap[g]? = some (.cells #[.int .i64 a0, .int .i64 a1, .string s] T (0, 0)) → Put W g W1 → wpList Tryd.prog ops Q rest a W1) : wpList Tryd.prog ops Q (o :: rest) a W :=
  put_event (vs := [.int .i64 a0, .int .i64 a1, .string s]) hgd hN ho hb hp (by rw [hv]; rfl) hs (by kernel_rfl) (by
    intro q hq
    simp only [List.mem_cons, List.not_mem_nil, or_false] at hq
    rcases hq with rfl | rfl | rfl <;> rfl) h
end
set_option maxRecDepth 100000 in
set_option maxHeartbeats 4000000 in
theorem limit_calls (y : S26) (A6 : Option Addr) (c6 : Nat) (P : Nat → Prop) (w : World) (hc : y.f4.length ≤ c6) (hF : Kd.F k26 w P A6 y.f4.length y.f4) :
    Calls Tryd.prog 39 #[Ag y A6 c6] w (LimPost (limF y) w) := by
  have HC := Aside0.mk hc
  have HF := Aside0.mk hF
  clear hc hF
  cases t0 : (y.f0 == 2)
  case false =>
    have t0' : (y.f0 != 2) = true := by simpa using t0
    have HV := Aside0.mk (show limF y = none by simp [limF, t0])
    go_enter Tryd.func39, Tryd.ntmps39
    go_wp2
    refine bodyPost_ret (v := .tuple #[.int .i64 0, .int .i64 0, .agg #[.int .i64 0, .int .i64 0, .string ⟨#[]⟩], .bool false]) (by simp [results, Tryd.results39, go_sem]) rfl ?_
    exact limPost_none HV.out (by repeat (first | exact Below.refl _ _ | apply below_alloc))
  have t0' : (y.f0 != 2) = false := by simpa using t0
  cases t4 : ((y.f4.length : Int) == 2)
  case false =>
    have t4' : ((y.f4.length : Int) != 2) = true := by simpa using t4
    have HV := Aside0.mk (show limF y = none by simp [limF, t4])
    go_enter Tryd.func39, Tryd.ntmps39
    go_wp2
    refine bodyPost_ret (v := .tuple #[.int .i64 0, .int .i64 0, .agg #[.int .i64 0, .int .i64 0, .string ⟨#[]⟩], .bool false]) (by simp [results, Tryd.results39, go_sem]) rfl ?_
    exact limPost_none HV.out (by repeat (first | exact Below.refl _ _ | apply below_alloc))
  have t4' : ((y.f4.length : Int) != 2) = false := by simpa using t4
  have HL2 := Aside0.mk (show (y.f4.length : Int) = 2 by simpa using t4)
  have HV := Aside0.mk (show limF y = (if (isCon (rd_T26 y.f4 0) && isCol (rd_T26 y.f4 1)) = true then some ⟨(rd_T26 y.f4 1).f1, mir2 y.f3, (rd_T26 y.f4 0).f2⟩ else if (isCol (rd_T26 y.f4 0) && isCon (rd_T26 y.f4 1)) = true then some ⟨(rd_T26 y.f4 0).f1, y.f3, (rd_T26 y.f4 1).f2⟩ else none) by
    unfold limF
    rw [if_pos (by simp [t0, t4])])
  clear t0 t4
  go_enter Tryd.func39, Tryd.ntmps39
  go_upto_region 1 with (fail)
  have HB0 := Aside0.mk (below_alloc (below_alloc (Below.refl w.heap.size w) (.cells (Cs y A6 c6) 26)) (.cells Z23 23))
  have HZ2 := Aside0.mk (blk_alloc (blk_new w (.cells (Cs y A6 c6) 26)) (.cells Z23 23))
  have HX4 := Aside0.mk (show ((w.alloc (.cells (Cs y A6 c6) 26)).alloc (.cells Z23 23)).heap[w.heap.size + 1]? = some (.cells Z23 23 (0, 0)) by
    have := blk_new (w.alloc (.cells (Cs y A6 c6) 26)) (.cells Z23 23)
    rwa [World.size_alloc] at this)
  have HF0 := Aside0.mk (Kd.F_alloc (Kd.F_alloc HF.out (.cells (Cs y A6 c6) 26)) (.cells Z23 23))
  have HS0 := Aside0.mk (show ((w.alloc (.cells (Cs y A6 c6) 26)).alloc (.cells Z23 23)).heap.size = w.heap.size + 2 by rw [World.size_alloc, World.size_alloc])
  obtain ⟨W2, hW2⟩ : ∃ W2 : World, (w.alloc (.cells (Cs y A6 c6) 26)).alloc (.cells Z23 23) = W2 := ⟨_, rfl⟩
  rw [hW2] at HB0 HZ2 HX4 HF0 HS0 ⊢
  clear hW2
  obtain ⟨b0, b1, b2, b3, b4, b5, b6⟩ := box7 HZ2.out
  have e0 : 0 < y.f4.length := by have := HL2.out; omega
  have e1 : (1 : Int) < (y.f4.length : Int) := by have := HL2.out; omega
  go_upto_region 3 with (fail)
  obtain ⟨ad2, A0, c0, A1, c1, e2, ⟨x0, x1, x2, x3, x4, x5, x6⟩, ⟨y0, y1, y2, y3, y4, y5, y6⟩, ⟨l0, g0⟩, ⟨l1, g1⟩, p0⟩ := at26F01 HF0.out (by have := HL2.out; omega)
  subst e2
  clear l0 g0 l1 g1 p0 b0 b1 b2 b3 b4 t0' t4'
  obtain ⟨u, hu⟩ : ∃ u, rd_T26 y.f4 0 = u := ⟨_, rfl⟩
  obtain ⟨v, hv⟩ : ∃ v, rd_T26 y.f4 1 = v := ⟨_, rfl⟩
  rw [hu] at x0 x1 x2 x3 x4 x5 x6 HV
  rw [hv] at y0 y1 y2 y3 y4 y5 y6 HV
  clear hu hv
  have W2d : ∀ {a : Addr} {v : Value}, W2.cell? a = some v → W2.drew.cell? a = some v := fun h => h
  go_region_held3 (fun w' => w'.cell? ⟨w.heap.size, 5, none⟩ = some (.int .i64 y.f3) ∧ w'.cell? ⟨w.heap.size, 6, none⟩ = some (.slice (some ad2) y.f4.length c6) ∧ w'.cell? ad2 = some (.int .i64 u.f0) ∧ w'.cell? ⟨ad2.block, ad2.off + 1, none⟩ = some (.int .i64 u.f1) ∧ w'.cell? ⟨ad2.block, ad2.off + 2, none⟩ = some (.int .i64 u.f2.f0) ∧ w'.cell? ⟨ad2.block, ad2.off + 3, none⟩ = some (.int .i64 u.f2.f1) ∧ w'.cell? ⟨ad2.block, ad2.off + 4, none⟩ = some (.string u.f2.f2) ∧ w'.cell? ⟨ad2.block, ad2.off + 5, none⟩ = some (.int .i64 u.f3) ∧ w'.cell? ⟨ad2.block, ad2.off + 6, none⟩ = some (.slice A0 u.f4.length c0) ∧ w'.cell? ⟨ad2.block, ad2.off + 7, none⟩ = some (.int .i64 v.f0) ∧ w'.cell? ⟨ad2.block, ad2.off + 7 + 1, none⟩ = some (.int .i64 v.f1) ∧ w'.cell? ⟨ad2.block, ad2.off + 7 + 2, none⟩ = some (.int .i64 v.f2.f0) ∧ w'.cell? ⟨ad2.block, ad2.off + 7 + 3, none⟩ = some (.int .i64 v.f2.f1) ∧ w'.cell? ⟨ad2.block, ad2.off + 7 + 4, none⟩ = some (.string v.f2.f2) ∧ w'.cell? ⟨ad2.block, ad2.off + 7 + 5, none⟩ = some (.int .i64 v.f3) ∧ w'.cell? ⟨ad2.block, ad2.off + 7 + 6, none⟩ = some (.slice A1 v.f4.length c1)) (first | exact ⟨b5, b6, x0, x1, x2, x3, x4, x5, x6, y0, y1, y2, y3, y4, y5, y6⟩ | exact ⟨cell_al (W2d b5) _, cell_al (W2d b6) _, cell_al (W2d x0) _, cell_al (W2d x1) _, cell_al (W2d x2) _, cell_al (W2d x3) _, cell_al (W2d x4) _, cell_al (W2d x5) _, cell_al (W2d x6) _, cell_al (W2d y0) _, cell_al (W2d y1) _, cell_al (W2d y2) _, cell_al (W2d y3) _, cell_al (W2d y4) _, cell_al (W2d y5) _, cell_al (W2d y6) _⟩ | exact ⟨cell_al (cell_al (W2d b5) _) _, cell_al (cell_al (W2d b6) _) _, cell_al (cell_al (W2d x0) _) _, cell_al (cell_al (W2d x1) _) _, cell_al (cell_al (W2d x2) _) _, cell_al (cell_al (W2d x3) _) _, cell_al (cell_al (W2d x4) _) _, cell_al (cell_al (W2d x5) _) _, cell_al (cell_al (W2d x6) _) _, cell_al (cell_al (W2d y0) _) _, cell_al (cell_al (W2d y1) _) _, cell_al (cell_al (W2d y2) _) _, cell_al (cell_al (W2d y3) _) _, cell_al (cell_al (W2d y4) _) _, cell_al (cell_al (W2d y5) _) _, cell_al (cell_al (W2d y6) _) _⟩) (fail)
  all_goals first
    | (obtain ⟨W3, hW3⟩ : ∃ W3 : World, ((W2.alloc (.cells (Cs v A1 c1) 26)).alloc (.cells (Cs u A0 c0) 26)).drew = W3 := ⟨_, rfl⟩; rw [hW3]; have HB3 := Aside0.mk (show Below W2.heap.size W2 W3 by rw [← hW3]; exact below_drew (below_alloc (below_alloc (Below.refl _ _) _) _)); have HX6 := Aside0.mk (show W3.heap[W2.heap.size + 1]? = some (.cells (Cs u A0 c0) 26 (0, 0)) by rw [← hW3]; exact new1 _ _ _); have HX7 := Aside0.mk (show W3.heap[W2.heap.size]? = some (.cells (Cs v A1 c1) 26 (0, 0)) by rw [← hW3]; exact new0 _ _ _); obtain ⟨g6, hg6⟩ : ∃ g, g = W2.heap.size + 1 := ⟨_, rfl⟩; obtain ⟨g7, hg7⟩ : ∃ g, g = W2.heap.size := ⟨_, rfl⟩; have HN := Aside0.mk (show g6 ≠ g7 ∧ g6 ≠ w.heap.size + 1 ∧ g7 ≠ w.heap.size + 1 ∧ w.heap.size ≤ g6 ∧ w.heap.size ≤ g7 by have := HS0.out; omega); rw [← hg6] at HX6; rw [← hg7] at HX7; rw [← hg6, ← hg7]; clear hg6 hg7 hW3)
    | (obtain ⟨W3, hW3⟩ : ∃ W3 : World, ((W2.alloc (.cells (Cs u A0 c0) 26)).alloc (.cells (Cs v A1 c1) 26)).drew = W3 := ⟨_, rfl⟩; rw [hW3]; have HB3 := Aside0.mk (show Below W2.heap.size W2 W3 by rw [← hW3]; exact below_drew (below_alloc (below_alloc (Below.refl _ _) _) _)); have HX6 := Aside0.mk (show W3.heap[W2.heap.size]? = some (.cells (Cs u A0 c0) 26 (0, 0)) by rw [← hW3]; exact new0 _ _ _); have HX7 := Aside0.mk (show W3.heap[W2.heap.size + 1]? = some (.cells (Cs v A1 c1) 26 (0, 0)) by rw [← hW3]; exact new1 _ _ _); obtain ⟨g6, hg6⟩ : ∃ g, g = W2.heap.size := ⟨_, rfl⟩; obtain ⟨g7, hg7⟩ : ∃ g, g = W2.heap.size + 1 := ⟨_, rfl⟩; have HN := Aside0.mk (show g6 ≠ g7 ∧ g6 ≠ w.heap.size + 1 ∧ g7 ≠ w.heap.size + 1 ∧ w.heap.size ≤ g6 ∧ w.heap.size ≤ g7 by have := HS0.out; omega); rw [← hg6] at HX6; rw [← hg7] at HX7; rw [← hg7, ← hg6]; clear hg6 hg7 hW3)
  all_goals
    clear b5 b6 x0 x1 x2 x3 x4 x5 x6 y0 y1 y2 y3 y4 y5 y6 W2d
    have HX4 := Aside0.mk (blk_below HX4.out HB3.out)
    have HBw := Aside0.mk (below_then HB0.out HB0.out.size HB3.out)
    clear HB0 HB3 HF0 HF HZ2
    obtain ⟨a0, a1, a2, a3, a4, a5, a6⟩ := box7 HX6.out
    cases qa : isCon u
    case false =>
      have qa' : (u.f0 == 0 && ((u.f4.length : Int) == 0)) = false := qa
      go_upto_region 15 with (first | (go_at_call 43; refine (isConstant_calls u A0 c0 _).mono ?_; rintro e W4 ⟨rfl, hb4⟩; rw [qa']) | fail)
      have HX6' := Aside0.mk (blk_below HX6.out hb4)
      have HX7' := Aside0.mk (blk_below HX7.out hb4)
      have HX4' := Aside0.mk (blk_below HX4.out hb4)
      have HB6 := Aside0.mk (below_then HBw.out HBw.out.size hb4)
      clear hb4 a0 a1 a2 a3 a4 a5 a6
      obtain ⟨a0, a1, a2, a3, a4, a5, a6⟩ := box7 HX6'.out
      cases ql : isCol u
      case false =>
        have ql' : (u.f0 == 1 && ((u.f4.length : Int) == 0)) = false := ql
        have HW := Aside0.mk (show limF y = none by rw [HV.out, qa, ql]; rfl)
        go_wp2_with (first | (go_at_call 37; refine (isColumn_calls u A0 c0 _).mono ?_; rintro e W7 ⟨rfl, hb7⟩; rw [ql']; have HX4B := blk_below HX4'.out hb7) | (refine put3_event (g := w.heap.size + 1) rfl rfl rfl HX4B rfl rfl rfl ?_; intro W9 hx9 hp9; obtain ⟨z0, z1, z2⟩ := box3 hx9) | fail)
        refine bodyPost_ret (v := .tuple #[.int .i64 0, .int .i64 0, .agg #[.int .i64 0, .int .i64 0, .string ⟨#[]⟩], .bool false]) (by simp [results, Tryd.results39, go_sem, z0, z1, z2]) rfl ?_
        exact limPost_none HW.out (hp9.below (below_then HB6.out HB6.out.size hb7) (by omega))
      case true =>
        have ql' : (u.f0 == 1 && ((u.f4.length : Int) == 0)) = true := ql
        cases qv : isCon v
        case false =>
          have qv' : (v.f0 == 0 && ((v.f4.length : Int) == 0)) = false := qv
          have HW := Aside0.mk (show limF y = none by rw [HV.out, qa, ql, qv]; rfl)
          go_wp2_with (first | (go_at_call 37; refine (isColumn_calls u A0 c0 _).mono ?_; rintro e W7 ⟨rfl, hb7⟩; rw [ql']; have hX7 := blk_below HX7'.out hb7; have hX4 := blk_below HX4'.out hb7; obtain ⟨b0, b1, b2, b3, b4, b5, b6⟩ := box7 hX7) | (go_at_call 43; refine (isConstant_calls v A1 c1 _).mono ?_; rintro e W8 ⟨rfl, hb8⟩; rw [qv']; have HX4B := blk_below hX4 hb8) | (refine put3_event (g := w.heap.size + 1) rfl rfl rfl HX4B rfl rfl rfl ?_; intro W9 hx9 hp9; obtain ⟨z0, z1, z2⟩ := box3 hx9) | fail)
          refine bodyPost_ret (v := .tuple #[.int .i64 0, .int .i64 0, .agg #[.int .i64 0, .int .i64 0, .string ⟨#[]⟩], .bool false]) (by simp [results, Tryd.results39, go_sem, z0, z1, z2]) rfl ?_
          exact limPost_none HW.out (hp9.below (below_then (below_then HB6.out HB6.out.size hb7) (Nat.le_trans HB6.out.size hb7.size) hb8) (by omega))
        case true =>
          have qv' : (v.f0 == 0 && ((v.f4.length : Int) == 0)) = true := qv
          have HW := Aside0.mk (show limF y = some ⟨u.f1, y.f3, v.f2⟩ by rw [HV.out, qa, ql, qv]; rfl)
          obtain ⟨a0, a1, a2, a3, a4, a5, a6⟩ := box7 HX6'.out
          go_upto_region 17 with (first | (go_at_call 37; refine (isColumn_calls u A0 c0 _).mono ?_; rintro e W7 ⟨rfl, hb7⟩; rw [ql']; have hX6 := blk_below HX6'.out hb7; have hX7 := blk_below HX7'.out hb7; have hX4 := blk_below HX4'.out hb7; obtain ⟨b0, b1, b2, b3, b4, b5, b6⟩ := box7 hX7) | (go_at_call 43; refine (isConstant_calls v A1 c1 _).mono ?_; rintro e W8 ⟨rfl, hb8⟩; rw [qv']; have hY6 := blk_below hX6 hb8; have hY7 := blk_below hX7 hb8; have hY4 := blk_below hX4 hb8) | fail)
          have HB8 := Aside0.mk (below_then (below_then (HB6.out) (HB6.out).size hb7) (Nat.le_trans (HB6.out).size hb7.size) hb8)
          have HY4 := Aside0.mk hY4
          clear a0 a1 a2 a3 a4 a5 a6 b0 b1 b2 b3 b4 b5 b6
          obtain ⟨a0, a1, a2, a3, a4, a5, a6⟩ := box7 hY6
          obtain ⟨b0, b1, b2, b3, b4, b5, b6⟩ := box7 hY7
          obtain ⟨z0, z1, z2⟩ := box3 hY4
          have fr : ∀ j, W8.frozen? ⟨w.heap.size + 1, j, none⟩ = false := fun j => blk_frozen hY4 j
          clear hX6 hX7 hX4 hY6 hY7 hY4 hb7 hb8 a0 a2 a3 a4 a5 a6 b0 b1 b5 b6
          go_region
          obtain ⟨hx9, hp9⟩ := put_setCells (g := w.heap.size + 1) (vs := [.int .i64 v.f2.f0, .int .i64 v.f2.f1, .string v.f2.f2]) HY4.out rfl
          obtain ⟨W9, hW9⟩ : ∃ W9 : World, W3c W8 (w.heap.size + 1) (.int .i64 v.f2.f0) (.int .i64 v.f2.f1) (.string v.f2.f2) = W9 := ⟨_, rfl⟩
          simp only [World.setCells, Nat.reduceAdd, Nat.zero_add] at hx9 hp9
          dsimp only [W3c] at hW9 hx9 hp9
          rw [hW9] at hx9 hp9 ⊢
          clear hW9 fr z0 z1 z2 a1 b2 b3 b4
          obtain ⟨z0, z1, z2⟩ := box3 (W := W9.drew) hx9
          go_wp2
          refine bodyPost_ret (v := .tuple #[.int .i64 u.f1, .int .i64 y.f3, Ag23 v.f2, .bool true]) (by simp [results, Tryd.results39, go_sem, z0, z1, z2]) rfl ?_
          exact limPost_some (q := ⟨u.f1, y.f3, v.f2⟩) HW.out (below_drew (hp9.below HB8.out (by omega)))
    case true =>
      have qa' : (u.f0 == 0 && ((u.f4.length : Int) == 0)) = true := qa
      cases qb : isCol v
      case false =>
        have qb' : (v.f0 == 1 && ((v.f4.length : Int) == 0)) = false := qb
        have ql' : (u.f0 == 1 && ((u.f4.length : Int) == 0)) = false := con_col qa
        have HW := Aside0.mk (show limF y = none by rw [HV.out, qa, qb, con_col qa]; rfl)
        go_upto_region 15 with (first | (go_at_call 43; refine (isConstant_calls u A0 c0 _).mono ?_; rintro e W4 ⟨rfl, hb4⟩; rw [qa']; have hX7 := blk_below HX7.out hb4; obtain ⟨b0, b1, b2, b3, b4, b5, b6⟩ := box7 hX7) | (go_at_call 37; refine (isColumn_calls v A1 c1 _).mono ?_; rintro e W5 ⟨rfl, hb5⟩; rw [qb']) | fail)
        have HX6' := Aside0.mk (blk_below (blk_below HX6.out hb4) hb5)
        have HX4' := Aside0.mk (blk_below (blk_below HX4.out hb4) hb5)
        have HB6 := Aside0.mk (below_then (below_then HBw.out HBw.out.size hb4) (Nat.le_trans HBw.out.size hb4.size) hb5)
        clear hb4 hb5 hX7 a0 a1 a2 a3 a4 a5 a6 b0 b1 b2 b3 b4 b5 b6
        obtain ⟨a0, a1, a2, a3, a4, a5, a6⟩ := box7 HX6'.out
        go_wp2_with (first | (go_at_call 37; refine (isColumn_calls u A0 c0 _).mono ?_; rintro e W7 ⟨rfl, hb7⟩; rw [ql']; have HX4B := blk_below HX4'.out hb7) | (refine put3_event (g := w.heap.size + 1) rfl rfl rfl HX4B rfl rfl rfl ?_; intro W9 hx9 hp9; obtain ⟨z0, z1, z2⟩ := box3 hx9) | fail)
        refine bodyPost_ret (v := .tuple #[.int .i64 0, .int .i64 0, .agg #[.int .i64 0, .int .i64 0, .string ⟨#[]⟩], .bool false]) (by simp [results, Tryd.results39, go_sem, z0, z1, z2]) rfl ?_
        exact limPost_none HW.out (hp9.below (below_then HB6.out HB6.out.size hb7) (by omega))
      case true =>
        have qb' : (v.f0 == 1 && ((v.f4.length : Int) == 0)) = true := qb
        go_upto_region 6 with (first | (go_at_call 43; refine (isConstant_calls u A0 c0 _).mono ?_; rintro e W4 ⟨rfl, hb4⟩; rw [qa']; have hX7 := blk_below HX7.out hb4; obtain ⟨b0, b1, b2, b3, b4, b5, b6⟩ := box7 hX7) | (go_at_call 37; refine (isColumn_calls v A1 c1 _).mono ?_; rintro e W5 ⟨rfl, hb5⟩; rw [qb']; clear a0 a1 a2 a3 a4 a5 a6 b0 b1 b2 b3 b4 b5 b6; have hX6 := blk_below (blk_below HX6.out hb4) hb5; have hX7 := blk_below hX7 hb5; obtain ⟨a0, a1, a2, a3, a4, a5, a6⟩ := box7 hX6; obtain ⟨b0, b1, b2, b3, b4, b5, b6⟩ := box7 hX7) | (refine put7_event (g := g6) rfl rfl rfl hX6 rfl rfl rfl ?_; intro W6 hx6 hp6) | (refine put7_event (g := g7) rfl rfl rfl (hp6.blk hX7 HN.out.1.symm) rfl rfl rfl ?_; intro W6b hx7 hp7) | fail)
        have HX6' := Aside0.mk (hp7.blk hx6 HN.out.1)
        have HX7' := Aside0.mk hx7
        have HX4' := Aside0.mk (hp7.blk (hp6.blk (blk_below (blk_below HX4.out hb4) hb5) HN.out.2.1.symm) HN.out.2.2.1.symm)
        have HB6 := Aside0.mk (hp7.below (hp6.below (below_then (below_then HBw.out HBw.out.size hb4) (Nat.le_trans HBw.out.size hb4.size) hb5) HN.out.2.2.2.1) HN.out.2.2.2.2)
        clear hx6 hp6 hx7 hp7 hb4 hb5 hX6 a0 a1 a2 a3 a4 a5 a6 b0 b1 b2 b3 b4 b5 b6
        by_cases k7 : y.f3 = 7
        case pos =>
          have e7 : (y.f3 == 7) = true := by simp [k7]
          have HW := Aside0.mk (show limF y = some ⟨v.f1, 9, u.f2⟩ by rw [HV.out, qa, qb]; simp [mir2, k7])
          clear k7 
          obtain ⟨a0, a1, a2, a3, a4, a5, a6⟩ := box7 HX6'.out
          go_upto_region 17 with (first | (go_at_call 37; refine (isColumn_calls v A1 c1 _).mono ?_; rintro e W7 ⟨rfl, hb7⟩; rw [qb']; have hX6 := blk_below HX6'.out hb7; have hX7 := blk_below HX7'.out hb7; have hX4 := blk_below HX4'.out hb7; obtain ⟨b0, b1, b2, b3, b4, b5, b6⟩ := box7 hX7) | (go_at_call 43; refine (isConstant_calls u A0 c0 _).mono ?_; rintro e W8 ⟨rfl, hb8⟩; rw [qa']; have hY6 := blk_below hX6 hb8; have hY7 := blk_below hX7 hb8; have hY4 := blk_below hX4 hb8) | fail)
          have HB8 := Aside0.mk (below_then (below_then (HB6.out) (HB6.out).size hb7) (Nat.le_trans (HB6.out).size hb7.size) hb8)
          have HY4 := Aside0.mk hY4
          clear a0 a1 a2 a3 a4 a5 a6 b0 b1 b2 b3 b4 b5 b6
          obtain ⟨a0, a1, a2, a3, a4, a5, a6⟩ := box7 hY6
          obtain ⟨b0, b1, b2, b3, b4, b5, b6⟩ := box7 hY7
          obtain ⟨z0, z1, z2⟩ := box3 hY4
          have fr : ∀ j, W8.frozen? ⟨w.heap.size + 1, j, none⟩ = false := fun j => blk_frozen hY4 j
          clear hX6 hX7 hX4 hY6 hY7 hY4 hb7 hb8 a0 a2 a3 a4 a5 a6 b0 b1 b5 b6
          go_region
          obtain ⟨hx9, hp9⟩ := put_setCells (g := w.heap.size + 1) (vs := [.int .i64 u.f2.f0, .int .i64 u.f2.f1, .string u.f2.f2]) HY4.out rfl
          obtain ⟨W9, hW9⟩ : ∃ W9 : World, W3c W8 (w.heap.size + 1) (.int .i64 u.f2.f0) (.int .i64 u.f2.f1) (.string u.f2.f2) = W9 := ⟨_, rfl⟩
          simp only [World.setCells, Nat.reduceAdd, Nat.zero_add] at hx9 hp9
          dsimp only [W3c] at hW9 hx9 hp9
          rw [hW9] at hx9 hp9 ⊢
          clear hW9 fr z0 z1 z2 a1 b2 b3 b4
          obtain ⟨z0, z1, z2⟩ := box3 (W := W9.drew) hx9
          go_wp2
          refine bodyPost_ret (v := .tuple #[.int .i64 v.f1, .int .i64 9, Ag23 u.f2, .bool true]) (by simp [results, Tryd.results39, go_sem, z0, z1, z2]) rfl ?_
          exact limPost_some (q := ⟨v.f1, 9, u.f2⟩) HW.out (below_drew (hp9.below HB8.out (by omega)))
        by_cases k9 : y.f3 = 9
        case pos =>
          have e7 : (y.f3 == 7) = false := by simp [k9]
          have e9 : (y.f3 == 9) = true := by simp [k9]
          have HW := Aside0.mk (show limF y = some ⟨v.f1, 7, u.f2⟩ by rw [HV.out, qa, qb]; simp [mir2, k9])
          clear k9 k7
          obtain ⟨a0, a1, a2, a3, a4, a5, a6⟩ := box7 HX6'.out
          go_upto_region 17 with (first | (go_at_call 37; refine (isColumn_calls v A1 c1 _).mono ?_; rintro e W7 ⟨rfl, hb7⟩; rw [qb']; have hX6 := blk_below HX6'.out hb7; have hX7 := blk_below HX7'.out hb7; have hX4 := blk_below HX4'.out hb7; obtain ⟨b0, b1, b2, b3, b4, b5, b6⟩ := box7 hX7) | (go_at_call 43; refine (isConstant_calls u A0 c0 _).mono ?_; rintro e W8 ⟨rfl, hb8⟩; rw [qa']; have hY6 := blk_below hX6 hb8; have hY7 := blk_below hX7 hb8; have hY4 := blk_below hX4 hb8) | fail)
          have HB8 := Aside0.mk (below_then (below_then (HB6.out) (HB6.out).size hb7) (Nat.le_trans (HB6.out).size hb7.size) hb8)
          have HY4 := Aside0.mk hY4
          clear a0 a1 a2 a3 a4 a5 a6 b0 b1 b2 b3 b4 b5 b6
          obtain ⟨a0, a1, a2, a3, a4, a5, a6⟩ := box7 hY6
          obtain ⟨b0, b1, b2, b3, b4, b5, b6⟩ := box7 hY7
          obtain ⟨z0, z1, z2⟩ := box3 hY4
          have fr : ∀ j, W8.frozen? ⟨w.heap.size + 1, j, none⟩ = false := fun j => blk_frozen hY4 j
          clear hX6 hX7 hX4 hY6 hY7 hY4 hb7 hb8 a0 a2 a3 a4 a5 a6 b0 b1 b5 b6
          go_region
          obtain ⟨hx9, hp9⟩ := put_setCells (g := w.heap.size + 1) (vs := [.int .i64 u.f2.f0, .int .i64 u.f2.f1, .string u.f2.f2]) HY4.out rfl
          obtain ⟨W9, hW9⟩ : ∃ W9 : World, W3c W8 (w.heap.size + 1) (.int .i64 u.f2.f0) (.int .i64 u.f2.f1) (.string u.f2.f2) = W9 := ⟨_, rfl⟩
          simp only [World.setCells, Nat.reduceAdd, Nat.zero_add] at hx9 hp9
          dsimp only [W3c] at hW9 hx9 hp9
          rw [hW9] at hx9 hp9 ⊢
          clear hW9 fr z0 z1 z2 a1 b2 b3 b4
          obtain ⟨z0, z1, z2⟩ := box3 (W := W9.drew) hx9
          go_wp2
          refine bodyPost_ret (v := .tuple #[.int .i64 v.f1, .int .i64 7, Ag23 u.f2, .bool true]) (by simp [results, Tryd.results39, go_sem, z0, z1, z2]) rfl ?_
          exact limPost_some (q := ⟨v.f1, 7, u.f2⟩) HW.out (below_drew (hp9.below HB8.out (by omega)))
        by_cases k8 : y.f3 = 8
        case pos =>
          have e7 : (y.f3 == 7) = false := by simp [k8]
          have e9 : (y.f3 == 9) = false := by simp [k8]
          have e8 : (y.f3 == 8) = true := by simp [k8]
          have HW := Aside0.mk (show limF y = some ⟨v.f1, 10, u.f2⟩ by rw [HV.out, qa, qb]; simp [mir2, k8])
          clear k8 k7 k9
          obtain ⟨a0, a1, a2, a3, a4, a5, a6⟩ := box7 HX6'.out
          go_upto_region 17 with (first | (go_at_call 37; refine (isColumn_calls v A1 c1 _).mono ?_; rintro e W7 ⟨rfl, hb7⟩; rw [qb']; have hX6 := blk_below HX6'.out hb7; have hX7 := blk_below HX7'.out hb7; have hX4 := blk_below HX4'.out hb7; obtain ⟨b0, b1, b2, b3, b4, b5, b6⟩ := box7 hX7) | (go_at_call 43; refine (isConstant_calls u A0 c0 _).mono ?_; rintro e W8 ⟨rfl, hb8⟩; rw [qa']; have hY6 := blk_below hX6 hb8; have hY7 := blk_below hX7 hb8; have hY4 := blk_below hX4 hb8) | fail)
          have HB8 := Aside0.mk (below_then (below_then (HB6.out) (HB6.out).size hb7) (Nat.le_trans (HB6.out).size hb7.size) hb8)
          have HY4 := Aside0.mk hY4
          clear a0 a1 a2 a3 a4 a5 a6 b0 b1 b2 b3 b4 b5 b6
          obtain ⟨a0, a1, a2, a3, a4, a5, a6⟩ := box7 hY6
          obtain ⟨b0, b1, b2, b3, b4, b5, b6⟩ := box7 hY7
          obtain ⟨z0, z1, z2⟩ := box3 hY4
          have fr : ∀ j, W8.frozen? ⟨w.heap.size + 1, j, none⟩ = false := fun j => blk_frozen hY4 j
          clear hX6 hX7 hX4 hY6 hY7 hY4 hb7 hb8 a0 a2 a3 a4 a5 a6 b0 b1 b5 b6
          go_region
          obtain ⟨hx9, hp9⟩ := put_setCells (g := w.heap.size + 1) (vs := [.int .i64 u.f2.f0, .int .i64 u.f2.f1, .string u.f2.f2]) HY4.out rfl
          obtain ⟨W9, hW9⟩ : ∃ W9 : World, W3c W8 (w.heap.size + 1) (.int .i64 u.f2.f0) (.int .i64 u.f2.f1) (.string u.f2.f2) = W9 := ⟨_, rfl⟩
          simp only [World.setCells, Nat.reduceAdd, Nat.zero_add] at hx9 hp9
          dsimp only [W3c] at hW9 hx9 hp9
          rw [hW9] at hx9 hp9 ⊢
          clear hW9 fr z0 z1 z2 a1 b2 b3 b4
          obtain ⟨z0, z1, z2⟩ := box3 (W := W9.drew) hx9
          go_wp2
          refine bodyPost_ret (v := .tuple #[.int .i64 v.f1, .int .i64 10, Ag23 u.f2, .bool true]) (by simp [results, Tryd.results39, go_sem, z0, z1, z2]) rfl ?_
          exact limPost_some (q := ⟨v.f1, 10, u.f2⟩) HW.out (below_drew (hp9.below HB8.out (by omega)))
        by_cases k10 : y.f3 = 10
        case pos =>
          have e7 : (y.f3 == 7) = false := by simp [k10]
          have e9 : (y.f3 == 9) = false := by simp [k10]
          have e8 : (y.f3 == 8) = false := by simp [k10]
          have e10 : (y.f3 == 10) = true := by simp [k10]
          have HW := Aside0.mk (show limF y = some ⟨v.f1, 8, u.f2⟩ by rw [HV.out, qa, qb]; simp [mir2, k10])
          clear k10 k7 k9 k8
          obtain ⟨a0, a1, a2, a3, a4, a5, a6⟩ := box7 HX6'.out
          go_upto_region 17 with (first | (go_at_call 37; refine (isColumn_calls v A1 c1 _).mono ?_; rintro e W7 ⟨rfl, hb7⟩; rw [qb']; have hX6 := blk_below HX6'.out hb7; have hX7 := blk_below HX7'.out hb7; have hX4 := blk_below HX4'.out hb7; obtain ⟨b0, b1, b2, b3, b4, b5, b6⟩ := box7 hX7) | (go_at_call 43; refine (isConstant_calls u A0 c0 _).mono ?_; rintro e W8 ⟨rfl, hb8⟩; rw [qa']; have hY6 := blk_below hX6 hb8; have hY7 := blk_below hX7 hb8; have hY4 := blk_below hX4 hb8) | fail)
          have HB8 := Aside0.mk (below_then (below_then (HB6.out) (HB6.out).size hb7) (Nat.le_trans (HB6.out).size hb7.size) hb8)
          have HY4 := Aside0.mk hY4
          clear a0 a1 a2 a3 a4 a5 a6 b0 b1 b2 b3 b4 b5 b6
          obtain ⟨a0, a1, a2, a3, a4, a5, a6⟩ := box7 hY6
          obtain ⟨b0, b1, b2, b3, b4, b5, b6⟩ := box7 hY7
          obtain ⟨z0, z1, z2⟩ := box3 hY4
          have fr : ∀ j, W8.frozen? ⟨w.heap.size + 1, j, none⟩ = false := fun j => blk_frozen hY4 j
          clear hX6 hX7 hX4 hY6 hY7 hY4 hb7 hb8 a0 a2 a3 a4 a5 a6 b0 b1 b5 b6
          go_region
          obtain ⟨hx9, hp9⟩ := put_setCells (g := w.heap.size + 1) (vs := [.int .i64 u.f2.f0, .int .i64 u.f2.f1, .string u.f2.f2]) HY4.out rfl
          obtain ⟨W9, hW9⟩ : ∃ W9 : World, W3c W8 (w.heap.size + 1) (.int .i64 u.f2.f0) (.int .i64 u.f2.f1) (.string u.f2.f2) = W9 := ⟨_, rfl⟩
          simp only [World.setCells, Nat.reduceAdd, Nat.zero_add] at hx9 hp9
          dsimp only [W3c] at hW9 hx9 hp9
          rw [hW9] at hx9 hp9 ⊢
          clear hW9 fr z0 z1 z2 a1 b2 b3 b4
          obtain ⟨z0, z1, z2⟩ := box3 (W := W9.drew) hx9
          go_wp2
          refine bodyPost_ret (v := .tuple #[.int .i64 v.f1, .int .i64 8, Ag23 u.f2, .bool true]) (by simp [results, Tryd.results39, go_sem, z0, z1, z2]) rfl ?_
          exact limPost_some (q := ⟨v.f1, 8, u.f2⟩) HW.out (below_drew (hp9.below HB8.out (by omega)))
        have e7 : (y.f3 == 7) = false := by simp [k7]
        have e9 : (y.f3 == 9) = false := by simp [k9]
        have e8 : (y.f3 == 8) = false := by simp [k8]
        have e10 : (y.f3 == 10) = false := by simp [k10]
        have HW := Aside0.mk (show limF y = some ⟨v.f1, y.f3, u.f2⟩ by rw [HV.out, qa, qb]; simp [mir2, k7, k8, k9, k10])
        clear k7 k8 k9 k10
        obtain ⟨a0, a1, a2, a3, a4, a5, a6⟩ := box7 HX6'.out
        go_upto_region 17 with (first | (go_at_call 37; refine (isColumn_calls v A1 c1 _).mono ?_; rintro e W7 ⟨rfl, hb7⟩; rw [qb']; have hX6 := blk_below HX6'.out hb7; have hX7 := blk_below HX7'.out hb7; have hX4 := blk_below HX4'.out hb7; obtain ⟨b0, b1, b2, b3, b4, b5, b6⟩ := box7 hX7) | (go_at_call 43; refine (isConstant_calls u A0 c0 _).mono ?_; rintro e W8 ⟨rfl, hb8⟩; rw [qa']; have hY6 := blk_below hX6 hb8; have hY7 := blk_below hX7 hb8; have hY4 := blk_below hX4 hb8) | fail)
        have HB8 := Aside0.mk (below_then (below_then (HB6.out) (HB6.out).size hb7) (Nat.le_trans (HB6.out).size hb7.size) hb8)
        have HY4 := Aside0.mk hY4
        clear a0 a1 a2 a3 a4 a5 a6 b0 b1 b2 b3 b4 b5 b6
        obtain ⟨a0, a1, a2, a3, a4, a5, a6⟩ := box7 hY6
        obtain ⟨b0, b1, b2, b3, b4, b5, b6⟩ := box7 hY7
        obtain ⟨z0, z1, z2⟩ := box3 hY4
        have fr : ∀ j, W8.frozen? ⟨w.heap.size + 1, j, none⟩ = false := fun j => blk_frozen hY4 j
        clear hX6 hX7 hX4 hY6 hY7 hY4 hb7 hb8 a0 a2 a3 a4 a5 a6 b0 b1 b5 b6
        go_region
        obtain ⟨hx9, hp9⟩ := put_setCells (g := w.heap.size + 1) (vs := [.int .i64 u.f2.f0, .int .i64 u.f2.f1, .string u.f2.f2]) HY4.out rfl
        obtain ⟨W9, hW9⟩ : ∃ W9 : World, W3c W8 (w.heap.size + 1) (.int .i64 u.f2.f0) (.int .i64 u.f2.f1) (.string u.f2.f2) = W9 := ⟨_, rfl⟩
        simp only [World.setCells, Nat.reduceAdd, Nat.zero_add] at hx9 hp9
        dsimp only [W3c] at hW9 hx9 hp9
        rw [hW9] at hx9 hp9 ⊢
        clear hW9 fr z0 z1 z2 a1 b2 b3 b4
        obtain ⟨z0, z1, z2⟩ := box3 (W := W9.drew) hx9
        go_wp2
        refine bodyPost_ret (v := .tuple #[.int .i64 v.f1, .int .i64 y.f3, Ag23 u.f2, .bool true]) (by simp [results, Tryd.results39, go_sem, z0, z1, z2]) rfl ?_
        exact limPost_some (q := ⟨v.f1, y.f3, u.f2⟩) HW.out (below_drew (hp9.below HB8.out (by omega)))
end Go.Proofs.YthjjolmmdgnjfaaDoor
