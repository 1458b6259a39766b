/- 'comparisons': the conjuncts that compare a column with a constant. -/
import Derived.Test.YthjjolmmdgnjfaaDoorB2
namespace Go.Proofs.YthjjolmmdgnjfaaDoor
open Go.RowKit Go.Proofs.YthjjolmmdgnjfaaDoorW.PrintWords PPhysicalConditions
set_option linter.unusedVariables false
/-- A comparison. -/
structure S55 where
  f0 : Int
  f1 : Int
  f2 : S23
def k55 : Kd S55 := Kd.iso (Kd.pair (Kd.int .i64) (Kd.pair (Kd.int .i64) k23)) (fun x : S55 => (x.f0, x.f1, x.f2))
abbrev Cs55 (x : S55) : Array Value := #[.int .i64 x.f0, .int .i64 x.f1, .int .i64 x.f2.f0, .int .i64 x.f2.f1, .string x.f2.f2]
theorem k55_open {w : World} {x : S55} {cs : List Value} (h : k55.K w x cs) : cs = (Cs55 x).toList := by
  obtain ⟨c1, c2, rfl, rfl, c3, c4, rfl, rfl, h4⟩ := h
  rw [k23_open h4]
  rfl
theorem k55_mk (w : World) (x : S55) : k55.K w x (Cs55 x).toList := ⟨[.int .i64 x.f0], [.int .i64 x.f1, .int .i64 x.f2.f0, .int .i64 x.f2.f1, .string x.f2.f2], rfl, rfl, [.int .i64 x.f1], [.int .i64 x.f2.f0, .int .i64 x.f2.f1, .string x.f2.f2], rfl, rfl, k23_mk w x.f2⟩
theorem FK55 (W : World) (ok : Nat → Prop) (x : S55) : Kd.FK k55 W ok x (Cs55 x).toList := fun W' _ => k55_mk W' x
theorem FK23 (W : World) (ok : Nat → Prop) (x : S23) : Kd.FK k23 W ok x [.int .i64 x.f0, .int .i64 x.f1, .string x.f2] := fun W' _ => k23_mk W' x
theorem info55 : (Tryd.prog.info? 55).map (fun i => (i.zero, i.size, i.bytes)) = some (some (.agg #[.int .i64 0, .int .i64 0, .int .i64 0, .int .i64 0, .string ⟨#[]⟩]), 5, 48) := by kernel_rfl
theorem info23 : (Tryd.prog.info? 23).map (fun i => (i.zero, i.size, i.bytes)) = some (some (.agg #[.int .i64 0, .int .i64 0, .string ⟨#[]⟩]), 3, 32) := by kernel_rfl
/-- The operators that 'mirrored' lists. -/
def mirOk (k : Int) : Bool := k == 5 || (k == 7 || (k == 8 || (k == 9 || k == 10)))
def mirD (k : Int) : Int := if k = 5 then 5 else if k = 7 then 9 else if k = 8 then 10 else if k = 9 then 7 else if k = 10 then 8 else 0
/-- The map 'mirrored' as a look-up sees it, here and later. -/
def Mir (w : World) : Prop := ∃ mv, w.cell? ⟨0, 0, none⟩ = some mv ∧ ∀ wr, Below w.heap.size w wr → ∀ k : Int, -9223372036854775808 ≤ k → k ≤ 9223372036854775807 → (Instr.lookup 69 mv (.int .i64 k) true).run Tryd.prog wr = .ok (.tuple #[.int .i64 (mirD k), .bool (mirOk k)]) wr
theorem Mir.later {w w' : World} (h : Mir w) (hb : Below w.heap.size w w') : Mir w' := by
  obtain ⟨mv, h1, h2⟩ := h
  exact ⟨mv, cell_later hb h1, fun wr hb2 k k0 k1 => h2 wr (below_then hb hb.size hb2) k k0 k1⟩
/-- A tree whose operators are machine numbers. -/
def okT : S26 → Prop
  | ⟨_, _, _, f3, l⟩ => (-9223372036854775808 ≤ f3 ∧ f3 ≤ 9223372036854775807) ∧ okL l
  where okL : List S26 → Prop
  | [] => True
  | x :: r => okT x ∧ okL r
theorem okL_mem {l : List S26} (h : okT.okL l) : ∀ y ∈ l, okT y := by
  induction l with
  | nil => intro y hy; cases hy
  | cons x r ih =>
    obtain ⟨h1, h2⟩ := h
    intro y hy
    rcases List.mem_cons.1 hy with rfl | hy
    · exact h1
    · exact ih h2 y hy
theorem okT_op {x : S26} (h : okT x) : -9223372036854775808 ≤ x.f3 ∧ x.f3 ≤ 9223372036854775807 := by cases x; exact h.1
theorem okT_arg {x y : S26} (h : okT x) (hy : y ∈ x.f4) : okT y := by cases x; exact okL_mem h.2 y hy
theorem rd_ok {x : S26} (h : okT x) {i : Int} (h0 : 0 ≤ i) (h1 : i < x.f4.length) : okT (rd_T26 x.f4 i) := okT_arg h (rd_mem h0 h1)
theorem conj_ok (n : Nat) : ∀ x : S26, okT x → ∀ y ∈ conjN n x, okT y := by
  induction n with
  | zero => intro x h y hy; simp only [conjN, List.mem_singleton] at hy; subst hy; exact h
  | succ n ih =>
    intro x h y hy
    simp only [conjN] at hy
    split at hy
    · cases hy
    · split at hy
      · rename_i hc
        simp only [Bool.and_eq_true, beq_iff_eq] at hc
        have h2 := hc.2
        rcases List.mem_append.1 hy with hy | hy
        · exact ih _ (rd_ok h (by omega) (by omega)) y hy
        · exact ih _ (rd_ok h (by omega) (by omega)) y hy
      · simp only [List.mem_singleton] at hy; subst hy; exact h
def cmpF (y : S26) : Option S55 :=
  if (y.f0 == 2 && ((y.f4.length : Int) == 2 && mirOk y.f3)) = true then
    (if isCon (rd_T26 y.f4 0) = true then (if isCol (rd_T26 y.f4 1) = true then some ⟨(rd_T26 y.f4 1).f1, mirD y.f3, (rd_T26 y.f4 0).f2⟩ else none)
    else if (isCol (rd_T26 y.f4 0) && isCon (rd_T26 y.f4 1)) = true then some ⟨(rd_T26 y.f4 0).f1, y.f3, (rd_T26 y.f4 1).f2⟩ else none)
  else none
def CmpPost (cs : List S26) (w : World) (e : Ending) (w' : World) : Prop := ∃ (A : Option Addr) (c : Nat), e = .returned (.slice A (cs.filterMap cmpF).length c) ∧ (cs.filterMap cmpF).length ≤ c ∧ Kd.C k55 w' A (cs.filterMap cmpF).length (cs.filterMap cmpF) ∧ Below w.heap.size w w'
theorem cmp_some {cs : List S26} {y : S26} {q : S55} (h : cmpF y = some q) : (cs ++ [y]).filterMap cmpF = cs.filterMap cmpF ++ [q] := by simp [List.filterMap_append, h]
theorem cmp_none {cs : List S26} {y : S26} (h : cmpF y = none) : (cs ++ [y]).filterMap cmpF = cs.filterMap cmpF := by simp [List.filterMap_append, h]
theorem peel {W : World} {a : Addr} (h : a.block < W.heap.size) (o : Obj) : (W.alloc o).cell? a = W.cell? a := World.cell?_alloc_lt W o a h
theorem peel2 {W : World} {a : Addr} (h : a.block < W.heap.size) (o o' : Obj) : ((W.alloc o).alloc o').cell? a = W.cell? a := by rw [peel (by rw [World.size_alloc]; omega), peel h]
theorem new0 (W : World) (o o' : Obj) : (((W.alloc o).alloc o').drew).heap[W.heap.size]? = some o := blk_alloc (blk_new W o) o'
theorem new1 (W : World) (o o' : Obj) : (((W.alloc o).alloc o').drew).heap[W.heap.size + 1]? = some o' := by
  have := blk_new (W.alloc o) o'
  rwa [World.size_alloc] at this
set_option maxRecDepth 100000 in
set_option maxHeartbeats 4000000 in
theorem cmps_calls (n : Nat) (x : S26) (A : Option Addr) (c : Nat) (P : Nat → Prop) (w : World) (hn : sz x ≤ n) (hm : n ≤ 1000) (ho : okT x) (hc : x.f4.length ≤ c) (hF : Kd.F k26 w P A x.f4.length x.f4) (hM : Mir w) :
    Calls Tryd.prog 25 #[Ag x A c] w (CmpPost (conjN n x) w) := by
  have HN := Aside0.mk (And.intro hn hm)
  have HF := Aside0.mk hF
  have HC := Aside0.mk hc
  have HO := Aside0.mk (conj_ok n x ho)
  have HM := Aside0.mk hM
  have HL := Aside0.mk (show (conjN n x).length ≤ 1000 by
    have h1 := szs_conj n x
    have h2 := szs_len (conjN n x)
    omega)
  clear hn hm hF hc ho hM
  go_enter Tryd.func25, Tryd.ntmps25
  go_upto_region 2 with (fail)
  have HB0 := Aside0.mk (below_alloc (Below.refl w.heap.size w) (.cells (Cs x A c) 26))
  have HX0 := Aside0.mk (blk_new w (.cells (Cs x A c) 26))
  have HF0 := Aside0.mk (Kd.F_alloc HF.out (.cells (Cs x A c) 26))
  obtain ⟨W0, hW0⟩ : ∃ W0 : World, w.alloc (.cells (Cs x A c) 26) = W0 := ⟨_, rfl⟩
  rw [hW0] at HB0 HX0 HF0 ⊢
  clear hW0
  obtain ⟨a0, a1, a2, a3, a4, a5, a6⟩ := box7 HX0.out
  go_wp2_with (first | (go_at_call 19; refine (conj_calls n x A c P _ HN.out.1 (by have := HN.out.2; omega) HC.out HF0.out).mono ?_; rintro e W1 ⟨v1, rfl, hN, hb1⟩; obtain ⟨B1, d1, ev⟩ := Kd.N_slice hN; subst ev) | fail)
  clear a0 a1 a2 a3 a4 a5 a6 HX0 HF0
  obtain ⟨cs, hcs⟩ : ∃ cs, conjN n x = cs := ⟨_, rfl⟩
  rw [hcs] at hN HL HO ⊢
  have HCS := Aside0.mk hcs
  clear hcs
  have hm : cs.length ≤ 9223372036854775807 := by have := HL.out; omega
  have HB1 := Aside0.mk (below_then HB0.out HB0.out.size hb1)
  have HFc := Aside0.mk (show Kd.F k26 W1 (fun k => k < W1.heap.size) B1 cs.length cs from Kd.F_mono (Kd.F_bound (Kd.N_F hN)) (fun _ h => h.2))
  clear hN hb1 HB0
  have HM1 := Aside0.mk (HM.out.later HB1.out)
  go_loopg [3, 14] (cs.length + 1) (fun kq v3 v14 wr => ∃ i : Int, v14 = .int .i64 i ∧ Aside0 (0 ≤ i ∧ i ≤ cs.length ∧ kq = cs.length + 1 - i.toNat) ∧ Aside0 (Below W1.heap.size W1 wr) ∧ Aside0 (T k55 55 wr W1.heap.size (fun k => k < W1.heap.size) v3 ((cs.take i.toNat).filterMap cmpF)))
  case atStart => exact ⟨0, rfl, ⟨by omega, by omega, by omega⟩, ⟨Below.refl _ _⟩, ⟨T_nil _ _ _ _ _ (fun _ h => h)⟩⟩
  case round =>
    obtain ⟨i, rfl, HI, HB, HT⟩ := hrel
    obtain ⟨i0, i1, i2⟩ := HI.out
    by_cases hlt : i < cs.length
    · have hb0 : decide (i < (cs.length : Int)) = true := decide_eq_true hlt
      obtain ⟨ad, A6, c6, e, ⟨x0, x1, x2, x3, x4, x5, x6⟩, l6, g6, p6⟩ := at7F (Kd.F_below HFc.out HB.out) i i0 hlt
      subst e
      have HK := Aside0.mk (And.intro l6 g6)
      have HR := Aside0.mk (take_rd i0 hlt)
      have HY := Aside0.mk (okT_op (HO.out _ (rd_mem i0 hlt)))
      have HLT := Aside0.mk (show (((cs.take i.toNat).filterMap cmpF).length + 1) * 48 ≤ 140737488355328 by
        have h1 := List.length_filterMap_le cmpF (cs.take i.toNat)
        rw [List.length_take] at h1
        have := HL.out; omega)
      clear l6 g6 i1 i2 p6
      obtain ⟨y, hy⟩ : ∃ y, rd_T26 cs i = y := ⟨_, rfl⟩
      rw [hy] at x0 x1 x2 x3 x4 x5 x6 HK HR HY
      clear hy
      replace hlt := eq_true hlt
      replace i0 := eq_true i0
      go_upto_region 5 with (fail)
      clear x0 x1 x2 x3 x4 x5 x6
      have HB2 := Aside0.mk (below_alloc HB.out (.cells (Cs y A6 c6) 26))
      have HT2 := Aside0.mk (T_below HT.out (below_alloc (Below.refl _ _) (.cells (Cs y A6 c6) 26)))
      have HZ2 := Aside0.mk (blk_new wr (.cells (Cs y A6 c6) 26))
      have HK2 := Aside0.mk (And.intro HK.out.1 (Kd.F_alloc HK.out.2 (.cells (Cs y A6 c6) 26)))
      obtain ⟨W2, hW2⟩ : ∃ W2 : World, wr.alloc (.cells (Cs y A6 c6) 26) = W2 := ⟨_, rfl⟩
      rw [hW2] at HB2 HT2 HZ2 HK2 ⊢
      clear hW2 HK HT HB
      obtain ⟨b0, b1, b2, b3, b4, b5, b6⟩ := box7 HZ2.out
      have endn : cmpF y = none → ∀ w', Below W2.heap.size W2 w' → Aside0 (0 ≤ i ∧ i < cs.length) → Aside0 (T k55 55 w' W1.heap.size (fun k => k < W1.heap.size) u3 ((cs.take (i + 1).toNat).filterMap cmpF)) := fun hq w' hb' hi => ⟨by rw [succ_toNat hi.out.1, HR.out, cmp_none hq]; exact T_below HT2.out hb'⟩
      cases t0 : (y.f0 == 2)
      case false =>
        have t0' : (y.f0 != 2) = true := by simpa using t0
        have HV := Aside0.mk (show cmpF y = none by simp [cmpF, t0])
        go_wp2
        have i0' := of_eq_true i0
        have hlt' := of_eq_true hlt
        go_roundg (cs.length + 1 - (i + 1).toNat)
        case measure => have := HI.out; omega
        case rel => exact ⟨i + 1, congrArg (Value.int .i64) (wrap_succ i0' hlt' hm), ⟨by omega, by omega, rfl⟩, ⟨below_then HB2.out HB2.out.size (Below.refl _ _)⟩, endn HV.out _ (Below.refl _ _) ⟨i0', hlt'⟩⟩
      have t0' : (y.f0 != 2) = false := by simpa using t0
      cases t4 : ((y.f4.length : Int) == 2)
      case false =>
        have t4' : ((y.f4.length : Int) != 2) = true := by simpa using t4
        have HV := Aside0.mk (show cmpF y = none by simp [cmpF, t4])
        go_wp2
        have i0' := of_eq_true i0
        have hlt' := of_eq_true hlt
        go_roundg (cs.length + 1 - (i + 1).toNat)
        case measure => have := HI.out; omega
        case rel => exact ⟨i + 1, congrArg (Value.int .i64) (wrap_succ i0' hlt' hm), ⟨by omega, by omega, rfl⟩, ⟨below_then HB2.out HB2.out.size (Below.refl _ _)⟩, endn HV.out _ (Below.refl _ _) ⟨i0', hlt'⟩⟩
      have t4' : ((y.f4.length : Int) != 2) = false := by simpa using t4
      go_upto_region 6 with (fail)
      obtain ⟨mv, hmv, hlook⟩ := HM1.out.later HB2.out
      have hl := hlook W2 (Below.refl _ _) y.f3 HY.out.1 HY.out.2
      clear hlook
      cases tm : mirOk y.f3
      case false =>
        have HV := Aside0.mk (show cmpF y = none by simp [cmpF, tm])
        rw [tm] at hl
        go_wp2
        have i0' := of_eq_true i0
        have hlt' := of_eq_true hlt
        go_roundg (cs.length + 1 - (i + 1).toNat)
        case measure => have := HI.out; omega
        case rel => exact ⟨i + 1, congrArg (Value.int .i64) (wrap_succ i0' hlt' hm), ⟨by omega, by omega, rfl⟩, ⟨below_then HB2.out HB2.out.size (Below.refl _ _)⟩, endn HV.out _ (Below.refl _ _) ⟨i0', hlt'⟩⟩
      rw [tm] at hl
      go_upto_region 8 with (fail)
      clear hl hmv
      have HQ := Aside0.mk (And.intro t0 (And.intro t4 tm))
      have HL2 := Aside0.mk (show (y.f4.length : Int) = 2 by simpa using t4)
      clear t0 t4 t0' t4' tm
      have e0 : 0 < y.f4.length := by have := HL2.out; omega
      have e1 : (1 : Int) < (y.f4.length : Int) := by have := HL2.out; omega
      obtain ⟨ad2, A0, c0, A1, c1, e2, ⟨x0, x1, x2, x3, x4, x5, x6⟩, ⟨y0, y1, y2, y3, y4, y5, y6⟩, ⟨l0, g0⟩, ⟨l1, g1⟩, p0⟩ := at26F01 HK2.out.2 (by have := HL2.out; omega)
      subst e2
      clear l0 g0 l1 g1 p0
      have HV := Aside0.mk (show cmpF y = (if isCon (rd_T26 y.f4 0) = true then (if isCol (rd_T26 y.f4 1) = true then some ⟨(rd_T26 y.f4 1).f1, mirD y.f3, (rd_T26 y.f4 0).f2⟩ else none) else if (isCol (rd_T26 y.f4 0) && isCon (rd_T26 y.f4 1)) = true then some ⟨(rd_T26 y.f4 0).f1, y.f3, (rd_T26 y.f4 1).f2⟩ else none) by
        unfold cmpF
        rw [if_pos (by simp [HQ.out.1, HQ.out.2.1, HQ.out.2.2])])
      obtain ⟨u, hu⟩ : ∃ u, rd_T26 y.f4 0 = u := ⟨_, rfl⟩
      obtain ⟨v, hv⟩ : ∃ v, rd_T26 y.f4 1 = v := ⟨_, rfl⟩
      rw [hu] at x0 x1 x2 x3 x4 x5 x6 HV
      rw [hv] at y0 y1 y2 y3 y4 y5 y6 HV
      clear hu hv b0 b1 b2 b3 b4
      have W2d : ∀ {a : Addr} {v : Value}, W2.cell? a = some v → W2.drew.cell? a = some v := fun h => h
      go_region_held3 (fun w' => w'.cell? ⟨wr.heap.size, 5, none⟩ = some (.int .i64 y.f3) ∧ w'.cell? ⟨wr.heap.size, 6, none⟩ = some (.slice (some ad2) y.f4.length c6) ∧ w'.cell? ad2 = some (.int .i64 u.f0) ∧ w'.cell? ⟨ad2.block, ad2.off + 1, none⟩ = some (.int .i64 u.f1) ∧ w'.cell? ⟨ad2.block, ad2.off + 2, none⟩ = some (.int .i64 u.f2.f0) ∧ w'.cell? ⟨ad2.block, ad2.off + 3, none⟩ = some (.int .i64 u.f2.f1) ∧ w'.cell? ⟨ad2.block, ad2.off + 4, none⟩ = some (.string u.f2.f2) ∧ w'.cell? ⟨ad2.block, ad2.off + 5, none⟩ = some (.int .i64 u.f3) ∧ w'.cell? ⟨ad2.block, ad2.off + 6, none⟩ = some (.slice A0 u.f4.length c0) ∧ w'.cell? ⟨ad2.block, ad2.off + 7, none⟩ = some (.int .i64 v.f0) ∧ w'.cell? ⟨ad2.block, ad2.off + 7 + 1, none⟩ = some (.int .i64 v.f1) ∧ w'.cell? ⟨ad2.block, ad2.off + 7 + 2, none⟩ = some (.int .i64 v.f2.f0) ∧ w'.cell? ⟨ad2.block, ad2.off + 7 + 3, none⟩ = some (.int .i64 v.f2.f1) ∧ w'.cell? ⟨ad2.block, ad2.off + 7 + 4, none⟩ = some (.string v.f2.f2) ∧ w'.cell? ⟨ad2.block, ad2.off + 7 + 5, none⟩ = some (.int .i64 v.f3) ∧ w'.cell? ⟨ad2.block, ad2.off + 7 + 6, none⟩ = some (.slice A1 v.f4.length c1)) (first | exact ⟨b5, b6, x0, x1, x2, x3, x4, x5, x6, y0, y1, y2, y3, y4, y5, y6⟩ | exact ⟨cell_al (W2d b5) _, cell_al (W2d b6) _, cell_al (W2d x0) _, cell_al (W2d x1) _, cell_al (W2d x2) _, cell_al (W2d x3) _, cell_al (W2d x4) _, cell_al (W2d x5) _, cell_al (W2d x6) _, cell_al (W2d y0) _, cell_al (W2d y1) _, cell_al (W2d y2) _, cell_al (W2d y3) _, cell_al (W2d y4) _, cell_al (W2d y5) _, cell_al (W2d y6) _⟩ | exact ⟨cell_al (cell_al (W2d b5) _) _, cell_al (cell_al (W2d b6) _) _, cell_al (cell_al (W2d x0) _) _, cell_al (cell_al (W2d x1) _) _, cell_al (cell_al (W2d x2) _) _, cell_al (cell_al (W2d x3) _) _, cell_al (cell_al (W2d x4) _) _, cell_al (cell_al (W2d x5) _) _, cell_al (cell_al (W2d x6) _) _, cell_al (cell_al (W2d y0) _) _, cell_al (cell_al (W2d y1) _) _, cell_al (cell_al (W2d y2) _) _, cell_al (cell_al (W2d y3) _) _, cell_al (cell_al (W2d y4) _) _, cell_al (cell_al (W2d y5) _) _, cell_al (cell_al (W2d y6) _) _⟩) (fail)
      all_goals first
        | (obtain ⟨W3, hW3⟩ : ∃ W3 : World, ((W2.alloc (.cells (Cs v A1 c1) 26)).alloc (.cells (Cs u A0 c0) 26)).drew = W3 := ⟨_, rfl⟩; rw [hW3]; have HB3 := Aside0.mk (show Below W2.heap.size W2 W3 by rw [← hW3]; exact below_drew (below_alloc (below_alloc (Below.refl _ _) _) _)); have HX8 := Aside0.mk (show W3.heap[W2.heap.size + 1]? = some (.cells (Cs u A0 c0) 26 (0, 0)) by rw [← hW3]; exact new1 _ _ _); have HX9 := Aside0.mk (show W3.heap[W2.heap.size]? = some (.cells (Cs v A1 c1) 26 (0, 0)) by rw [← hW3]; exact new0 _ _ _); have HN := Aside0.mk (show W2.heap.size + 1 ≠ W2.heap.size ∧ W2.heap.size ≤ W2.heap.size + 1 ∧ W2.heap.size ≤ W2.heap.size by omega); clear hW3)
        | (obtain ⟨W3, hW3⟩ : ∃ W3 : World, ((W2.alloc (.cells (Cs u A0 c0) 26)).alloc (.cells (Cs v A1 c1) 26)).drew = W3 := ⟨_, rfl⟩; rw [hW3]; have HB3 := Aside0.mk (show Below W2.heap.size W2 W3 by rw [← hW3]; exact below_drew (below_alloc (below_alloc (Below.refl _ _) _) _)); have HX8 := Aside0.mk (show W3.heap[W2.heap.size]? = some (.cells (Cs u A0 c0) 26 (0, 0)) by rw [← hW3]; exact new0 _ _ _); have HX9 := Aside0.mk (show W3.heap[W2.heap.size + 1]? = some (.cells (Cs v A1 c1) 26 (0, 0)) by rw [← hW3]; exact new1 _ _ _); have HN := Aside0.mk (show W2.heap.size ≠ W2.heap.size + 1 ∧ W2.heap.size ≤ W2.heap.size ∧ W2.heap.size ≤ W2.heap.size + 1 by omega); clear hW3)
      all_goals
        clear b5 b6 x0 x1 x2 x3 x4 x5 x6 y0 y1 y2 y3 y4 y5 y6
        obtain ⟨a0, a1, a2, a3, a4, a5, a6⟩ := box7 HX8.out
        cases qc : isCon u
        case true =>
          have qc' : (u.f0 == 0 && ((u.f4.length : Int) == 0)) = true := qc
          go_upto_region 11 with (first | (go_at_call 35; refine (isLeaf_calls u A0 c0 0 _).mono ?_; rintro e W4 ⟨rfl, hb4⟩; rw [qc']; clear a0 a1 a2 a3 a4 a5 a6; have hX8 := blk_below HX8.out hb4; have hX9 := blk_below HX9.out hb4; obtain ⟨a0, a1, a2, a3, a4, a5, a6⟩ := box7 hX8; obtain ⟨b0, b1, b2, b3, b4, b5, b6⟩ := box7 hX9) | (refine put7_event rfl rfl rfl hX8 rfl rfl rfl ?_; intro W5 hx5 hp5) | (refine put7_event rfl rfl rfl (hp5.blk hX9 HN.out.1.symm) rfl rfl rfl ?_; intro W6 hx6 hp6) | fail)
          have HX8' := Aside0.mk (hp6.blk hx5 HN.out.1)
          have HX9' := Aside0.mk hx6
          have HB6 := Aside0.mk (hp6.below (hp5.below (below_then HB3.out HB3.out.size hb4) HN.out.2.1) HN.out.2.2)
          clear hx5 hp5 hx6 hp6 hb4 hX8 hX9 a0 a1 a2 a3 a4 a5 a6 b0 b1 b2 b3 b4 b5 b6
          obtain ⟨a0, a1, a2, a3, a4, a5, a6⟩ := box7 HX8'.out
          cases ql : isCol v
          case false =>
            have ql' : (v.f0 == 1 && ((v.f4.length : Int) == 0)) = false := ql
            have HW := Aside0.mk (show cmpF y = none by rw [HV.out, qc, ql]; rfl)
            go_wp2_with (first | (go_at_call 35; refine (isLeaf_calls v A1 c1 1 _).mono ?_; rintro e W7 ⟨rfl, hb7⟩; rw [ql']) | fail)
            have i0' := of_eq_true i0
            have hlt' := of_eq_true hlt
            go_roundg (cs.length + 1 - (i + 1).toNat)
            case measure => have := HI.out; omega
            case rel => exact ⟨i + 1, congrArg (Value.int .i64) (wrap_succ i0' hlt' hm), ⟨by omega, by omega, rfl⟩, ⟨below_then HB2.out HB2.out.size (below_then HB6.out HB6.out.size hb7)⟩, endn HW.out _ (below_then HB6.out HB6.out.size hb7) ⟨i0', hlt'⟩⟩
          case true =>
            have ql' : (v.f0 == 1 && ((v.f4.length : Int) == 0)) = true := ql
            have HW := Aside0.mk (show cmpF y = some ⟨v.f1, mirD y.f3, u.f2⟩ by rw [HV.out, qc, ql]; rfl)
            go_wp2_with (first | (go_at_call 35; (with_reducible refine (isLeaf_calls v A1 c1 1 _).mono ?_); rintro e W7 ⟨rfl, hb7⟩; rw [ql']; clear a0 a1 a2 a3 a4 a5 a6; have hX8 := blk_below HX8'.out hb7; have hX9 := blk_below HX9'.out hb7; obtain ⟨b0, b1, b2, b3, b4, b5, b6⟩ := box7 hX9) | (go_at_call 35; (with_reducible refine (isLeaf_calls u A0 c0 0 _).mono ?_); rintro e W8 ⟨rfl, hb8⟩; rw [qc']; clear b0 b1 b2 b3 b4 b5 b6; obtain ⟨a0, a1, a2, a3, a4, a5, a6⟩ := box7 (blk_below hX8 hb8); obtain ⟨b0, b1, b2, b3, b4, b5, b6⟩ := box7 (blk_below hX9 hb8)) | (refine T_append k55 (w0 := W1) W1.heap.size (fun k => k < W1.heap.size) (by rfl) (.tmp 57) (.tmp 64) 51 55 (.agg #[.int .i64 0, .int .i64 0, .int .i64 0, .int .i64 0, .string ⟨#[]⟩]) 48 rfl Tryd.underlying51 info55 rfl (by decide) (by omega) u3 ((cs.take i.toNat).filterMap cmpF) ⟨v.f1, mirD y.f3, u.f2⟩ (Cs55 ⟨v.f1, mirD y.f3, u.f2⟩).toList rfl rfl (FK55 _ _ _) (T_below HT2.out (below_then (below_then HB6.out HB6.out.size hb7) (Nat.le_trans HB6.out.size hb7.size) hb8)) (below_then HB2.out HB2.out.size (below_then (below_then HB6.out HB6.out.size hb7) (Nat.le_trans HB6.out.size hb7.size) hb8)) (Nat.le_trans HB2.out.size (below_then (below_then HB6.out HB6.out.size hb7) (Nat.le_trans HB6.out.size hb7.size) hb8).size) HLT.out ?_; intro v1 w9 hN1 hb9 hg1 hat1) | fail)
            have i0' := of_eq_true i0
            have hlt' := of_eq_true hlt
            have HN1 := Aside0.mk (show T k55 55 w9 W1.heap.size (fun k => k < W1.heap.size) v1 ((cs.take (i + 1).toNat).filterMap cmpF) by rw [succ_toNat i0', HR.out, cmp_some HW.out]; exact hN1)
            have HB9 := Aside0.mk hb9
            clear hN1 hb9 hg1 hat1
            go_roundg (cs.length + 1 - (i + 1).toNat)
            case measure => have := HI.out; omega
            case rel => exact ⟨i + 1, congrArg (Value.int .i64) (wrap_succ i0' hlt' hm), ⟨by omega, by omega, rfl⟩, HB9, HN1⟩
        case false =>
          have qc' : (u.f0 == 0 && ((u.f4.length : Int) == 0)) = false := qc
          go_upto_region 11 with (first | (go_at_call 35; refine (isLeaf_calls u A0 c0 0 _).mono ?_; rintro e W4 ⟨rfl, hb4⟩; rw [qc']) | fail)
          have HX8' := Aside0.mk (blk_below HX8.out hb4)
          have HX9' := Aside0.mk (blk_below HX9.out hb4)
          have HB6 := Aside0.mk (below_then HB3.out HB3.out.size hb4)
          clear hb4 a0 a1 a2 a3 a4 a5 a6
          obtain ⟨a0, a1, a2, a3, a4, a5, a6⟩ := box7 HX8'.out
          cases ql : isCol u
          case false =>
            have ql' : (u.f0 == 1 && ((u.f4.length : Int) == 0)) = false := ql
            have HW := Aside0.mk (show cmpF y = none by rw [HV.out, qc, ql]; rfl)
            go_wp2_with (first | (go_at_call 35; refine (isLeaf_calls u A0 c0 1 _).mono ?_; rintro e W7 ⟨rfl, hb7⟩; rw [ql']) | fail)
            have i0' := of_eq_true i0
            have hlt' := of_eq_true hlt
            go_roundg (cs.length + 1 - (i + 1).toNat)
            case measure => have := HI.out; omega
            case rel => exact ⟨i + 1, congrArg (Value.int .i64) (wrap_succ i0' hlt' hm), ⟨by omega, by omega, rfl⟩, ⟨below_then HB2.out HB2.out.size (below_then HB6.out HB6.out.size hb7)⟩, endn HW.out _ (below_then HB6.out HB6.out.size hb7) ⟨i0', hlt'⟩⟩
          case true =>
            have ql' : (u.f0 == 1 && ((u.f4.length : Int) == 0)) = true := ql
            cases qv : isCon v
            case false =>
              have qv' : (v.f0 == 0 && ((v.f4.length : Int) == 0)) = false := qv
              have HW := Aside0.mk (show cmpF y = none by rw [HV.out, qc, ql, qv]; rfl)
              go_wp2_with (first | (go_at_call 35; (with_reducible refine (isLeaf_calls u A0 c0 1 _).mono ?_); rintro e W7 ⟨rfl, hb7⟩; rw [ql']; clear a0 a1 a2 a3 a4 a5 a6; have hX8 := blk_below HX8'.out hb7; have hX9 := blk_below HX9'.out hb7; obtain ⟨b0, b1, b2, b3, b4, b5, b6⟩ := box7 hX9) | (go_at_call 35; (with_reducible refine (isLeaf_calls v A1 c1 0 _).mono ?_); rintro e W8 ⟨rfl, hb8⟩; rw [qv']; clear b0 b1 b2 b3 b4 b5 b6; obtain ⟨a0, a1, a2, a3, a4, a5, a6⟩ := box7 (blk_below hX8 hb8); obtain ⟨b0, b1, b2, b3, b4, b5, b6⟩ := box7 (blk_below hX9 hb8)) | fail)
              have i0' := of_eq_true i0
              have hlt' := of_eq_true hlt
              go_roundg (cs.length + 1 - (i + 1).toNat)
              case measure => have := HI.out; omega
              case rel => exact ⟨i + 1, congrArg (Value.int .i64) (wrap_succ i0' hlt' hm), ⟨by omega, by omega, rfl⟩, ⟨below_then HB2.out HB2.out.size (below_then (below_then HB6.out HB6.out.size hb7) (Nat.le_trans HB6.out.size hb7.size) hb8)⟩, endn HW.out _ (below_then (below_then HB6.out HB6.out.size hb7) (Nat.le_trans HB6.out.size hb7.size) hb8) ⟨i0', hlt'⟩⟩
            case true =>
              have qv' : (v.f0 == 0 && ((v.f4.length : Int) == 0)) = true := qv
              have HW := Aside0.mk (show cmpF y = some ⟨u.f1, y.f3, v.f2⟩ by rw [HV.out, qc, ql, qv]; rfl)
              go_wp2_with (first | (go_at_call 35; (with_reducible refine (isLeaf_calls u A0 c0 1 _).mono ?_); rintro e W7 ⟨rfl, hb7⟩; rw [ql']; clear a0 a1 a2 a3 a4 a5 a6; have hX8 := blk_below HX8'.out hb7; have hX9 := blk_below HX9'.out hb7; obtain ⟨b0, b1, b2, b3, b4, b5, b6⟩ := box7 hX9) | (go_at_call 35; (with_reducible refine (isLeaf_calls v A1 c1 0 _).mono ?_); rintro e W8 ⟨rfl, hb8⟩; rw [qv']; clear b0 b1 b2 b3 b4 b5 b6; obtain ⟨a0, a1, a2, a3, a4, a5, a6⟩ := box7 (blk_below hX8 hb8); obtain ⟨b0, b1, b2, b3, b4, b5, b6⟩ := box7 (blk_below hX9 hb8)) | (refine T_append k55 (w0 := W1) W1.heap.size (fun k => k < W1.heap.size) (by rfl) (.tmp 57) (.tmp 64) 51 55 (.agg #[.int .i64 0, .int .i64 0, .int .i64 0, .int .i64 0, .string ⟨#[]⟩]) 48 rfl Tryd.underlying51 info55 rfl (by decide) (by omega) u3 ((cs.take i.toNat).filterMap cmpF) ⟨u.f1, y.f3, v.f2⟩ (Cs55 ⟨u.f1, y.f3, v.f2⟩).toList rfl rfl (FK55 _ _ _) (T_below HT2.out (below_then (below_then HB6.out HB6.out.size hb7) (Nat.le_trans HB6.out.size hb7.size) hb8)) (below_then HB2.out HB2.out.size (below_then (below_then HB6.out HB6.out.size hb7) (Nat.le_trans HB6.out.size hb7.size) hb8)) (Nat.le_trans HB2.out.size (below_then (below_then HB6.out HB6.out.size hb7) (Nat.le_trans HB6.out.size hb7.size) hb8).size) HLT.out ?_; intro v1 w9 hN1 hb9 hg1 hat1) | fail)
              have i0' := of_eq_true i0
              have hlt' := of_eq_true hlt
              have HN1 := Aside0.mk (show T k55 55 w9 W1.heap.size (fun k => k < W1.heap.size) v1 ((cs.take (i + 1).toNat).filterMap cmpF) by rw [succ_toNat i0', HR.out, cmp_some HW.out]; exact hN1)
              have HB9 := Aside0.mk hb9
              clear hN1 hb9 hg1 hat1
              go_roundg (cs.length + 1 - (i + 1).toNat)
              case measure => have := HI.out; omega
              case rel => exact ⟨i + 1, congrArg (Value.int .i64) (wrap_succ i0' hlt' hm), ⟨by omega, by omega, rfl⟩, HB9, HN1⟩
    · have hb0 : decide (i < (cs.length : Int)) = false := decide_eq_false hlt
      have e : cs.take i.toNat = cs := List.take_of_length_le (by omega)
      rw [e] at HT
      clear e hlt i0 i1 i2 HI
      obtain ⟨A7, c7, e7, l7, g7⟩ := T_reads HT.out
      subst e7
      go_wp2
      go_ret
      rw [HCS.out]
      exact ⟨A7, c7, rfl, l7, g7, below_then HB1.out HB1.out.size HB.out⟩
end Go.Proofs.YthjjolmmdgnjfaaDoor
