/- 'awake' returns true. -/
import Derived.Test.YthjjolmmdgnjfaaDoorC6
namespace Go.Proofs.YthjjolmmdgnjfaaDoor
open Go.RowKit Go.Proofs.YthjjolmmdgnjfaaDoorW.PrintWords PPhysicalConditions
set_option linter.unusedVariables false
theorem below_through {W1 Wx w2 : World} (hx : Below W1.heap.size W1 Wx) (hb : Below Wx.heap.size Wx w2) : Below W1.heap.size W1 w2 := below_then hx hx.size hb
theorem cell_set {W : World} {a : Addr} {v u : Value} {g j : Nat} (h : W.cell? a = some v) (hne : a.block ≠ g) : (W.setCell ⟨g, j, none⟩ u).cell? a = some v := by
  have h1 := Below.heap_setCell W ⟨g, j, none⟩ u a.block hne
  rw [← h]
  simp only [World.cell?, h1]
theorem cell_dr {W : World} {a : Addr} {v : Value} (h : W.cell? a = some v) : W.drew.cell? a = some v := h
abbrev ZO : Obj := .cells ZA (26 : Nat) (0, 0)
def FinRel (W1 : World) (y : S26) (D1 D2 D3 : Option Addr) (e3 g5 : Nat) (wc : World) : Prop := Kd.C (Kd.int .i64) wc D1 1 [0] ∧ Kd.C (Kd.int .i64) wc D2 1 [1] ∧ (y.f4.length ≤ e3 ∧ k26.C wc D3 y.f4.length y.f4) ∧ wc.heap[g5]? = some (.cells (Cs y D3 e3) 26 (0, 0)) ∧ Below W1.heap.size W1 wc
theorem put7W {W : World} {g : Nat} {cs : Array Value} {T : TypeId} (hb : W.heap[g]? = some (.cells cs T (0, 0))) (hs : 7 = cs.size) (v0 v1 v2 v3 v4 v5 v6 : Value) : (W7 W g v0 v1 v2 v3 v4 v5 v6).heap[g]? = some (.cells #[v0, v1, v2, v3, v4, v5, v6] T (0, 0)) ∧ Put W g (W7 W g v0 v1 v2 v3 v4 v5 v6) :=
  put_setCells (vs := [v0, v1, v2, v3, v4, v5, v6]) hb hs
theorem fin_put {W1 w6 : World} {y : S26} {D1 D2 D3 : Option Addr} {e3 g B : Nat} (hy9 : w6.heap[g]? = some ZO) (hB6 : Below W1.heap.size W1 w6) (hg0 : W1.heap.size ≤ g) (hgB : g < B) (k1 : Kd.F (Kd.int .i64) w6 (fun k => B ≤ k) D1 1 [0]) (k2 : Kd.F (Kd.int .i64) w6 (fun k => B ≤ k) D2 1 [1]) (l3 : y.f4.length ≤ e3) (k3 : Kd.F k26 w6 (fun k => B ≤ k) D3 y.f4.length y.f4) :
    FinRel W1 y D1 D2 D3 e3 g (W7 w6 g (.int .i64 y.f0) (.int .i64 y.f1) (.int .i64 y.f2.f0) (.int .i64 y.f2.f1) (.string y.f2.f2) (.int .i64 y.f3) (.slice D3 y.f4.length e3)) := by
  obtain ⟨h1, h2⟩ := put7W hy9 rfl (.int .i64 y.f0) (.int .i64 y.f1) (.int .i64 y.f2.f0) (.int .i64 y.f2.f1) (.string y.f2.f2) (.int .i64 y.f3) (.slice D3 y.f4.length e3)
  exact ⟨Kd.F_now (h2.F k1 (fun k hk => by omega)), Kd.F_now (h2.F k2 (fun k hk => by omega)), ⟨l3, Kd.F_now (h2.F k3 (fun k hk => by omega))⟩, h1, h2.below hB6 hg0⟩
theorem fin_new {W1 w6 : World} {y : S26} {D1 D2 D3 : Option Addr} {e3 B : Nat} (hB6 : Below W1.heap.size W1 w6) (k1 : Kd.F (Kd.int .i64) w6 (fun k => B ≤ k) D1 1 [0]) (k2 : Kd.F (Kd.int .i64) w6 (fun k => B ≤ k) D2 1 [1]) (l3 : y.f4.length ≤ e3) (k3 : Kd.F k26 w6 (fun k => B ≤ k) D3 y.f4.length y.f4) :
    FinRel W1 y D1 D2 D3 e3 w6.heap.size (w6.alloc (.cells (Cs y D3 e3) 26)) :=
  ⟨Kd.F_now (Kd.F_alloc k1 _), Kd.F_now (Kd.F_alloc k2 _), ⟨l3, Kd.F_now (Kd.F_alloc k3 _)⟩, blk_new _ _, below_alloc hB6 _⟩
theorem at_p0 (W : World) (o o1 o2 : Obj) : (((W.alloc o).alloc o1).alloc o2).drew.heap[W.heap.size]? = some o := blk_alloc (blk_alloc (blk_new W o) o1) o2
theorem at_q1 (W : World) (o o1 : Obj) : ((W.alloc o).alloc o1).heap[W.heap.size + 1]? = some o1 := by
  have := blk_new (W.alloc o) o1
  rwa [World.size_alloc] at this
theorem at_p1 (W : World) (o o1 o2 : Obj) : (((W.alloc o).alloc o1).alloc o2).drew.heap[W.heap.size + 1]? = some o1 := blk_alloc (at_q1 W o o1) o2
theorem at_p2 (W : World) (o o1 o2 : Obj) : (((W.alloc o).alloc o1).alloc o2).drew.heap[W.heap.size + 1 + 1]? = some o2 := by
  have := blk_new ((W.alloc o).alloc o1) o2
  rwa [World.size_alloc, World.size_alloc] at this
abbrev lessS : S26 := opS 7 (colS 1) (colS 2)
theorem and2_calls (e y : S26) (A : Option Addr) (P : Nat → Prop) (w : World) (hF : Kd.F k26 w P A 2 [e, y]) : Calls Tryd.prog 17 #[.slice A 2 2] w (TreePost w P (andL [e, y])) := and_calls [e, y] A 2 P w (Nat.le_refl _) hF
theorem aSz : sz aCond ≤ 30 := by simp [aCond, and2, opS, colS, sz, sz.szs]
theorem le1000 : (30 : Nat) ≤ 1000 := by omega
theorem aAnd : andL [opS 5 (colS 0) (colS 3), lessS] = aCond := rfl
theorem bSz : sz bCond ≤ 30 := by simp [bCond, and2, opS, colS, numS, sz, sz.szs]
theorem int1_new (W : World) (a : Int) : Kd.C (Kd.int .i64) (W.alloc (.cells #[.int .i64 a] 3)) (some ⟨W.heap.size, 0, none⟩) 1 [a] :=
  Kd.F_now (Kd.N_F (N_lit_at (Kd.int .i64) W.heap.size 3 (xs := [a]) (inner := [.int .i64 a]) (ok := fun _ => True) (okp := fun _ => True) (reps_one (FK_int _ _ a) rfl) (fun _ h => h) trivial (Nat.le_refl _) (by simp)))
theorem int2_new (W : World) (a b : Int) : Kd.C (Kd.int .i64) (W.alloc (.cells #[.int .i64 a, .int .i64 b] 3)) (some ⟨W.heap.size, 0, none⟩) 2 [a, b] :=
  Kd.F_now (Kd.N_F (N_lit_at (Kd.int .i64) W.heap.size 3 (xs := [a, b]) (inner := [.int .i64 a] ++ [.int .i64 b]) (ok := fun _ => True) (okp := fun _ => True) (reps_two (FK_int _ _ a) rfl (FK_int _ _ b) rfl) (fun _ h => h) trivial (Nat.le_refl _) (by simp)))
theorem val1_new (W : World) (a b : Int) (s : ByteArray) : Kd.C k23 (W.alloc (.cells #[.int .i64 a, .int .i64 b, .string s] 23)) (some ⟨W.heap.size, 0, none⟩) 1 [⟨a, b, s⟩] :=
  Kd.F_now (Kd.N_F (N_lit_at k23 W.heap.size 23 (xs := [⟨a, b, s⟩]) (inner := [.int .i64 a, .int .i64 b, .string s]) (ok := fun _ => True) (okp := fun _ => True) (reps_one (FK23 _ _ ⟨a, b, s⟩) rfl) (fun _ h => h) trivial (Nat.le_refl _) (by simp)))
theorem val2_new (W : World) (a b c d : Int) (s t : ByteArray) : Kd.C k23 (W.alloc (.cells #[.int .i64 a, .int .i64 b, .string s, .int .i64 c, .int .i64 d, .string t] 23)) (some ⟨W.heap.size, 0, none⟩) 2 [⟨a, b, s⟩, ⟨c, d, t⟩] :=
  Kd.F_now (Kd.N_F (N_lit_at k23 W.heap.size 23 (xs := [⟨a, b, s⟩, ⟨c, d, t⟩]) (inner := [.int .i64 a, .int .i64 b, .string s] ++ [.int .i64 c, .int .i64 d, .string t]) (ok := fun _ => True) (okp := fun _ => True) (reps_two (FK23 _ _ ⟨a, b, s⟩) rfl (FK23 _ _ ⟨c, d, t⟩) rfl) (fun _ h => h) trivial (Nat.le_refl _) (by simp)))
theorem same1 (a : Int) (D E : Option Addr) (c d : Nat) (w : World) (hA : Kd.C (Kd.int .i64) w D 1 [a]) (hB : Kd.C (Kd.int .i64) w E 1 [a]) : Calls Tryd.prog 10 #[.slice D 1 c, .slice E 1 d] w fun e w' => e = .returned (.bool true) ∧ Below w.heap.size w w' := sameints_calls [a] D E c d w hA hB
theorem self1 (u : S23) (D E : Option Addr) (c d : Nat) (w : World) (hA : Kd.C k23 w D 1 [u]) (hB : Kd.C k23 w E 1 [u]) : Calls Tryd.prog 12 #[.slice D 1 c, .slice E 1 d] w fun e w' => e = .returned (.bool true) ∧ Below w.heap.size w w' := same_self [u] D E c d w hA hB
theorem self2 (u v : S23) (D E : Option Addr) (c d : Nat) (w : World) (hA : Kd.C k23 w D 2 [u, v]) (hB : Kd.C k23 w E 2 [u, v]) : Calls Tryd.prog 12 #[.slice D 2 c, .slice E 2 d] w fun e w' => e = .returned (.bool true) ∧ Below w.heap.size w w' := same_self [u, v] D E c d w hA hB
theorem bounds2 (x : S26) (A : Option Addr) (c : Nat) (id : Int) (nm : ByteArray) (a b : Int) (Ad : Option Addr) (cd : Nat) (P : Nat → Prop) (w : World) (u v : S23) (hn : sz x ≤ 30) (hok : okT x) (hM : Mir w) (hc : x.f4.length ≤ c) (hF : Kd.F k26 w P A x.f4.length x.f4) (hD : Kd.C (Kd.int .i64) w Ad 2 [a, b]) (hbn : bndA (findP ((conjN 30 x).filterMap cmpF)) [a, b] [] [] = ([u, v], [u])) :
    Calls Tryd.prog 8 #[Ag x A c, .agg #[.int .i64 id, .string nm, .slice Ad 2 cd]] w fun e w' => ∃ (A1 : Option Addr) (c1 : Nat) (A2 : Option Addr) (c2 : Nat), e = .returned (.tuple #[.slice A1 2 c1, .slice A2 1 c2, .bool true]) ∧ Kd.C k23 w' A1 2 [u, v] ∧ Kd.C k23 w' A2 1 [u] ∧ Below w.heap.size w w' := by
  refine (bounds_calls 30 x A c id nm [a, b] Ad cd P w hn le1000 hok hM hc hF hD (by simp)).mono ?_
  rintro e w' ⟨A1, c1, A2, c2, rfl, h1, h2, h3⟩
  rw [hbn] at h1 h2 ⊢
  exact ⟨A1, c1, A2, c2, rfl, h1, h2, h3⟩
set_option maxRecDepth 100000 in
set_option maxHeartbeats 4000000 in
theorem awake_calls (w : World) (hM : Mir w) : Calls Tryd.prog 5 #[] w fun e w' => e = .returned (.bool true) ∧ Below w.heap.size w w' := by
  have HM := Aside0.mk hM
  clear hM
  go_enter Tryd.func5, Tryd.ntmps5
  go_upto_region 3 with (first | (go_at_call 16; refine (column_at _ _).mono ?_; rintro e w' ⟨rfl, rfl⟩) | (go_at_call 15; refine (op_calls 7 (colS 1) (colS 2) none none 0 0 (fun _ => False) _ (Nat.le_refl _) (Nat.le_refl _) (F_nil _ _) (F_nil _ _)).mono ?_; rintro e w2 ⟨A2, c2, rfl, l2, f2, hb2⟩) | fail)
  have HB1 := Aside0.mk (below_alloc (below_through (W1 := w) (by repeat (first | exact Below.refl _ _ | apply below_alloc)) hb2) (.cells (Cs lessS A2 c2) 26))
  have HX1 := Aside0.mk (blk_new w2 (.cells (Cs lessS A2 c2) 26))
  have HF1 := Aside0.mk (And.intro l2 (Kd.F_alloc f2 (.cells (Cs lessS A2 c2) 26)))
  obtain ⟨W1, hW1⟩ : ∃ W1 : World, w2.alloc (.cells (Cs lessS A2 c2) 26) = W1 := ⟨_, rfl⟩
  rw [hW1] at HB1 HX1 HF1 ⊢
  clear hW1 l2 f2 hb2
  obtain ⟨g2, hg2⟩ : ∃ g, w2.heap.size = g := ⟨_, rfl⟩
  rw [hg2] at HX1 ⊢
  clear hg2
  have hlt := lt_of_block HX1.out
  obtain ⟨y, hy⟩ : ∃ y, lessS = y := ⟨_, rfl⟩
  rw [show opS 7 (colS 1) (colS 2) = lessS from rfl] at HF1
  rw [hy] at HX1 HF1
  have HY := Aside0.mk hy
  obtain ⟨e3, he3⟩ : ∃ e, opS 5 (colS 0) (colS 3) = e := ⟨_, rfl⟩
  have HE := Aside0.mk he3
  obtain ⟨cnd, hcnd⟩ : ∃ q, andL [e3, y] = q := ⟨_, rfl⟩
  have HCN := Aside0.mk hcnd
  have ecn : cnd = aCond := by rw [← hcnd, ← he3, ← hy]; rfl
  have HSZ := Aside0.mk (show sz cnd ≤ 30 by rw [ecn]; exact aSz)
  have HKY := Aside0.mk (show lsF 2 (conjN 30 cnd) = [0] ∧ rsF 2 (conjN 30 cnd) = [1] ∧ andL (restF 2 (conjN 30 cnd)) = y by rw [ecn, ← hy]; exact aKeys)
  clear hy he3 hcnd ecn
  obtain ⟨a0, a1, a2, a3, a4, a5, a6⟩ := box7 HX1.out
  go_cut [3, 4, 5] (fun v3 v4 v5 wc => ∃ (D1 : Option Addr) (e1 : Nat) (D2 : Option Addr) (e2 : Nat) (D3 : Option Addr) (e3 g5 : Nat), v3 = .slice D1 1 e1 ∧ v4 = .slice D2 1 e2 ∧ v5 = .pointer (some ⟨g5, 0, none⟩) ∧ FinRel W1 y D1 D2 D3 e3 g5 wc)
  case first =>
    go_region_held3 (fun w' => w'.cell? ⟨g2, 0, none⟩ = some (.int .i64 y.f0) ∧ w'.cell? ⟨g2, 1, none⟩ = some (.int .i64 y.f1) ∧ w'.cell? ⟨g2, 2, none⟩ = some (.int .i64 y.f2.f0) ∧ w'.cell? ⟨g2, 3, none⟩ = some (.int .i64 y.f2.f1) ∧ w'.cell? ⟨g2, 4, none⟩ = some (.string y.f2.f2) ∧ w'.cell? ⟨g2, 5, none⟩ = some (.int .i64 y.f3) ∧ w'.cell? ⟨g2, 6, none⟩ = some (.slice A2 y.f4.length c2)) (refine ⟨?_, ?_, ?_, ?_, ?_, ?_, ?_⟩ <;> (repeat (first | (with_reducible refine cell_set (W := _) ?_ (show g2 ≠ _ by have := hB6.size; have := hB17.size; have := hB15.size; omega)) | (with_reducible refine cell_al ?_ _) | (with_reducible refine cell_dr ?_) | with_reducible exact a0 | with_reducible exact a1 | with_reducible exact a2 | with_reducible exact a3 | with_reducible exact a4 | with_reducible exact a5 | with_reducible exact a6 | with_reducible exact cell_later hB6 a0 | with_reducible exact cell_later hB6 a1 | with_reducible exact cell_later hB6 a2 | with_reducible exact cell_later hB6 a3 | with_reducible exact cell_later hB6 a4 | with_reducible exact cell_later hB6 a5 | with_reducible exact cell_later hB6 a6 | with_reducible exact cell_later hB17 a0 | with_reducible exact cell_later hB17 a1 | with_reducible exact cell_later hB17 a2 | with_reducible exact cell_later hB17 a3 | with_reducible exact cell_later hB17 a4 | with_reducible exact cell_later hB17 a5 | with_reducible exact cell_later hB17 a6 | with_reducible exact cell_later hB15 a0 | with_reducible exact cell_later hB15 a1 | with_reducible exact cell_later hB15 a2 | with_reducible exact cell_later hB15 a3 | with_reducible exact cell_later hB15 a4 | with_reducible exact cell_later hB15 a5 | with_reducible exact cell_later hB15 a6))) (first | (go_at_call 16; refine (column_at _ _).mono ?_; rintro e w' ⟨rfl, rfl⟩) | (go_at_call 15; refine (op_calls 5 (colS 0) (colS 3) none none 0 0 (fun _ => False) _ (Nat.le_refl _) (Nat.le_refl _) (F_nil _ _) (F_nil _ _)).mono ?_; rintro e w15 ⟨A15, c15, rfl, l15, f15, hb15⟩; rw [HE.out] at l15 f15 ⊢; have hB15 := below_through (W1 := W1) (by repeat (first | exact Below.refl _ _ | apply below_alloc | apply below_drew)) hb15; have hF15 := Aside0.mk (And.intro (show Kd.F k26 w15 (fun _ => True) A15 (e3).f4.length (e3).f4 from Kd.F_mono f15 (fun _ _ => trivial)) (show Kd.F k26 w15 (fun _ => True) A2 y.f4.length y.f4 from Kd.F_mono (Kd.F_below HF1.out.2 hB15) (fun _ _ => trivial))); have hT1 := two_made (W := w15) (ok := fun _ => True) (z := e3) (y := y) ⟨l15, hF15.out.1⟩ ⟨HF1.out.1, hF15.out.2⟩ trivial; have hT2 := two_made (W := w15.alloc ZO) (ok := fun _ => True) (z := e3) (y := y) ⟨l15, Kd.F_alloc hF15.out.1 ZO⟩ ⟨HF1.out.1, Kd.F_alloc hF15.out.2 ZO⟩ trivial; rw [World.size_alloc] at hT2; have hT3 := Kd.F_alloc hT1 ZO; first | (have hz : w15.heap[W1.heap.size]? = some ZO := (by with_reducible exact blk_below (at_p0 W1 ZO _ _) hb15)) | (have hz : w15.heap[W1.heap.size + 1]? = some ZO := (by with_reducible exact blk_below (at_p1 W1 _ ZO _) hb15)) | (have hz : w15.heap[W1.heap.size + 1 + 1]? = some ZO := (by with_reducible exact blk_below (at_p2 W1 _ _ ZO) hb15)) | skip) | (go_at_call 17; (first | (with_reducible refine (and2_calls e3 y _ (fun _ => True) _ hT1).mono ?_) | (with_reducible refine (and2_calls e3 y _ (fun _ => True) _ hT2).mono ?_) | (with_reducible refine (and2_calls e3 y _ (fun _ => True) _ hT3).mono ?_)); rintro e w17 ⟨A17, c17, rfl, l17, f17, hb17⟩; rw [HCN.out] at l17 f17 ⊢; have hB17 := below_through (W1 := W1) (by repeat (first | exact Below.refl _ _ | exact hB15 | apply below_alloc | apply below_drew)) hb17; first | (have hz := blk_below (blk_alloc hz _) hb17) | (have hz : w17.heap[w15.heap.size]? = some ZO := (by with_reducible exact blk_below (blk_alloc (blk_new w15 ZO) _) hb17)) | (have hz : w17.heap[w15.heap.size + 1]? = some ZO := (by with_reducible exact blk_below (at_q1 w15 _ ZO) hb17)) | skip) | (go_at_call 6; (with_reducible refine (keys_callsF 30 cnd A17 c17 2 _ _ HSZ.out le1000 l17 (by first | exact f17 | exact Kd.F_alloc f17 _)).mono ?_); rintro e w6 ⟨D1, e1, D2, e2, D3, e3, rfl, k1, k2, l3, k3, hb6⟩; rw [HKY.out.1] at k1 ⊢; rw [HKY.out.2.1] at k2 ⊢; rw [HKY.out.2.2] at l3 k3 ⊢; replace k1 : Kd.F (Kd.int .i64) w6 _ D1 1 [0] := k1; replace k2 : Kd.F (Kd.int .i64) w6 _ D2 1 [1] := k2; have hB6 := below_through (W1 := W1) (by repeat (first | exact Below.refl _ _ | exact hB17 | exact hB15 | apply below_alloc | apply below_drew)) hb6; first | (have hgB := lt_of_block hz; have hy9 := blk_below hz hb6; obtain ⟨z0, z1, z2, z3, z4, z5, z6⟩ := box7 (W := w6) hy9; have fz := (fun (j : Nat) => blk_frozen hy9 j)) | (have hgB := lt_of_block (blk_new w17 ZO); have hy9 : w6.heap[w17.heap.size]? = some ZO := (by with_reducible exact blk_below (blk_new w17 ZO) hb6); obtain ⟨z0, z1, z2, z3, z4, z5, z6⟩ := box7 (W := w6) (g := w17.heap.size) hy9; have fz := (fun (j : Nat) => blk_frozen hy9 j)) | skip) | fail)
    all_goals (go_wp2_with fail; go_meet; first | with_reducible exact ⟨D1, e1, D2, e2, D3, e3, _, rfl, rfl, rfl, fin_new hB6 k1 k2 l3 k3⟩ | with_reducible exact ⟨D1, e1, D2, e2, D3, e3, _, rfl, rfl, rfl, fin_put hy9 hB6 (by have := hB15.size; have := hB17.size; omega) hgB k1 k2 l3 k3⟩)
  case rest => 
    obtain ⟨D1, e1, D2, e2, D3, e3', g5, rfl, rfl, rfl, HR⟩ := hcut
    clear a0 a1 a2 a3 a4 a5 a6 hlt HE HCN HSZ HKY
    obtain ⟨d1, d2, ⟨l3, d3⟩, hx5, hb⟩ := HR
    have HX := Aside0.mk (blk_below HX1.out hb)
    have HX5 := Aside0.mk hx5
    have HD := Aside0.mk (And.intro d1 (And.intro d2 (And.intro l3 d3)))
    have HB := Aside0.mk (below_then HB1.out HB1.out.size hb)
    have HF := Aside0.mk (And.intro HF1.out.1 (Kd.C_below (Kd.F_now HF1.out.2) hb))
    clear d1 d2 l3 d3 hx5 hb HX1 HF1 HB1 HY
    have heq : eqS y y = true := eqS_true.2 rfl
    go_upto_region 6 with (first
      | (go_at_call 10; (with_reducible refine (same1 0 D1 _ e1 1 _ (Kd.C_below HD.out.1 (below_alloc (Below.refl _ _) _)) (int1_new wc 0)).mono ?_); rintro e w6 ⟨rfl, hb6⟩; have hc6 := below_through (W1 := wc) (below_alloc (Below.refl _ _) _) hb6)
      | (go_at_call 10; (with_reducible refine (same1 1 D2 _ e2 1 _ (Kd.C_below (Kd.C_below HD.out.2.1 hc6) (below_alloc (Below.refl _ _) _)) (int1_new w6 1)).mono ?_); rintro e w7 ⟨rfl, hb7⟩; have hc7 := below_then hc6 hc6.size (below_through (W1 := w6) (below_alloc (Below.refl _ _) _) hb7); obtain ⟨b0, b1, b2, b3, b4, b5, b6⟩ := box7 (blk_below HX5.out hc7); obtain ⟨a0, a1, a2, a3, a4, a5, a6⟩ := box7 (blk_below HX.out hc7))
      | (go_at_call 18; refine (equal_calls (sz y) y y D3 A2 e3' c2 _ (Nat.le_refl _) HD.out.2.2.1 HF.out.1 (Kd.C_below HD.out.2.2.2 hc7) (Kd.C_below HF.out.2 hc7)).mono ?_; rintro e w8 ⟨rfl, hb8⟩; rw [heq]; clear a0 a1 a2 a3 a4 a5 a6 b0 b1 b2 b3 b4 b5 b6; have hc8 := below_then hc7 hc7.size hb8)
      | fail)
    clear heq hb6 hb7 hb8 hc6 hc7 HX HX5 HD HF
    have HB8 := Aside0.mk (below_then HB.out HB.out.size hc8)
    clear hc8 HB
    obtain ⟨p, hp⟩ : ∃ p, opS 5 (colS 1) (numS 5) = p := ⟨_, rfl⟩
    obtain ⟨q, hq⟩ : ∃ p, opS 9 (colS 0) (numS 2) = p := ⟨_, rfl⟩
    obtain ⟨b, hbc⟩ : ∃ b, andL [p, q] = b := ⟨_, rfl⟩
    have ebc : b = bCond := by rw [← hbc, ← hp, ← hq]; rfl
    have HP := Aside0.mk hp
    have HQ := Aside0.mk hq
    have HBC := Aside0.mk hbc
    have HZ := Aside0.mk (show sz b ≤ 30 ∧ okT b ∧ bndA (findP ((conjN 30 b).filterMap cmpF)) [1, 0] [] [] = ([⟨0, 5, ⟨#[]⟩⟩, ⟨0, 2, ⟨#[]⟩⟩], [⟨0, 5, ⟨#[]⟩⟩]) by rw [ebc]; exact ⟨bSz, okA, bBnds⟩)
    clear hp hq hbc ebc
    go_upto_region 7 with (first
      | (go_at_call 16; refine (column_at _ _).mono ?_; rintro e w' ⟨rfl, rfl⟩)
      | (go_at_call 14; refine (number_at _ _).mono ?_; rintro e w' ⟨rfl, rfl⟩)
      | (go_at_call_of 15 (Value.int .i64 5); refine (op_calls 5 (colS 1) (numS 5) none none 0 0 (fun _ => False) _ (Nat.le_refl _) (Nat.le_refl _) (F_nil _ _) (F_nil _ _)).mono ?_; rintro e w9 ⟨A9, c9, rfl, l9, f9, hb9⟩; rw [HP.out] at l9 f9 ⊢; have hc9 := below_through (W1 := w8) (by repeat (first | exact Below.refl _ _ | apply below_alloc)) hb9)
      | (go_at_call_of 15 (Value.int .i64 9); refine (op_calls 9 (colS 0) (numS 2) none none 0 0 (fun _ => False) _ (Nat.le_refl _) (Nat.le_refl _) (F_nil _ _) (F_nil _ _)).mono ?_; rintro e w10 ⟨A10, c10, rfl, l10, f10, hb10⟩; rw [HQ.out] at l10 f10 ⊢; have hc10 := below_through (W1 := w9) (by repeat (first | exact Below.refl _ _ | apply below_alloc)) hb10; have hT := two_made (W := w10) (ok := fun _ => True) (z := p) (y := q) ⟨l9, Kd.F_mono (Kd.F_below f9 hc10) (fun _ _ => trivial)⟩ ⟨l10, Kd.F_mono f10 (fun _ _ => trivial)⟩ trivial; have hc11 := below_then hc9 hc9.size hc10)
      | (go_at_call 17; (with_reducible refine (and2_calls p q _ (fun _ => True) _ hT).mono ?_); rintro e w17 ⟨A17, c17, rfl, l17, f17, hb17⟩; rw [HBC.out] at l17 f17 ⊢; have hc17 := below_then hc11 hc11.size (below_through (W1 := w10) (below_alloc (Below.refl _ _) _) hb17))
      | (go_at_call 8; refine (bounds2 b A17 c17 0 ⟨#[]⟩ 1 0 _ 2 _ _ ⟨0, 5, ⟨#[]⟩⟩ ⟨0, 2, ⟨#[]⟩⟩ HZ.out.1 HZ.out.2.1 (HM.out.later (below_alloc (below_then HB8.out HB8.out.size hc17) _)) l17 (Kd.F_alloc f17 _) (int2_new w17 1 0) HZ.out.2.2).mono ?_; rintro e w18 ⟨G1, g1, G2, g2', rfl, m1, m2, hb18⟩; have hc18 := below_then hc17 hc17.size (below_through (W1 := w17) (below_alloc (Below.refl _ _) _) hb18))
      | fail)
    have HB18 := Aside0.mk (below_then HB8.out HB8.out.size hc18)
    clear hb9 hb10 hb17 hb18 hc9 hc10 hc11 hc17 hc18 HB8 f9 f10 f17 l9 l10 l17 hT
    have HM1 := Aside0.mk m1
    have HM2 := Aside0.mk m2
    clear m1 m2
    go_wp2_with (first
      | (go_at_call 12; (with_reducible refine (self2 ⟨0, 5, ⟨#[]⟩⟩ ⟨0, 2, ⟨#[]⟩⟩ G1 _ g1 2 _ (Kd.C_below HM1.out (below_alloc (Below.refl _ _) _)) (val2_new w18 0 5 0 2 ⟨#[]⟩ ⟨#[]⟩)).mono ?_); rintro e w19 ⟨rfl, hb19⟩; have hc19 := below_through (W1 := w18) (below_alloc (Below.refl _ _) _) hb19)
      | (go_at_call 12; (with_reducible refine (self1 ⟨0, 5, ⟨#[]⟩⟩ G2 _ g2' 1 _ (Kd.C_below (Kd.C_below HM2.out hc19) (below_alloc (Below.refl _ _) _)) (val1_new w19 0 5 ⟨#[]⟩)).mono ?_); rintro e w20 ⟨rfl, hb20⟩; have hc20 := below_then hc19 hc19.size (below_through (W1 := w19) (below_alloc (Below.refl _ _) _) hb20))
      | fail)
    go_ret
    exact ⟨rfl, below_then HB18.out HB18.out.size hc20⟩

end Go.Proofs.YthjjolmmdgnjfaaDoor
