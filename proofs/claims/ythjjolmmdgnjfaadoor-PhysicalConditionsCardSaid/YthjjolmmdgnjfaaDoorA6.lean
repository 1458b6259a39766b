/- 'scalar.And' and the reference's 'And' join a list of trees; 'cloneScalar' copies a tree. -/
import Derived.Test.YthjjolmmdgnjfaaDoorA4
import Derived.Test.YthjjolmmdgnjfaaDoorA5
namespace Go.Proofs.YthjjolmmdgnjfaaDoor
open Go.RowKit Go.Proofs.YthjjolmmdgnjfaaDoorW.PrintWords PPhysicalConditions
set_option linter.unusedVariables false

/-- The seven cells of a tree at an address. -/
def At7 (W : World) (a : Addr) (x : S26) (A : Option Addr) (c : Nat) : Prop := W.cell? a = some (.int .i64 x.f0) ∧ W.cell? ⟨a.block, a.off + 1, none⟩ = some (.int .i64 x.f1) ∧ W.cell? ⟨a.block, a.off + 2, none⟩ = some (.int .i64 x.f2.f0) ∧ W.cell? ⟨a.block, a.off + 3, none⟩ = some (.int .i64 x.f2.f1) ∧ W.cell? ⟨a.block, a.off + 4, none⟩ = some (.string x.f2.f2) ∧ W.cell? ⟨a.block, a.off + 5, none⟩ = some (.int .i64 x.f3) ∧ W.cell? ⟨a.block, a.off + 6, none⟩ = some (.slice A x.f4.length c)
theorem At7.later {w wr : World} {a : Addr} {x : S26} {A : Option Addr} {c : Nat} (h : At7 w a x A c) (hb : Below w.heap.size w wr) : At7 wr a x A c :=
  ⟨cell_later hb h.1, cell_later hb h.2.1, cell_later hb h.2.2.1, cell_later hb h.2.2.2.1, cell_later hb h.2.2.2.2.1, cell_later hb h.2.2.2.2.2.1, cell_later hb h.2.2.2.2.2.2⟩
theorem At7.al {w : World} {a : Addr} {x : S26} {A : Option Addr} {c : Nat} (h : At7 w a x A c) (o : Obj) : At7 (w.alloc o) a x A c := h.later (below_alloc (Below.refl _ _) o)
theorem at7F {wr : World} {P : Nat → Prop} {A : Option Addr} {n : Nat} {xs : List S26} (h : Kd.F k26 wr P A n xs) (i : Int) (h0 : 0 ≤ i) (h1 : i < n) :
    ∃ ad A6 c6, A = some ad ∧ At7 wr (ad.add (Int.toNat i * 7)) (rd_T26 xs i) A6 c6 ∧ (rd_T26 xs i).f4.length ≤ c6 ∧ Kd.F k26 wr P A6 (rd_T26 xs i).f4.length (rd_T26 xs i).f4 ∧ P ad.block := by
  obtain ⟨ad, A0, c0, e0, x0, x1, x2, x3, x4, x5, x6, l0, g0, p0⟩ := at26F h i h0 h1
  exact ⟨ad, A0, c0, e0, ⟨x0, x1, x2, x3, x4, x5, x6⟩, l0, g0, p0⟩
theorem at26F0 {wr : World} {P : Nat → Prop} {A : Option Addr} {n : Nat} {xs : List S26} (h : Kd.F k26 wr P A n xs) (hn : 1 ≤ n) :
    ∃ ad A0 c0, A = some ad ∧ At7 wr ad (rd_T26 xs 0) A0 c0 ∧ (rd_T26 xs 0).f4.length ≤ c0 ∧ Kd.F k26 wr P A0 (rd_T26 xs 0).f4.length (rd_T26 xs 0).f4 ∧ P ad.block :=
  at7F h 0 (Int.le_refl _) (by omega)
abbrev ZA : Array Value := #[.int .i64 0, .int .i64 0, .int .i64 0, .int .i64 0, .string ⟨#[]⟩, .int .i64 0, .slice none 0 0]
def and2 (a b : S26) : S26 := ⟨2, 0, z23, 11, [a, b]⟩
def andL : List S26 → S26
  | [] => tru
  | x :: r => r.foldl and2 x
theorem andL_snoc (xs : List S26) (y : S26) (h : xs ≠ []) : andL (xs ++ [y]) = and2 (andL xs) y := by
  cases xs with
  | nil => exact absurd rfl h
  | cons x r => simp [andL, List.foldl_append]
theorem andL_take1 {xs : List S26} (h : 1 ≤ xs.length) : andL (xs.take 1) = rd_T26 xs 0 := by
  cases xs with
  | nil => simp at h
  | cons x r => simp [andL, rd_T26]
theorem andL_step {xs : List S26} {i : Int} (h0 : 0 ≤ i) (h1 : i + 1 < xs.length) : andL (xs.take (i.toNat + 1 + 1)) = and2 (andL (xs.take (i.toNat + 1))) (rd_T26 (xs.drop 1) i) := by
  have e : rd_T26 (xs.drop 1) i = rd_T26 xs (i + 1) := by
    unfold rd_T26
    rw [List.getD_eq_getElem?_getD, List.getD_eq_getElem?_getD, List.getElem?_drop, succ_toNat h0, Nat.add_comm]
  have t := take_rd (xs := xs) (i := i + 1) (by omega) (by omega)
  rw [succ_toNat h0] at t
  rw [t, andL_snoc _ _ (by intro h; have := congrArg List.length h; rw [List.length_take] at this; simp only [List.length_nil] at this; omega), e]
theorem reps_two {α : Type} {R : α → List Value → Prop} {n : Nat} {x y : α} {c d : List Value} (h : R x c) (hc : c.length = n) (g : R y d) (hd : d.length = n) : Reps R n [x, y] (c ++ d) := by
  have := ((Reps.none R n).snoc h hc).snoc g hd
  simpa using this
abbrev Cs2 (x : S26) (A : Option Addr) (c : Nat) (y : S26) (B : Option Addr) (d : Nat) : Array Value := #[.int .i64 x.f0, .int .i64 x.f1, .int .i64 x.f2.f0, .int .i64 x.f2.f1, .string x.f2.f2, .int .i64 x.f3, .slice A x.f4.length c, .int .i64 y.f0, .int .i64 y.f1, .int .i64 y.f2.f0, .int .i64 y.f2.f1, .string y.f2.f2, .int .i64 y.f3, .slice B y.f4.length d]
abbrev W7 (W : World) (g : Nat) (v0 v1 v2 v3 v4 v5 v6 : Value) : World := ((((((W.setCell ⟨g, 0, none⟩ v0).setCell ⟨g, 1, none⟩ v1).setCell ⟨g, 2, none⟩ v2).setCell ⟨g, 3, none⟩ v3).setCell ⟨g, 4, none⟩ v4).setCell ⟨g, 5, none⟩ v5).setCell ⟨g, 6, none⟩ v6
theorem two_made {W : World} {ok : Nat → Prop} {z y : S26} {B B1 : Option Addr} {d d1 : Nat} (hz : z.f4.length ≤ d ∧ Kd.F k26 W ok B z.f4.length z.f4) (hy : y.f4.length ≤ d1 ∧ Kd.F k26 W ok B1 y.f4.length y.f4) (hok : ok W.heap.size) :
    Kd.F k26 (W.alloc (.cells (Cs2 z B d y B1 d1) 26)) ok (some ⟨W.heap.size, 0, none⟩) 2 [z, y] :=
  Kd.N_F (N_lit_at k26 W.heap.size 26 (xs := [z, y]) (inner := (Cs z B d).toList ++ (Cs y B1 d1).toList) (reps_two (FK_of_F hz.1 hz.2) rfl (FK_of_F hy.1 hy.2) rfl) (fun _ h => h) hok (Nat.le_refl _) (by simp))
section
variable {ops : Array Oper} {rest : List Oper} {o : Oper} {a : Act} {Q : Exit → Act → World → Prop}
/-- A whole tree is stored into a block of one's own. -/
theorem put7_event {W : World} (hgd : o.guard = none) (hN : o.dst = none) {p v : Operand} (ho : o.op = .store 26 p v) {g : Nat} {cs : Array Value} {T : TypeId}
    (hb : W.heap[g]? = some (.cells cs T (0, 0))) (hp : a.eval p = .pointer (some ⟨g, 0, none⟩)) {a0 a1 a2 a3 a5 : Int} {s : ByteArray} {A : Option Addr} {n c : Nat} (hv : a.eval v = .agg #[.int .i64 a0, .int .i64 a1, .int .i64 a2, .int .i64 a3, .string s, .int .i64 a5, .slice A n c]) (hs : 7 = cs.size)
    (h : ∀ W1, W1.heap[g]? = some (.cells #[.int .i64 a0, .int .i64 a1, .int .i64 a2, .int .i64 a3, .string s, .int .i64 a5, .slice A n c] T (0, 0)) → Put W g W1 → wpList Tryd.prog ops Q rest a W1) : wpList Tryd.prog ops Q (o :: rest) a W :=
  put_event (vs := [.int .i64 a0, .int .i64 a1, .int .i64 a2, .int .i64 a3, .string s, .int .i64 a5, .slice A n c]) hgd hN ho hb hp (by rw [hv]; rfl) hs (by kernel_rfl) (by
    intro q hq
    simp only [List.mem_cons, List.not_mem_nil, or_false] at hq
    rcases hq with rfl | rfl | rfl | rfl | rfl | rfl | rfl <;> rfl) h
end
/-- A tree as a function gave it back. -/
def TreePost (w : World) (P : Nat → Prop) (x : S26) (e : Ending) (w' : World) : Prop := ∃ (A : Option Addr) (c : Nat), e = .returned (Ag x A c) ∧ x.f4.length ≤ c ∧ Kd.F k26 w' (fun k => P k ∨ w.heap.size ≤ k) A x.f4.length x.f4 ∧ Below w.heap.size w w'
theorem F_tail {wr : World} {P : Nat → Prop} {A : Option Addr} {c : Nat} {xs : List S26} (h : Kd.F k26 wr P A xs.length xs) (h1 : 1 ≤ xs.length) (hc : xs.length ≤ c) : Kd.F k26 wr P (if c = 1 then A else A.map (·.add 7)) (xs.drop 1).length (xs.drop 1) :=
  fun W' hW => Kd.C_drop (m := 1) (h W' hW) h1 hc
set_option maxRecDepth 100000 in
set_option maxHeartbeats 2000000 in
theorem and_calls (xs : List S26) (A : Option Addr) (c : Nat) (P : Nat → Prop) (w : World) (hc : xs.length ≤ c) (hF : Kd.F k26 w P A xs.length xs) :
    Calls Tryd.prog 17 #[.slice A xs.length c] w (TreePost w P (andL xs)) := by
  have hm : xs.length ≤ 9223372036854775807 := (Kd.F_now hF).2.1
  obtain ⟨Q, q1, q2, hF'⟩ : ∃ Q : Nat → Prop, (∀ k, Q k → P k) ∧ (∀ k, Q k → k < w.heap.size) ∧ Kd.F k26 w Q A xs.length xs := ⟨_, fun _ h => h.1, fun _ h => h.2, Kd.F_bound hF⟩
  have HP := Aside0.mk (And.intro q1 q2)
  have HF := Aside0.mk hF'
  have HC := Aside0.mk hc
  clear hF q1 q2 hF'
  by_cases h0 : (xs.length : Int) = 0
  · have hb0 : ((xs.length : Int) == 0) = true := by simpa using h0
    have HV := Aside0.mk (show andL xs = tru by cases xs with | nil => rfl | cons x r => simp at h0; omega)
    clear h0 hc
    go_enter Tryd.func17, Tryd.ntmps17
    go_wp2_with (first | (go_at_call 33; refine (truth_true _).mono ?_; rintro e w' ⟨rfl, rfl⟩) | (go_at_call 32; refine (constant_at _ _ _ _).mono ?_; rintro e w' ⟨rfl, rfl⟩) | fail)
    exact bodyPost_ret (v := .agg #[.int .i64 0, .int .i64 0, .int .i64 2, .int .i64 1, .string ⟨#[]⟩, .int .i64 0, .slice none 0 0]) (by simp [results, Tryd.results17, go_sem]) rfl ⟨none, 0, by rw [HV.out]; rfl, by rw [HV.out]; exact Nat.le_refl _, by rw [HV.out]; exact Kd.N_F (Kd.N_nil _ 26 _ 0 _), by repeat (first | exact Below.refl _ _ | apply below_alloc)⟩
  · have hb0 : ((xs.length : Int) == 0) = false := by simpa using h0
    have hm1 : (xs.length - 1 : Nat) ≤ 9223372036854775807 := by omega
    obtain ⟨ad, A0, c0, e0, hx0, l0, g0, p0⟩ := at26F0 HF.out (by omega)
    subst e0
    have HK := Aside0.mk (And.intro l0 g0)
    have i0 : 0 < xs.length := by omega
    have i1 : 1 ≤ c := by omega
    have i2 : 1 ≤ xs.length := by omega
    clear h0 l0 g0 p0
    have HX := Aside0.mk (blk_new w (.cells ZA 26))
    have HB := Aside0.mk (below_alloc (Below.refl w.heap.size w) (.cells ZA 26))
    go_enter Tryd.func17, Tryd.ntmps17
    go_upto_region 1 with (fail)
    obtain ⟨W0, hW0⟩ : ∃ W0 : World, W0 = w.alloc (.cells ZA 26) := ⟨_, rfl⟩
    obtain ⟨x0, x1, x2, x3, x4, x5, x6⟩ : At7 W0 ad (rd_T26 xs 0) A0 c0 := by rw [hW0]; exact At7.al hx0 _
    have HS := Aside0.mk (show W0.heap.size = w.heap.size + 1 by rw [hW0, World.size_alloc])
    rw [← hW0] at HX HB
    have hW1 : w.alloc (.cells ZA 26) = W0 := hW0.symm
    rw [hW1]
    clear hW0 hW1
    go_upto_region 4 with (fail)
    have HX1 := Aside0.mk (blk_new W0 (.cells (Cs (rd_T26 xs 0) A0 c0) 26))
    have HX0 := Aside0.mk (blk_alloc HX.out (.cells (Cs (rd_T26 xs 0) A0 c0) 26))
    have HB1 := Aside0.mk (below_alloc HB.out (.cells (Cs (rd_T26 xs 0) A0 c0) 26))
    clear HX x0 x1 x2 x3 x4 x5 x6 hx0
    obtain ⟨W1, hW1⟩ : ∃ W1 : World, W0.alloc (.cells (Cs (rd_T26 xs 0) A0 c0) 26) = W1 := ⟨_, rfl⟩
    rw [hW1] at HX0 HX1 HB1 ⊢
    clear hW1
    have HD := Aside0.mk (F_tail HF.out i2 HC.out)
    go_wp2
    case' inr h =>
      obtain ⟨a1, ha1⟩ : ∃ a1 : Addr, ⟨ad.block, ad.off + 7, none⟩ = a1 := ⟨_, rfl⟩
      have HT : Aside0 (Kd.F k26 w Q (some a1) (xs.drop 1).length (xs.drop 1)) := ⟨by have := HD.out; rw [if_neg h] at this; rw [← ha1]; exact this⟩
      rw [ha1]
      clear ha1 h HD
    case' inl h =>
      obtain ⟨a1, ha1⟩ : ∃ a1 : Addr, ad = a1 := ⟨_, rfl⟩
      have HT : Aside0 (Kd.F k26 w Q (some a1) (xs.drop 1).length (xs.drop 1)) := ⟨by have := HD.out; rw [if_pos h] at this; rw [← ha1]; exact this⟩
      rw [ha1]
      clear ha1 h HD
    all_goals
      rw [List.length_drop] at HT
      clear i1
      go_loopg [17] xs.length (fun kq v17 wr => ∃ i : Int, v17 = .int .i64 i ∧ Aside0 (0 ≤ i ∧ i + 1 ≤ xs.length ∧ kq = xs.length - i.toNat) ∧ Aside0 (Below w.heap.size w wr) ∧ Aside0 (wr.heap[w.heap.size]? = some (.cells ZA 26 (0, 0))) ∧ ∃ B d, Aside0 (wr.heap[W0.heap.size]? = some (.cells (Cs (andL (xs.take (i.toNat + 1))) B d) 26 (0, 0))) ∧ Aside0 ((andL (xs.take (i.toNat + 1))).f4.length ≤ d ∧ Kd.F k26 wr (fun k => Q k ∨ W0.heap.size < k) B (andL (xs.take (i.toNat + 1))).f4.length (andL (xs.take (i.toNat + 1))).f4))
      case atStart =>
        have e : andL (xs.take 1) = rd_T26 xs 0 := andL_take1 i2
        exact ⟨0, rfl, ⟨by omega, by omega, by omega⟩, HB1, HX0, A0, c0, ⟨by rw [show (Int.toNat 0 + 1) = 1 from rfl, e]; exact HX1.out⟩, ⟨by rw [show (Int.toNat 0 + 1) = 1 from rfl, e]; exact ⟨HK.out.1, Kd.F_mono (Kd.F_below HK.out.2 HB1.out) (fun _ h => .inl h)⟩⟩⟩
      case round =>
        clear HB1 HX0 HX1 HB
        obtain ⟨i, rfl, HI, HB, HX0, B, d, HX1, HG⟩ := hrel
        obtain ⟨j0, j1, j2⟩ := HI.out
        by_cases hlt : i < (xs.length - 1 : Nat)
        · have hb1 : decide (i < ((xs.length - 1 : Nat) : Int)) = true := decide_eq_true hlt
          obtain ⟨ad', B1, d1, e1, hy7, m1, g1, p1⟩ := at7F (Kd.F_below HT.out HB.out) i j0 hlt
          injection e1 with e1
          subst e1
          have HA := Aside0.mk (show andL (xs.take (i.toNat + 1 + 1)) = and2 (andL (xs.take (i.toNat + 1))) (rd_T26 (xs.drop 1) i) from andL_step j0 (by clear HI; omega))
          obtain ⟨y, hy⟩ : ∃ y, rd_T26 (xs.drop 1) i = y := ⟨_, rfl⟩
          obtain ⟨z, hz⟩ : ∃ z, andL (xs.take (i.toNat + 1)) = z := ⟨_, rfl⟩
          rw [hy] at hy7 m1 g1
          rw [hy, hz] at HA
          rw [hz] at HX1 HG
          clear hy hz
          have HY := Aside0.mk (And.intro m1 g1)
          clear m1 g1 p1 j1 j2
          obtain ⟨y0, y1, y2, y3, y4, y5, y6⟩ := hy7
          replace hlt := eq_true hlt
          replace j0 := eq_true j0
          go_upto_region 7 with (fail)
          clear y0 y1 y2 y3 y4 y5 y6
          have HS2 := Aside0.mk (show W0.heap.size < wr.heap.size from lt_of_block HX1.out)
          obtain ⟨W2, hW2⟩ : ∃ W2 : World, wr.alloc (.cells (Cs y B1 d1) 26) = W2 := ⟨_, rfl⟩
          have HB2 := Aside0.mk (show Below w.heap.size w W2 by rw [← hW2]; exact below_alloc HB.out _)
          have HX2 := Aside0.mk (show W2.heap[w.heap.size]? = some (.cells ZA 26 (0, 0)) by rw [← hW2]; exact blk_alloc HX0.out _)
          have HX3 := Aside0.mk (show W2.heap[W0.heap.size]? = some (.cells (Cs z B d) 26 (0, 0)) by rw [← hW2]; exact blk_alloc HX1.out _)
          have HX4 := Aside0.mk (show W2.heap[wr.heap.size]? = some (.cells (Cs y B1 d1) 26 (0, 0)) by rw [← hW2]; exact blk_new _ _)
          have HG2 := Aside0.mk (show z.f4.length ≤ d ∧ Kd.F k26 W2 (fun k => Q k ∨ W0.heap.size < k) B z.f4.length z.f4 by rw [← hW2]; exact ⟨HG.out.1, Kd.F_alloc HG.out.2 _⟩)
          have HY2 := Aside0.mk (show y.f4.length ≤ d1 ∧ Kd.F k26 W2 (fun k => Q k ∨ W0.heap.size < k) B1 y.f4.length y.f4 by rw [← hW2]; exact ⟨HY.out.1, Kd.F_alloc (Kd.F_mono HY.out.2 (fun _ h => .inl h)) _⟩)
          have HS3 := Aside0.mk (show W0.heap.size < W2.heap.size by rw [← hW2, World.size_alloc]; have := HS2.out; omega)
          rw [hW2]
          clear hW2
          obtain ⟨a0, a1, a2, a3, a4, a5, a6⟩ := box7 HX3.out
          obtain ⟨b0, b1, b2, b3, b4, b5, b6⟩ := box7 HX4.out
          go_wp2_with (first | (refine put7_event rfl rfl rfl (blk_alloc HX3.out _) rfl rfl rfl ?_; intro W3 hx3 hp3) | fail)
          have hF4 := two_made HG2.out HY2.out (.inr HS3.out)
          have hF5 := Aside0.mk (hp3.F hF4 (fun k hk => by rcases hk with hk | hk; (have := HP.out.2 k hk; have := HS.out; omega); omega))
          have HB3 := Aside0.mk (hp3.below (below_alloc HB2.out _) (by have := HS.out; omega))
          have HX5 := Aside0.mk (hp3.blk (blk_alloc HX2.out _) (by have := HS.out; omega))
          have i0' := of_eq_true j0
          have hlt' := of_eq_true hlt
          go_roundg (xs.length - (i + 1).toNat)
          case measure => have := HI.out; omega
          case rel => exact ⟨i + 1, congrArg (Value.int .i64) (wrap_succ i0' hlt' hm1), ⟨by omega, by omega, rfl⟩, HB3, HX5, some ⟨W2.heap.size, 0, none⟩, 2, ⟨by rw [succ_toNat i0', HA.out]; exact hx3⟩, ⟨by rw [succ_toNat i0', HA.out]; exact ⟨Nat.le_refl _, hF5.out⟩⟩⟩
        · have hb1 : decide (i < ((xs.length - 1 : Nat) : Int)) = false := decide_eq_false hlt
          have e : andL (xs.take (i.toNat + 1)) = andL xs := by rw [List.take_of_length_le (by omega)]
          rw [e] at HX1 HG
          clear e hlt j0 j1 j2 HI
          obtain ⟨a0, a1, a2, a3, a4, a5, a6⟩ := box7 HX1.out
          go_wp2_with (first | (refine put7_event rfl rfl rfl HX0.out rfl rfl rfl ?_; intro W3 hx3 hp3) | fail)
          exact bodyPost_ret (results_cell_row rfl _ _ w.heap.size 26 (Cs (andL xs) B d) (0, 0) _ rfl hx3 Tryd.underlying26 rfl (by kernel_rfl)) rfl ⟨B, d, rfl, HG.out.1, Kd.F_mono (hp3.F HG.out.2 (fun k hk => by rcases hk with hk | hk; (have := HP.out.2 k hk; omega); (have := HS.out; omega))) (fun k hk => hk.imp (HP.out.1 k) (fun h => by have := HS.out; omega)), hp3.below HB.out (Nat.le_refl _)⟩
set_option maxRecDepth 100000 in
set_option maxHeartbeats 2000000 in
theorem rand_calls (xs : List S26) (A : Option Addr) (c : Nat) (P : Nat → Prop) (w : World) (hc : xs.length ≤ c) (hF : Kd.F k26 w P A xs.length xs) :
    Calls Tryd.prog 24 #[.slice A xs.length c] w (TreePost w P (andL xs)) := by
  have hm : xs.length ≤ 9223372036854775807 := (Kd.F_now hF).2.1
  obtain ⟨Q, q1, q2, hF'⟩ : ∃ Q : Nat → Prop, (∀ k, Q k → P k) ∧ (∀ k, Q k → k < w.heap.size) ∧ Kd.F k26 w Q A xs.length xs := ⟨_, fun _ h => h.1, fun _ h => h.2, Kd.F_bound hF⟩
  have HP := Aside0.mk (And.intro q1 q2)
  have HF := Aside0.mk hF'
  have HC := Aside0.mk hc
  clear hF q1 q2 hF'
  by_cases h0 : (xs.length : Int) = 0
  · have hb0 : ((xs.length : Int) == 0) = true := by simpa using h0
    have HV := Aside0.mk (show andL xs = tru by cases xs with | nil => rfl | cons x r => simp at h0; omega)
    clear h0 hc
    go_enter Tryd.func24, Tryd.ntmps24
    go_wp2_with (first | (go_at_call 36; refine (True_at _).mono ?_; rintro e w' ⟨rfl, rfl⟩) | fail)
    exact bodyPost_ret (v := .agg #[.int .i64 0, .int .i64 0, .int .i64 2, .int .i64 1, .string ⟨#[]⟩, .int .i64 0, .slice none 0 0]) (by simp [results, Tryd.results24, go_sem]) rfl ⟨none, 0, by rw [HV.out]; rfl, by rw [HV.out]; exact Nat.le_refl _, by rw [HV.out]; exact Kd.N_F (Kd.N_nil _ 26 _ 0 _), by repeat (first | exact Below.refl _ _ | apply below_alloc)⟩
  · have hb0 : ((xs.length : Int) == 0) = false := by simpa using h0
    obtain ⟨ad, A0, c0, e0, hx0, l0, g0, p0⟩ := at26F0 HF.out (by omega)
    subst e0
    have HK := Aside0.mk (And.intro l0 g0)
    have i0 : 0 < xs.length := by omega
    have i2 : 1 ≤ xs.length := by omega
    clear h0 l0 g0 p0
    have HX := Aside0.mk (blk_new w (.cells ZA 26))
    have HB := Aside0.mk (below_alloc (Below.refl w.heap.size w) (.cells ZA 26))
    go_enter Tryd.func24, Tryd.ntmps24
    go_upto_region 1 with (fail)
    obtain ⟨W0, hW0⟩ : ∃ W0 : World, W0 = w.alloc (.cells ZA 26) := ⟨_, rfl⟩
    obtain ⟨x0, x1, x2, x3, x4, x5, x6⟩ : At7 W0 ad (rd_T26 xs 0) A0 c0 := by rw [hW0]; exact At7.al hx0 _
    have HS := Aside0.mk (show W0.heap.size = w.heap.size + 1 by rw [hW0, World.size_alloc])
    rw [← hW0] at HX HB
    have hW1 : w.alloc (.cells ZA 26) = W0 := hW0.symm
    rw [hW1]
    clear hW0 hW1
    go_upto_region 4 with (fail)
    have HX1 := Aside0.mk (blk_new W0 (.cells (Cs (rd_T26 xs 0) A0 c0) 26))
    have HX0 := Aside0.mk (blk_alloc HX.out (.cells (Cs (rd_T26 xs 0) A0 c0) 26))
    have HB1 := Aside0.mk (below_alloc HB.out (.cells (Cs (rd_T26 xs 0) A0 c0) 26))
    clear HX x0 x1 x2 x3 x4 x5 x6 hx0
    obtain ⟨W1, hW1⟩ : ∃ W1 : World, W0.alloc (.cells (Cs (rd_T26 xs 0) A0 c0) 26) = W1 := ⟨_, rfl⟩
    rw [hW1] at HX0 HX1 HB1 ⊢
    clear hW1
    go_wp2
    go_loopg [4] xs.length (fun kq v4 wr => ∃ i : Int, v4 = .int .i64 i ∧ Aside0 (1 ≤ i ∧ i ≤ xs.length ∧ kq = xs.length + 1 - i.toNat) ∧ Aside0 (Below w.heap.size w wr) ∧ Aside0 (wr.heap[w.heap.size]? = some (.cells ZA 26 (0, 0))) ∧ ∃ B d, Aside0 (wr.heap[W0.heap.size]? = some (.cells (Cs (andL (xs.take i.toNat)) B d) 26 (0, 0))) ∧ Aside0 ((andL (xs.take i.toNat)).f4.length ≤ d ∧ Kd.F k26 wr (fun k => Q k ∨ W0.heap.size < k) B (andL (xs.take i.toNat)).f4.length (andL (xs.take i.toNat)).f4))
    case atStart =>
      have e : andL (xs.take 1) = rd_T26 xs 0 := andL_take1 i2
      exact ⟨1, rfl, ⟨by omega, by omega, by omega⟩, HB1, HX0, A0, c0, ⟨by rw [show Int.toNat 1 = 1 from rfl, e]; exact HX1.out⟩, ⟨by rw [show Int.toNat 1 = 1 from rfl, e]; exact ⟨HK.out.1, Kd.F_mono (Kd.F_below HK.out.2 HB1.out) (fun _ h => .inl h)⟩⟩⟩
    case round =>
      clear HB1 HX0 HX1 HB
      obtain ⟨i, rfl, HI, HB, HX0, B, d, HX1, HG⟩ := hrel
      obtain ⟨j0, j1, j2⟩ := HI.out
      by_cases hlt : i < xs.length
      · have hb1 : decide (i < (xs.length : Int)) = true := decide_eq_true hlt
        have j3 : 0 ≤ i := by omega
        obtain ⟨ad', B1, d1, e1, hy7, m1, g1, p1⟩ := at7F (Kd.F_below HF.out HB.out) i j3 hlt
        injection e1 with e1
        subst e1
        have HA := Aside0.mk (show andL (xs.take (i.toNat + 1)) = and2 (andL (xs.take i.toNat)) (rd_T26 xs i) by
          rw [take_rd j3 hlt, andL_snoc _ _ (by intro h; have := congrArg List.length h; rw [List.length_take] at this; simp only [List.length_nil] at this; omega)])
        obtain ⟨y, hy⟩ : ∃ y, rd_T26 xs i = y := ⟨_, rfl⟩
        obtain ⟨z, hz⟩ : ∃ z, andL (xs.take i.toNat) = z := ⟨_, rfl⟩
        rw [hy] at hy7 m1 g1
        rw [hy, hz] at HA
        rw [hz] at HX1 HG
        clear hy hz
        have HY := Aside0.mk (And.intro m1 (Kd.F_mono (ok' := fun k => Q k ∨ W0.heap.size < k) g1 (fun _ h => .inl h)))
        clear m1 g1 p1 j0 j1 j2
        obtain ⟨y0, y1, y2, y3, y4, y5, y6⟩ := hy7
        replace hlt := eq_true hlt
        replace j3 := eq_true j3
        have HS2 := Aside0.mk (show W0.heap.size < wr.heap.size from lt_of_block HX1.out)
        obtain ⟨a0, a1, a2, a3, a4, a5, a6⟩ := box7 HX1.out
        go_wp2_with fail
        have fr : ∀ (o : Obj) (j : Nat), (wr.alloc o).frozen? ⟨W0.heap.size, j, none⟩ = false := fun o j => blk_frozen (blk_alloc HX1.out o) j
        have q0 : ∀ o : Obj, (wr.alloc o).cell? ⟨W0.heap.size, 0, none⟩ = some (.int .i64 z.f0) := fun o => (box7 (blk_alloc HX1.out o)).1
        have q1 : ∀ o : Obj, (wr.alloc o).cell? ⟨W0.heap.size, 1, none⟩ = some (.int .i64 z.f1) := fun o => (box7 (blk_alloc HX1.out o)).2.1
        have q2 : ∀ o : Obj, (wr.alloc o).cell? ⟨W0.heap.size, 2, none⟩ = some (.int .i64 z.f2.f0) := fun o => (box7 (blk_alloc HX1.out o)).2.2.1
        have q3 : ∀ o : Obj, (wr.alloc o).cell? ⟨W0.heap.size, 3, none⟩ = some (.int .i64 z.f2.f1) := fun o => (box7 (blk_alloc HX1.out o)).2.2.2.1
        have q4 : ∀ o : Obj, (wr.alloc o).cell? ⟨W0.heap.size, 4, none⟩ = some (.string z.f2.f2) := fun o => (box7 (blk_alloc HX1.out o)).2.2.2.2.1
        have q5 : ∀ o : Obj, (wr.alloc o).cell? ⟨W0.heap.size, 5, none⟩ = some (.int .i64 z.f3) := fun o => (box7 (blk_alloc HX1.out o)).2.2.2.2.2.1
        have q6 : ∀ o : Obj, (wr.alloc o).cell? ⟨W0.heap.size, 6, none⟩ = some (.slice B z.f4.length d) := fun o => (box7 (blk_alloc HX1.out o)).2.2.2.2.2.2
        go_region
        clear fr q0 q1 q2 q3 q4 q5 q6 a0 a1 a2 a3 a4 a5 a6 y0 y1 y2 y3 y4 y5 y6
        obtain ⟨hx3, hp3⟩ := put_setCells (g := W0.heap.size) (vs := [.int .i64 2, .int .i64 0, .int .i64 0, .int .i64 0, .string ⟨#[]⟩, .int .i64 11, .slice (some ⟨wr.heap.size, 0, none⟩) 2 2]) (blk_alloc HX1.out (.cells (Cs2 z B d y B1 d1) 26)) rfl
        obtain ⟨W3, hW3⟩ : ∃ W3 : World, W7 (wr.alloc (.cells (Cs2 z B d y B1 d1) 26)) W0.heap.size (.int .i64 2) (.int .i64 0) (.int .i64 0) (.int .i64 0) (.string ⟨#[]⟩) (.int .i64 11) (.slice (some ⟨wr.heap.size, 0, none⟩) 2 2) = W3 := ⟨_, rfl⟩
        simp only [World.setCells, Nat.reduceAdd, Nat.zero_add] at hx3 hp3
        dsimp only [W7, Cs2] at hW3 hx3 hp3
        rw [hW3] at hx3 hp3 ⊢
        have hF4 := two_made HG.out HY.out (.inr HS2.out)
        have hF5 := Aside0.mk (hp3.F hF4 (fun k hk => by rcases hk with hk | hk; (have := HP.out.2 k hk; have := HS.out; omega); omega))
        have HB3 := Aside0.mk (hp3.below (below_alloc HB.out _) (by have := HS.out; omega))
        have HX5 := Aside0.mk (hp3.blk (blk_alloc HX0.out _) (by have := HS.out; omega))
        have HX6 := Aside0.mk hx3
        clear hF4 hx3 hp3
        go_wp2
        have i0' := of_eq_true j3
        have hlt' := of_eq_true hlt
        go_roundg (xs.length + 1 - (i + 1).toNat)
        case measure => have := HI.out; omega
        case rel => exact ⟨i + 1, congrArg (Value.int .i64) (wrap_succ i0' hlt' hm), ⟨by omega, by omega, rfl⟩, ⟨below_drew HB3.out⟩, ⟨HX5.out⟩, some ⟨wr.heap.size, 0, none⟩, 2, ⟨by rw [succ_toNat i0', HA.out]; exact HX6.out⟩, ⟨by rw [succ_toNat i0', HA.out]; exact ⟨Nat.le_refl _, Kd.F_drew hF5.out⟩⟩⟩
      · have hb1 : decide (i < (xs.length : Int)) = false := decide_eq_false hlt
        have e : andL (xs.take i.toNat) = andL xs := by rw [List.take_of_length_le (by omega)]
        rw [e] at HX1 HG
        clear e hlt j0 j1 j2 HI
        obtain ⟨a0, a1, a2, a3, a4, a5, a6⟩ := box7 HX1.out
        go_wp2_with (first | (refine put7_event rfl rfl rfl HX0.out rfl rfl rfl ?_; intro W3 hx3 hp3) | fail)
        exact bodyPost_ret (results_cell_row rfl _ _ w.heap.size 26 (Cs (andL xs) B d) (0, 0) _ rfl hx3 Tryd.underlying26 rfl (by kernel_rfl)) rfl ⟨B, d, rfl, HG.out.1, Kd.F_mono (hp3.F HG.out.2 (fun k hk => by rcases hk with hk | hk; (have := HP.out.2 k hk; omega); (have := HS.out; omega))) (fun k hk => hk.imp (HP.out.1 k) (fun h => by have := HS.out; omega)), hp3.below HB.out (Nat.le_refl _)⟩
end Go.Proofs.YthjjolmmdgnjfaaDoor
