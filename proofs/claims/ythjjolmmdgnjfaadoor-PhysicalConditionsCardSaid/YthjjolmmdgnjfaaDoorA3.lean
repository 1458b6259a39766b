/- 'scalar.Conjuncts' and the reference's 'Conjuncts' list the conjuncts of a tree. -/
import Derived.Test.YthjjolmmdgnjfaaDoorA2
namespace Go.Proofs.YthjjolmmdgnjfaaDoor
open Go.RowKit Go.Proofs.YthjjolmmdgnjfaaDoorW.PrintWords PPhysicalConditions
set_option linter.unusedVariables false

theorem at26F {wr : World} {P : Nat → Prop} {A : Option Addr} {n : Nat} {xs : List S26} (h : Kd.F k26 wr P A n xs) (i : Int) (h0 : 0 ≤ i) (h1 : i < n) :
    ∃ ad A6 c6, A = some ad ∧ wr.cell? (ad.add (Int.toNat i * 7)) = some (.int .i64 (rd_T26 xs i).f0) ∧ wr.cell? ⟨(ad.add (Int.toNat i * 7)).block, (ad.add (Int.toNat i * 7)).off + 1, none⟩ = some (.int .i64 (rd_T26 xs i).f1) ∧ wr.cell? ⟨(ad.add (Int.toNat i * 7)).block, (ad.add (Int.toNat i * 7)).off + 2, none⟩ = some (.int .i64 (rd_T26 xs i).f2.f0) ∧ wr.cell? ⟨(ad.add (Int.toNat i * 7)).block, (ad.add (Int.toNat i * 7)).off + 3, none⟩ = some (.int .i64 (rd_T26 xs i).f2.f1) ∧ wr.cell? ⟨(ad.add (Int.toNat i * 7)).block, (ad.add (Int.toNat i * 7)).off + 4, none⟩ = some (.string (rd_T26 xs i).f2.f2) ∧ wr.cell? ⟨(ad.add (Int.toNat i * 7)).block, (ad.add (Int.toNat i * 7)).off + 5, none⟩ = some (.int .i64 (rd_T26 xs i).f3) ∧ wr.cell? ⟨(ad.add (Int.toNat i * 7)).block, (ad.add (Int.toNat i * 7)).off + 6, none⟩ = some (.slice A6 (rd_T26 xs i).f4.length c6) ∧ (rd_T26 xs i).f4.length ≤ c6 ∧ Kd.F k26 wr P A6 (rd_T26 xs i).f4.length (rd_T26 xs i).f4 ∧ P ad.block := by
  obtain ⟨ad, c, e, hcl, hK, hc, hp⟩ := Kd.F_get h z26 i h0 h1
  obtain ⟨A6, c6, rfl, l6, g6⟩ := k26_openF hK
  have hc0 : ∀ j u, (Cs (rd_T26 xs i) A6 c6).toList[j]? = some u → wr.cell? (ad.add (i.toNat * 7 + j)) = some u := hc
  exact ⟨ad, A6, c6, e, hc0 0 _ rfl, by rw [← add_field _ _ 1 (by omega)]; exact hc0 1 _ rfl, by rw [← add_field _ _ 2 (by omega)]; exact hc0 2 _ rfl, by rw [← add_field _ _ 3 (by omega)]; exact hc0 3 _ rfl, by rw [← add_field _ _ 4 (by omega)]; exact hc0 4 _ rfl, by rw [← add_field _ _ 5 (by omega)]; exact hc0 5 _ rfl, by rw [← add_field _ _ 6 (by omega)]; exact hc0 6 _ rfl, l6, g6, hp (by decide)⟩
def tru : S26 := ⟨0, 0, ⟨2, 1, ⟨#[]⟩⟩, 0, []⟩
/-- The conjuncts of a tree, to a depth. -/
noncomputable def conjN : Nat → S26 → List S26
  | 0, x => [x]
  | n + 1, x => if eqS x tru = true then [] else if (x.f0 == 2 && x.f3 == 11 && (x.f4.length : Int) == 2) = true then conjN n (rd_T26 x.f4 0) ++ conjN n (rd_T26 x.f4 1) else [x]
theorem sz_two {x : S26} (h : (x.f4.length : Int) = 2) : sz (rd_T26 x.f4 0) + sz (rd_T26 x.f4 1) + 1 = sz x := by
  obtain ⟨f0, f1, f2, f3, l⟩ := x
  simp only at h ⊢
  match l, h with
  | [a, b], _ => simp [rd_T26, sz, sz.szs]
theorem sz_pos (x : S26) : 1 ≤ sz x := by have := sz_len x; omega
theorem conjN_len (n : Nat) : ∀ x : S26, (conjN n x).length ≤ sz x := by
  induction n with
  | zero => intro x; simp only [conjN, List.length_singleton]; exact sz_pos x
  | succ n ih =>
    intro x
    simp only [conjN]
    split
    · simp
    · split
      · rename_i h
        simp only [Bool.and_eq_true, beq_iff_eq] at h
        have h2 := sz_two h.2
        have := ih (rd_T26 x.f4 0)
        have := ih (rd_T26 x.f4 1)
        rw [List.length_append]
        omega
      · simp only [List.length_singleton]; exact sz_pos x
theorem at26F01 {wr : World} {P : Nat → Prop} {A : Option Addr} {n : Nat} {xs : List S26} (h : Kd.F k26 wr P A n xs) (hn : 2 ≤ n) :
    ∃ ad A0 c0 A1 c1, A = some ad ∧ (wr.cell? ad = some (.int .i64 (rd_T26 xs 0).f0) ∧ wr.cell? ⟨ad.block, ad.off + 1, none⟩ = some (.int .i64 (rd_T26 xs 0).f1) ∧ wr.cell? ⟨ad.block, ad.off + 2, none⟩ = some (.int .i64 (rd_T26 xs 0).f2.f0) ∧ wr.cell? ⟨ad.block, ad.off + 3, none⟩ = some (.int .i64 (rd_T26 xs 0).f2.f1) ∧ wr.cell? ⟨ad.block, ad.off + 4, none⟩ = some (.string (rd_T26 xs 0).f2.f2) ∧ wr.cell? ⟨ad.block, ad.off + 5, none⟩ = some (.int .i64 (rd_T26 xs 0).f3) ∧ wr.cell? ⟨ad.block, ad.off + 6, none⟩ = some (.slice A0 (rd_T26 xs 0).f4.length c0)) ∧ (wr.cell? ⟨ad.block, ad.off + 7, none⟩ = some (.int .i64 (rd_T26 xs 1).f0) ∧ wr.cell? ⟨ad.block, ad.off + 7 + 1, none⟩ = some (.int .i64 (rd_T26 xs 1).f1) ∧ wr.cell? ⟨ad.block, ad.off + 7 + 2, none⟩ = some (.int .i64 (rd_T26 xs 1).f2.f0) ∧ wr.cell? ⟨ad.block, ad.off + 7 + 3, none⟩ = some (.int .i64 (rd_T26 xs 1).f2.f1) ∧ wr.cell? ⟨ad.block, ad.off + 7 + 4, none⟩ = some (.string (rd_T26 xs 1).f2.f2) ∧ wr.cell? ⟨ad.block, ad.off + 7 + 5, none⟩ = some (.int .i64 (rd_T26 xs 1).f3) ∧ wr.cell? ⟨ad.block, ad.off + 7 + 6, none⟩ = some (.slice A1 (rd_T26 xs 1).f4.length c1)) ∧ ((rd_T26 xs 0).f4.length ≤ c0 ∧ Kd.F k26 wr P A0 (rd_T26 xs 0).f4.length (rd_T26 xs 0).f4) ∧ ((rd_T26 xs 1).f4.length ≤ c1 ∧ Kd.F k26 wr P A1 (rd_T26 xs 1).f4.length (rd_T26 xs 1).f4) ∧ P ad.block := by
  obtain ⟨ad, A0, c0, e0, x0, x1, x2, x3, x4, x5, x6, l0, g0, p0⟩ := at26F h 0 (Int.le_refl _) (by omega)
  obtain ⟨ad', A1, c1, e1, y0, y1, y2, y3, y4, y5, y6, l1, g1, p1⟩ := at26F h 1 (by omega) (by omega)
  rw [e0] at e1
  injection e1 with e1
  subst e1
  have z0 : ad.add (Int.toNat 0 * 7) = ad := rfl
  have z1 : ad.add (Int.toNat 1 * 7) = ⟨ad.block, ad.off + 7, none⟩ := rfl
  rw [z0] at x0 x1 x2 x3 x4 x5 x6
  rw [z1] at y0 y1 y2 y3 y4 y5 y6
  exact ⟨ad, A0, c0, A1, c1, e0, ⟨x0, x1, x2, x3, x4, x5, x6⟩, ⟨y0, y1, y2, y3, y4, y5, y6⟩, ⟨l0, g0⟩, ⟨l1, g1⟩, p0⟩
theorem two_rows {w2 w3 : World} {b b1 m d2 : Nat} {Q okA : Nat → Prop} {v1 : Value} {xs ys : List S26} {B2 : Option Addr} (hN1 : Kd.N k26 26 w2 b1 okA v1 xs) (hN2 : Kd.N k26 26 w3 w2.heap.size (fun k => Q k ∨ w2.heap.size ≤ k) (.slice B2 m d2) ys)
    (hQ : ∀ k, Q k → k < b) (h1 : b ≤ b1) (h2 : b1 ≤ w2.heap.size) : Kd.F k26 w3 (fun k => (Q k ∨ b ≤ k) ∧ some k ≠ v1.ownBlock) B2 m ys := by
  refine Kd.F_mono (Kd.N_F hN2) (fun k hk => ⟨hk.imp id (fun h => by omega), fun he => ?_⟩)
  have h3 := Kd.N_base hN1 k he.symm
  have h4 := Kd.N_lt hN1 k he.symm
  rcases hk with hk | hk
  · have h5 := hQ k hk
    omega
  · omega
theorem R_lit_at {α : Type} (d : Kd α) {W : World} (base e : Nat) {xs : List α} {inner : List Value} {ok okp : Nat → Prop} (hrep : Reps (d.M W base okp) d.sz xs inner) (hok : ∀ k, okp k → ok k) (hfresh : ok W.heap.size) (hbase : base ≤ W.heap.size) (hm : xs.length ≤ 9223372036854775807) :
    d.R e (W.alloc (.cells inner.toArray e)) base ok (.slice (some ⟨W.heap.size, 0, none⟩) xs.length xs.length) xs := by
  refine ⟨fun k hk => ?_, inner, ?_, ?_⟩
  · have : W.heap.size = k := by simpa [Value.ownBlock] using hk
    subst this
    exact hfresh
  · have h2 := World.ownsRow_lit (base := base) (e := e) (size := d.sz) W inner.toArray xs.length hbase (by simpa [maxLen] using hm) (by simpa using hrep.1)
    simpa using h2
  · refine hrep.imp_ (fun p c hp => d.M_mono (fun k hk => ⟨hok k hk.1, fun he => ?_⟩) (Kd.M_below (d.M_bound hp) (below_alloc (Below.refl _ _) _)))
    have h3 : k = W.heap.size := by simpa [Value.ownBlock] using he
    have := hk.2.2.1
    omega
/-- A literal row of one's own, just made. -/
theorem N_lit_at {α : Type} (d : Kd α) {W : World} (base e : Nat) {xs : List α} {inner : List Value} {ok okp : Nat → Prop} (hrep : Reps (Kd.FK d W okp) d.sz xs inner) (hok : ∀ k, okp k → ok k) (hfresh : ok W.heap.size) (hbase : base ≤ W.heap.size) (hm : xs.length ≤ 9223372036854775807) :
    Kd.N d e (W.alloc (.cells inner.toArray e)) base ok (.slice (some ⟨W.heap.size, 0, none⟩) xs.length xs.length) xs := by
  have h := R_lit_at (Kd.raw d.sz) (W := W) base e (xs := Kd.chunks d.sz xs.length inner) (inner := inner) (ok := fun k => k = W.heap.size) (okp := fun _ => False) (Kd.reps_raw hrep (fun y c hk => ⟨d.K_len (Kd.FK_now hk), d.K_one (Kd.FK_now hk)⟩)) (fun _ hk => hk.elim) rfl hbase (by rw [Kd.chunks_length]; exact hm)
  rw [Kd.chunks_length] at h
  exact Kd.N_made h (World.grownBy_alloc W _ none) ⟨W.heap.size, by simp [Value.ownBlock], Nat.le_refl _⟩ (Kd.chunks_length _ _ _) (fun j y c hy hc => by rw [Kd.chunks_get hc]; exact hrep.2 j y hy) hok hfresh
theorem cell_own {W0 W w1 : World} {row : Option Nat} {a : Addr} {v : Value} (h0 : W0.cell? a = some v) (h : W.cell? a = some v) (hg : W.grownBy w1 row) (hr : ∀ k, row = some k → W0.heap.size ≤ k) : w1.cell? a = some v := by
  have h1 := World.block_lt_of_cell? W0 a h0
  have h2 := World.block_lt_of_cell? W a h
  have h3 := hg.block a.block h2 (fun e => by have := hr _ e.symm; omega)
  simpa [World.cell?, h3] using h
theorem FK_of_F {W : World} {P : Nat → Prop} {x : S26} {A : Option Addr} {c : Nat} (hc : x.f4.length ≤ c) (hF : Kd.F k26 W P A x.f4.length x.f4) : Kd.FK k26 W P x (Cs x A c).toList := k26_mkF W P x hc hF
theorem reps_one {α : Type} {R : α → List Value → Prop} {n : Nat} {x : α} {c : List Value} (h : R x c) (hc : c.length = n) : Reps R n [x] c := by
  have := (Reps.none R n).snoc h hc
  simpa using this
def ConjPost (w : World) (P : Nat → Prop) (r : List S26) (e : Ending) (w' : World) : Prop := ∃ v : Value, e = .returned v ∧ Kd.N k26 26 w' w.heap.size (fun k => P k ∨ w.heap.size ≤ k) v r ∧ Below w.heap.size w w'

abbrev conjOk (n : Nat) : Prop := ∀ (x : S26) (A : Option Addr) (c : Nat) (P : Nat → Prop) (w : World), sz x ≤ n → n ≤ 1000000 → x.f4.length ≤ c → Kd.F k26 w P A x.f4.length x.f4 →
  Calls Tryd.prog 19 #[Ag x A c] w (ConjPost w P (conjN n x))
set_option maxRecDepth 100000 in
set_option maxHeartbeats 2000000 in
theorem conj_step (n : Nat) (IH : Aside0 (conjOk n)) : conjOk (n + 1) := by
  intro x A c P w hn hm hc hF
  have HN := Aside0.mk hn
  have HM := Aside0.mk (show n ≤ 1000000 by omega)
  obtain ⟨Q, q1, q2, hF'⟩ : ∃ Q : Nat → Prop, (∀ k, Q k → P k) ∧ (∀ k, Q k → k < w.heap.size) ∧ Kd.F k26 w Q A x.f4.length x.f4 := ⟨_, fun _ h => h.1, fun _ h => h.2, Kd.F_bound hF⟩
  have HP := Aside0.mk (And.intro q1 q2)
  have HF := Aside0.mk hF'
  have HC := Aside0.mk hc
  clear hn hm hF hc q1 q2 hF'
  have HB := Aside0.mk (below_alloc (Below.refl w.heap.size w) (.cells (Cs x A c) 26))
  have HX := Aside0.mk (blk_new w (.cells (Cs x A c) 26))
  have HF1 := Aside0.mk (Kd.F_alloc HF.out (.cells (Cs x A c) 26))
  go_enter Tryd.func19, Tryd.ntmps19
  go_wp2_with fail
  obtain ⟨W0, hW0⟩ : ∃ W0 : World, W0 = w.alloc (.cells (Cs x A c) 26) := ⟨_, rfl⟩
  rw [← hW0] at HB HX HF1 ⊢
  clear hW0
  obtain ⟨a0, a1, a2, a3, a4, a5, a6⟩ := box7 HX.out
  have hbw : ∀ o1 o2 o3 o4 : Obj, Below W0.heap.size W0 ((((W0.drew.alloc o1).alloc o2).alloc o3).alloc o4) := fun o1 o2 o3 o4 => below_alloc (below_alloc (below_alloc (below_alloc (below_drew1 (Below.refl _ _)) _) _) _) _
  have HW := Aside0.mk hbw
  clear hbw
  cases hq : eqS x tru
  case true =>
    have HV := Aside0.mk (show conjN (n + 1) x = [] by simp only [conjN, hq, if_true])
    go_region_held3 (fun w' => w'.cell? ⟨w.heap.size, 0, none⟩ = some (.int .i64 x.f0) ∧ w'.cell? ⟨w.heap.size, 1, none⟩ = some (.int .i64 x.f1) ∧ w'.cell? ⟨w.heap.size, 2, none⟩ = some (.int .i64 x.f2.f0) ∧ w'.cell? ⟨w.heap.size, 3, none⟩ = some (.int .i64 x.f2.f1) ∧ w'.cell? ⟨w.heap.size, 4, none⟩ = some (.string x.f2.f2) ∧ w'.cell? ⟨w.heap.size, 5, none⟩ = some (.int .i64 x.f3) ∧ w'.cell? ⟨w.heap.size, 6, none⟩ = some (.slice A x.f4.length c)) ((refine ⟨?_, ?_, ?_, ?_, ?_, ?_, ?_⟩ <;> (repeat (first | (with_reducible exact a0) | (with_reducible exact a1) | (with_reducible exact a2) | (with_reducible exact a3) | (with_reducible exact a4) | (with_reducible exact a5) | (with_reducible exact a6) | exact a0 | exact a1 | exact a2 | exact a3 | exact a4 | exact a5 | exact a6 | (refine cell_al ?_ _) | (refine cell_later hb ?_))))) (first | ((go_at_call 33; refine (truth_true _).mono ?_; rintro e w' ⟨rfl, rfl⟩)) | ((go_at_call 32; refine (constant_at _ _ _ _).mono ?_; rintro e w' ⟨rfl, rfl⟩)) | ((go_at_call 18; refine (equal_calls _ x tru A none c 0 _ HN.out HC.out (Nat.zero_le _) (Kd.C_below (Kd.F_now HF1.out) (HW.out _ _ _ _)) (Kd.C_nil _ _)).mono ?_; rintro e W1 ⟨rfl, hb⟩)))
    have HW1 := Aside0.mk (below_then (HW.out _ _ _ _) (HW.out _ _ _ _).size hb)
    have HB1 := Aside0.mk (below_then HB.out HB.out.size HW1.out)
    have HX1 := Aside0.mk (blk_below HX.out HW1.out)
    have HF2 := Aside0.mk (Kd.F_below HF1.out HW1.out)
    clear hb
    clear a0 a1 a2 a3 a4 a5 a6
    go_wp2
    go_ret
    exact ⟨_, rfl, by rw [HV.out]; exact Kd.N_nil _ _ _ _ _, HB1.out⟩
  case false =>
    have HQ := Aside0.mk hq
    go_region_held3 (fun w' => w'.cell? ⟨w.heap.size, 0, none⟩ = some (.int .i64 x.f0) ∧ w'.cell? ⟨w.heap.size, 1, none⟩ = some (.int .i64 x.f1) ∧ w'.cell? ⟨w.heap.size, 2, none⟩ = some (.int .i64 x.f2.f0) ∧ w'.cell? ⟨w.heap.size, 3, none⟩ = some (.int .i64 x.f2.f1) ∧ w'.cell? ⟨w.heap.size, 4, none⟩ = some (.string x.f2.f2) ∧ w'.cell? ⟨w.heap.size, 5, none⟩ = some (.int .i64 x.f3) ∧ w'.cell? ⟨w.heap.size, 6, none⟩ = some (.slice A x.f4.length c)) ((refine ⟨?_, ?_, ?_, ?_, ?_, ?_, ?_⟩ <;> (repeat (first | (with_reducible exact a0) | (with_reducible exact a1) | (with_reducible exact a2) | (with_reducible exact a3) | (with_reducible exact a4) | (with_reducible exact a5) | (with_reducible exact a6) | exact a0 | exact a1 | exact a2 | exact a3 | exact a4 | exact a5 | exact a6 | (refine cell_al ?_ _) | (refine cell_later hb ?_))))) (first | ((go_at_call 33; refine (truth_true _).mono ?_; rintro e w' ⟨rfl, rfl⟩)) | ((go_at_call 32; refine (constant_at _ _ _ _).mono ?_; rintro e w' ⟨rfl, rfl⟩)) | ((go_at_call 18; refine (equal_calls _ x tru A none c 0 _ HN.out HC.out (Nat.zero_le _) (Kd.C_below (Kd.F_now HF1.out) (HW.out _ _ _ _)) (Kd.C_nil _ _)).mono ?_; rintro e W1 ⟨rfl, hb⟩)))
    have HW1 := Aside0.mk (below_then (HW.out _ _ _ _) (HW.out _ _ _ _).size hb)
    have HB1 := Aside0.mk (below_then HB.out HB.out.size HW1.out)
    have HX1 := Aside0.mk (blk_below HX.out HW1.out)
    have HF2 := Aside0.mk (Kd.F_below HF1.out HW1.out)
    clear hb
    clear a0 a1 a2 a3 a4 a5 a6
    obtain ⟨a0, a1, a2, a3, a4, a5, a6⟩ := box7 HX1.out
    cases t0 : (x.f0 == 2)
    case false =>
      have HV := Aside0.mk (show conjN (n + 1) x = [x] by simp only [conjN, HQ.out, t0]; simp)
      clear hq
      go_wp2
      go_ret
      exact ⟨_, rfl, by rw [HV.out]; exact N_lit_at k26 w.heap.size 26 (xs := [x]) (inner := (Cs x A c).toList) (reps_one (FK_of_F HC.out HF2.out) rfl) (fun k hk => .inl (HP.out.1 k hk)) (.inr HB1.out.size) HB1.out.size (by simp), below_alloc HB1.out _⟩
    cases t3 : (x.f3 == 11)
    case false =>
      have HV := Aside0.mk (show conjN (n + 1) x = [x] by simp only [conjN, HQ.out, t0, t3]; simp)
      clear hq
      go_wp2
      go_ret
      exact ⟨_, rfl, by rw [HV.out]; exact N_lit_at k26 w.heap.size 26 (xs := [x]) (inner := (Cs x A c).toList) (reps_one (FK_of_F HC.out HF2.out) rfl) (fun k hk => .inl (HP.out.1 k hk)) (.inr HB1.out.size) HB1.out.size (by simp), below_alloc HB1.out _⟩
    cases t4 : ((x.f4.length : Int) == 2)
    case false =>
      have HV := Aside0.mk (show conjN (n + 1) x = [x] by simp only [conjN, HQ.out, t0, t3, t4]; simp)
      clear hq
      go_wp2
      go_ret
      exact ⟨_, rfl, by rw [HV.out]; exact N_lit_at k26 w.heap.size 26 (xs := [x]) (inner := (Cs x A c).toList) (reps_one (FK_of_F HC.out HF2.out) rfl) (fun k hk => .inl (HP.out.1 k hk)) (.inr HB1.out.size) HB1.out.size (by simp), below_alloc HB1.out _⟩
    have HT := Aside0.mk (And.intro t0 (And.intro t3 t4))
    have HL := Aside0.mk (show (x.f4.length : Int) = 2 by simpa using t4)
    have HS := Aside0.mk (show sz (rd_T26 x.f4 0) ≤ n ∧ sz (rd_T26 x.f4 1) ≤ n ∧ ((conjN n (rd_T26 x.f4 0)).length + (conjN n (rd_T26 x.f4 1)).length) * 80 ≤ 140737488355328 by
      have h1 := sz_two HL.out
      have h2 := HN.out
      have h3 := HM.out
      have h4 := sz_pos (rd_T26 x.f4 0)
      have h5 := sz_pos (rd_T26 x.f4 1)
      have h6 := conjN_len n (rd_T26 x.f4 0)
      have h7 := conjN_len n (rd_T26 x.f4 1)
      exact ⟨by omega, by omega, by omega⟩)
    have i0 : 0 < x.f4.length := by have := HL.out; omega
    have i1 : (1 : Int) < (x.f4.length : Int) := by have := HL.out; omega
    obtain ⟨ad, A0, c0, A1, c1, e0, ⟨x0, x1, x2, x3, x4, x5, x6⟩, ⟨y0, y1, y2, y3, y4, y5, y6⟩, ⟨l0, g0⟩, ⟨l1, g1⟩, p0⟩ := at26F01 HF2.out (by have := HL.out; omega)
    subst e0
    have HK := Aside0.mk (And.intro l0 (And.intro g0 (And.intro l1 g1)))
    clear l0 g0 l1 g1 p0
    go_wp2_with fail
    have HV := Aside0.mk (show conjN (n + 1) x = conjN n (rd_T26 x.f4 0) ++ conjN n (rd_T26 x.f4 1) by simp only [conjN, HQ.out, HT.out.1, HT.out.2.1, HT.out.2.2]; simp)
    clear hq
    go_region_held3 (fun w' => w'.cell? ⟨w.heap.size, 6, none⟩ = some (.slice (some ad) x.f4.length c) ∧ w'.cell? ad = some (.int .i64 (rd_T26 x.f4 0).f0) ∧ w'.cell? ⟨ad.block, ad.off + 1, none⟩ = some (.int .i64 (rd_T26 x.f4 0).f1) ∧ w'.cell? ⟨ad.block, ad.off + 2, none⟩ = some (.int .i64 (rd_T26 x.f4 0).f2.f0) ∧ w'.cell? ⟨ad.block, ad.off + 3, none⟩ = some (.int .i64 (rd_T26 x.f4 0).f2.f1) ∧ w'.cell? ⟨ad.block, ad.off + 4, none⟩ = some (.string (rd_T26 x.f4 0).f2.f2) ∧ w'.cell? ⟨ad.block, ad.off + 5, none⟩ = some (.int .i64 (rd_T26 x.f4 0).f3) ∧ w'.cell? ⟨ad.block, ad.off + 6, none⟩ = some (.slice A0 (rd_T26 x.f4 0).f4.length c0) ∧ w'.cell? ⟨ad.block, ad.off + 7, none⟩ = some (.int .i64 (rd_T26 x.f4 1).f0) ∧ w'.cell? ⟨ad.block, ad.off + 7 + 1, none⟩ = some (.int .i64 (rd_T26 x.f4 1).f1) ∧ w'.cell? ⟨ad.block, ad.off + 7 + 2, none⟩ = some (.int .i64 (rd_T26 x.f4 1).f2.f0) ∧ w'.cell? ⟨ad.block, ad.off + 7 + 3, none⟩ = some (.int .i64 (rd_T26 x.f4 1).f2.f1) ∧ w'.cell? ⟨ad.block, ad.off + 7 + 4, none⟩ = some (.string (rd_T26 x.f4 1).f2.f2) ∧ w'.cell? ⟨ad.block, ad.off + 7 + 5, none⟩ = some (.int .i64 (rd_T26 x.f4 1).f3) ∧ w'.cell? ⟨ad.block, ad.off + 7 + 6, none⟩ = some (.slice A1 (rd_T26 x.f4 1).f4.length c1)) (first | exact ⟨cell_own a6 (cell_later hb2 (cell_later hb1 a6)) hg3 hr3, cell_own x0 (cell_later hb2 (cell_later hb1 x0)) hg3 hr3, cell_own x1 (cell_later hb2 (cell_later hb1 x1)) hg3 hr3, cell_own x2 (cell_later hb2 (cell_later hb1 x2)) hg3 hr3, cell_own x3 (cell_later hb2 (cell_later hb1 x3)) hg3 hr3, cell_own x4 (cell_later hb2 (cell_later hb1 x4)) hg3 hr3, cell_own x5 (cell_later hb2 (cell_later hb1 x5)) hg3 hr3, cell_own x6 (cell_later hb2 (cell_later hb1 x6)) hg3 hr3, cell_own y0 (cell_later hb2 (cell_later hb1 y0)) hg3 hr3, cell_own y1 (cell_later hb2 (cell_later hb1 y1)) hg3 hr3, cell_own y2 (cell_later hb2 (cell_later hb1 y2)) hg3 hr3, cell_own y3 (cell_later hb2 (cell_later hb1 y3)) hg3 hr3, cell_own y4 (cell_later hb2 (cell_later hb1 y4)) hg3 hr3, cell_own y5 (cell_later hb2 (cell_later hb1 y5)) hg3 hr3, cell_own y6 (cell_later hb2 (cell_later hb1 y6)) hg3 hr3⟩ | exact ⟨cell_later hb2 (cell_later hb1 a6), cell_later hb2 (cell_later hb1 x0), cell_later hb2 (cell_later hb1 x1), cell_later hb2 (cell_later hb1 x2), cell_later hb2 (cell_later hb1 x3), cell_later hb2 (cell_later hb1 x4), cell_later hb2 (cell_later hb1 x5), cell_later hb2 (cell_later hb1 x6), cell_later hb2 (cell_later hb1 y0), cell_later hb2 (cell_later hb1 y1), cell_later hb2 (cell_later hb1 y2), cell_later hb2 (cell_later hb1 y3), cell_later hb2 (cell_later hb1 y4), cell_later hb2 (cell_later hb1 y5), cell_later hb2 (cell_later hb1 y6)⟩ | exact ⟨cell_later hb1 a6, cell_later hb1 x0, cell_later hb1 x1, cell_later hb1 x2, cell_later hb1 x3, cell_later hb1 x4, cell_later hb1 x5, cell_later hb1 x6, cell_later hb1 y0, cell_later hb1 y1, cell_later hb1 y2, cell_later hb1 y3, cell_later hb1 y4, cell_later hb1 y5, cell_later hb1 y6⟩ | exact ⟨a6, x0, x1, x2, x3, x4, x5, x6, y0, y1, y2, y3, y4, y5, y6⟩) (first | ((go_at_call 19; (with_reducible refine (IH.out (rd_T26 x.f4 0) A0 c0 Q _ HS.out.1 HM.out HK.out.1 (Kd.F_drew HK.out.2.1)).mono ?_); rintro e w2 ⟨v1, rfl, hN1, hb1⟩)) | ((go_at_call 19; (with_reducible refine (IH.out (rd_T26 x.f4 1) A1 c1 Q _ HS.out.2.1 HM.out HK.out.2.2.1 (Kd.F_below (Kd.F_drew HK.out.2.2.2) hb1)).mono ?_); rintro e w3 ⟨v2, rfl, hN2, hb2⟩; obtain ⟨B2, d2, ev2⟩ := Kd.N_slice hN2; subst ev2)) | ((refine Kd.N_append_rows_step k26 (w0 := w) w.heap.size (by rfl) (.tmp 25) (.tmp 30) 24 26 (.agg #[(.int .i64 0), (.int .i64 0), (.int .i64 0), (.int .i64 0), (.string ⟨#[]⟩), (.int .i64 0), (.slice none 0 0)]) 80 rfl Tryd.underlying24 info26 rfl (by decide) (by omega) v1 (conjN n (rd_T26 x.f4 0)) (conjN n (rd_T26 x.f4 1)) B2 _ d2 (fun k => Q k ∨ w.heap.size ≤ k) (fun k => (Q k ∨ w.heap.size ≤ k) ∧ some k ≠ v1.ownBlock) rfl rfl (Kd.N_below (Kd.N_lower (Kd.N_mono hN1 (fun k hk => hk.imp id (fun h => Nat.le_trans HB1.out.size h))) HB1.out.size) hb2) (two_rows hN1 hN2 HP.out.2 HB1.out.size hb1.size) (fun _ hk => hk) (fun k hk => .inr (Nat.le_trans (Nat.le_trans (Nat.le_trans HB1.out.size hb1.size) hb2.size) hk)) (below_then (below_then (below_drew1 HB1.out) HB1.out.size hb1) (Nat.le_trans HB1.out.size hb1.size) hb2) (Nat.le_trans (Nat.le_trans HB1.out.size hb1.size) hb2.size) (HS.out.2.2) ?_; intro v3 w4 hN3 hb3 hg3 hat3; have hr3 : ∀ k, v1.ownBlock = some k → W1.heap.size ≤ k := fun k hk => Kd.N_base hN1 k hk)) | fail)
    have HN3 := Aside0.mk hN3
    have HB3 := Aside0.mk hb3
    clear hN1 hN2 hb1 hb2 hN3 hb3 hg3 hat3 hr3
    go_wp2
    go_ret
    exact ⟨v3, rfl, by rw [HV.out]; exact Kd.N_mono HN3.out (fun k hk => hk.imp (HP.out.1 k) id), HB3.out⟩
theorem conj_calls : ∀ n, conjOk n
  | 0 => fun x A c P w hn => by have := sz_pos x; omega
  | n + 1 => conj_step n ⟨conj_calls n⟩

abbrev rconjOk (n : Nat) : Prop := ∀ (x : S26) (A : Option Addr) (c : Nat) (P : Nat → Prop) (w : World), sz x ≤ n → n ≤ 1000000 → x.f4.length ≤ c → Kd.F k26 w P A x.f4.length x.f4 →
  Calls Tryd.prog 22 #[Ag x A c] w (ConjPost w P (conjN n x))
set_option maxRecDepth 100000 in
set_option maxHeartbeats 2000000 in
theorem rconj_step (n : Nat) (IH : Aside0 (rconjOk n)) : rconjOk (n + 1) := by
  intro x A c P w hn hm hc hF
  have HN := Aside0.mk hn
  have HM := Aside0.mk (show n ≤ 1000000 by omega)
  obtain ⟨Q, q1, q2, hF'⟩ : ∃ Q : Nat → Prop, (∀ k, Q k → P k) ∧ (∀ k, Q k → k < w.heap.size) ∧ Kd.F k26 w Q A x.f4.length x.f4 := ⟨_, fun _ h => h.1, fun _ h => h.2, Kd.F_bound hF⟩
  have HP := Aside0.mk (And.intro q1 q2)
  have HF := Aside0.mk hF'
  have HC := Aside0.mk hc
  clear hn hm hF hc q1 q2 hF'
  have HB := Aside0.mk (below_alloc (Below.refl w.heap.size w) (.cells (Cs x A c) 26))
  have HX := Aside0.mk (blk_new w (.cells (Cs x A c) 26))
  have HF1 := Aside0.mk (Kd.F_alloc HF.out (.cells (Cs x A c) 26))
  go_enter Tryd.func22, Tryd.ntmps22
  go_wp2_with fail
  obtain ⟨W0, hW0⟩ : ∃ W0 : World, W0 = w.alloc (.cells (Cs x A c) 26) := ⟨_, rfl⟩
  rw [← hW0] at HB HX HF1 ⊢
  clear hW0
  obtain ⟨a0, a1, a2, a3, a4, a5, a6⟩ := box7 HX.out
  have hbw : ∀ o1 o2 : Obj, Below W0.heap.size W0 ((W0.drew.alloc o1).alloc o2) := fun o1 o2 => below_alloc (below_alloc (below_drew1 (Below.refl _ _)) _) _
  have HW := Aside0.mk hbw
  clear hbw
  cases hq : eqS x tru
  case true =>
    have HV := Aside0.mk (show conjN (n + 1) x = [] by simp only [conjN, hq, if_true])
    go_region_held3 (fun w' => w'.cell? ⟨w.heap.size, 0, none⟩ = some (.int .i64 x.f0) ∧ w'.cell? ⟨w.heap.size, 1, none⟩ = some (.int .i64 x.f1) ∧ w'.cell? ⟨w.heap.size, 2, none⟩ = some (.int .i64 x.f2.f0) ∧ w'.cell? ⟨w.heap.size, 3, none⟩ = some (.int .i64 x.f2.f1) ∧ w'.cell? ⟨w.heap.size, 4, none⟩ = some (.string x.f2.f2) ∧ w'.cell? ⟨w.heap.size, 5, none⟩ = some (.int .i64 x.f3) ∧ w'.cell? ⟨w.heap.size, 6, none⟩ = some (.slice A x.f4.length c)) ((refine ⟨?_, ?_, ?_, ?_, ?_, ?_, ?_⟩ <;> (repeat (first | (with_reducible exact a0) | (with_reducible exact a1) | (with_reducible exact a2) | (with_reducible exact a3) | (with_reducible exact a4) | (with_reducible exact a5) | (with_reducible exact a6) | exact a0 | exact a1 | exact a2 | exact a3 | exact a4 | exact a5 | exact a6 | (refine cell_al ?_ _) | (refine cell_later hb ?_))))) (first | ((go_at_call 36; refine (True_at _).mono ?_; rintro e w' ⟨rfl, rfl⟩)) | ((go_at_call 11; refine (requal_calls _ x tru A none c 0 _ HN.out HC.out (Nat.zero_le _) (Kd.C_below (Kd.F_now HF1.out) (HW.out _ _)) (Kd.C_nil _ _)).mono ?_; rintro e W1 ⟨rfl, hb⟩)))
    have HW1 := Aside0.mk (below_then (HW.out _ _) (HW.out _ _).size hb)
    have HB1 := Aside0.mk (below_then HB.out HB.out.size HW1.out)
    have HX1 := Aside0.mk (blk_below HX.out HW1.out)
    have HF2 := Aside0.mk (Kd.F_below HF1.out HW1.out)
    clear hb
    clear a0 a1 a2 a3 a4 a5 a6
    go_wp2
    go_ret
    exact ⟨_, rfl, by rw [HV.out]; exact N_lit_at k26 w.heap.size 26 (xs := []) (inner := []) (okp := fun _ => False) (Reps.none _ _) (fun _ h => h.elim) (.inr HB1.out.size) HB1.out.size (by simp), below_alloc HB1.out _⟩
  case false =>
    have HQ := Aside0.mk hq
    go_region_held3 (fun w' => w'.cell? ⟨w.heap.size, 0, none⟩ = some (.int .i64 x.f0) ∧ w'.cell? ⟨w.heap.size, 1, none⟩ = some (.int .i64 x.f1) ∧ w'.cell? ⟨w.heap.size, 2, none⟩ = some (.int .i64 x.f2.f0) ∧ w'.cell? ⟨w.heap.size, 3, none⟩ = some (.int .i64 x.f2.f1) ∧ w'.cell? ⟨w.heap.size, 4, none⟩ = some (.string x.f2.f2) ∧ w'.cell? ⟨w.heap.size, 5, none⟩ = some (.int .i64 x.f3) ∧ w'.cell? ⟨w.heap.size, 6, none⟩ = some (.slice A x.f4.length c)) ((refine ⟨?_, ?_, ?_, ?_, ?_, ?_, ?_⟩ <;> (repeat (first | (with_reducible exact a0) | (with_reducible exact a1) | (with_reducible exact a2) | (with_reducible exact a3) | (with_reducible exact a4) | (with_reducible exact a5) | (with_reducible exact a6) | exact a0 | exact a1 | exact a2 | exact a3 | exact a4 | exact a5 | exact a6 | (refine cell_al ?_ _) | (refine cell_later hb ?_))))) (first | ((go_at_call 36; refine (True_at _).mono ?_; rintro e w' ⟨rfl, rfl⟩)) | ((go_at_call 11; refine (requal_calls _ x tru A none c 0 _ HN.out HC.out (Nat.zero_le _) (Kd.C_below (Kd.F_now HF1.out) (HW.out _ _)) (Kd.C_nil _ _)).mono ?_; rintro e W1 ⟨rfl, hb⟩)))
    have HW1 := Aside0.mk (below_then (HW.out _ _) (HW.out _ _).size hb)
    have HB1 := Aside0.mk (below_then HB.out HB.out.size HW1.out)
    have HX1 := Aside0.mk (blk_below HX.out HW1.out)
    have HF2 := Aside0.mk (Kd.F_below HF1.out HW1.out)
    clear hb
    clear a0 a1 a2 a3 a4 a5 a6
    obtain ⟨a0, a1, a2, a3, a4, a5, a6⟩ := box7 HX1.out
    cases t0 : (x.f0 == 2)
    case false =>
      have HV := Aside0.mk (show conjN (n + 1) x = [x] by simp only [conjN, HQ.out, t0]; simp)
      clear hq
      go_wp2
      go_ret
      exact ⟨_, rfl, by rw [HV.out]; exact N_lit_at k26 w.heap.size 26 (xs := [x]) (inner := (Cs x A c).toList) (reps_one (FK_of_F HC.out HF2.out) rfl) (fun k hk => .inl (HP.out.1 k hk)) (.inr HB1.out.size) HB1.out.size (by simp), below_alloc HB1.out _⟩
    cases t3 : (x.f3 == 11)
    case false =>
      have HV := Aside0.mk (show conjN (n + 1) x = [x] by simp only [conjN, HQ.out, t0, t3]; simp)
      clear hq
      go_wp2
      go_ret
      exact ⟨_, rfl, by rw [HV.out]; exact N_lit_at k26 w.heap.size 26 (xs := [x]) (inner := (Cs x A c).toList) (reps_one (FK_of_F HC.out HF2.out) rfl) (fun k hk => .inl (HP.out.1 k hk)) (.inr HB1.out.size) HB1.out.size (by simp), below_alloc HB1.out _⟩
    cases t4 : ((x.f4.length : Int) == 2)
    case false =>
      have HV := Aside0.mk (show conjN (n + 1) x = [x] by simp only [conjN, HQ.out, t0, t3, t4]; simp)
      clear hq
      go_wp2
      go_ret
      exact ⟨_, rfl, by rw [HV.out]; exact N_lit_at k26 w.heap.size 26 (xs := [x]) (inner := (Cs x A c).toList) (reps_one (FK_of_F HC.out HF2.out) rfl) (fun k hk => .inl (HP.out.1 k hk)) (.inr HB1.out.size) HB1.out.size (by simp), below_alloc HB1.out _⟩
    have HT := Aside0.mk (And.intro t0 (And.intro t3 t4))
    have HL := Aside0.mk (show (x.f4.length : Int) = 2 by simpa using t4)
    have HS := Aside0.mk (show sz (rd_T26 x.f4 0) ≤ n ∧ sz (rd_T26 x.f4 1) ≤ n ∧ ((conjN n (rd_T26 x.f4 0)).length + (conjN n (rd_T26 x.f4 1)).length) * 80 ≤ 140737488355328 by
      have h1 := sz_two HL.out
      have h2 := HN.out
      have h3 := HM.out
      have h4 := sz_pos (rd_T26 x.f4 0)
      have h5 := sz_pos (rd_T26 x.f4 1)
      have h6 := conjN_len n (rd_T26 x.f4 0)
      have h7 := conjN_len n (rd_T26 x.f4 1)
      exact ⟨by omega, by omega, by omega⟩)
    have i0 : 0 < x.f4.length := by have := HL.out; omega
    have i1 : (1 : Int) < (x.f4.length : Int) := by have := HL.out; omega
    obtain ⟨ad, A0, c0, A1, c1, e0, ⟨x0, x1, x2, x3, x4, x5, x6⟩, ⟨y0, y1, y2, y3, y4, y5, y6⟩, ⟨l0, g0⟩, ⟨l1, g1⟩, p0⟩ := at26F01 HF2.out (by have := HL.out; omega)
    subst e0
    have HK := Aside0.mk (And.intro l0 (And.intro g0 (And.intro l1 g1)))
    clear l0 g0 l1 g1 p0
    go_wp2_with fail
    have HV := Aside0.mk (show conjN (n + 1) x = conjN n (rd_T26 x.f4 0) ++ conjN n (rd_T26 x.f4 1) by simp only [conjN, HQ.out, HT.out.1, HT.out.2.1, HT.out.2.2]; simp)
    clear hq
    go_region_held3 (fun w' => w'.cell? ⟨w.heap.size, 6, none⟩ = some (.slice (some ad) x.f4.length c) ∧ w'.cell? ad = some (.int .i64 (rd_T26 x.f4 0).f0) ∧ w'.cell? ⟨ad.block, ad.off + 1, none⟩ = some (.int .i64 (rd_T26 x.f4 0).f1) ∧ w'.cell? ⟨ad.block, ad.off + 2, none⟩ = some (.int .i64 (rd_T26 x.f4 0).f2.f0) ∧ w'.cell? ⟨ad.block, ad.off + 3, none⟩ = some (.int .i64 (rd_T26 x.f4 0).f2.f1) ∧ w'.cell? ⟨ad.block, ad.off + 4, none⟩ = some (.string (rd_T26 x.f4 0).f2.f2) ∧ w'.cell? ⟨ad.block, ad.off + 5, none⟩ = some (.int .i64 (rd_T26 x.f4 0).f3) ∧ w'.cell? ⟨ad.block, ad.off + 6, none⟩ = some (.slice A0 (rd_T26 x.f4 0).f4.length c0) ∧ w'.cell? ⟨ad.block, ad.off + 7, none⟩ = some (.int .i64 (rd_T26 x.f4 1).f0) ∧ w'.cell? ⟨ad.block, ad.off + 7 + 1, none⟩ = some (.int .i64 (rd_T26 x.f4 1).f1) ∧ w'.cell? ⟨ad.block, ad.off + 7 + 2, none⟩ = some (.int .i64 (rd_T26 x.f4 1).f2.f0) ∧ w'.cell? ⟨ad.block, ad.off + 7 + 3, none⟩ = some (.int .i64 (rd_T26 x.f4 1).f2.f1) ∧ w'.cell? ⟨ad.block, ad.off + 7 + 4, none⟩ = some (.string (rd_T26 x.f4 1).f2.f2) ∧ w'.cell? ⟨ad.block, ad.off + 7 + 5, none⟩ = some (.int .i64 (rd_T26 x.f4 1).f3) ∧ w'.cell? ⟨ad.block, ad.off + 7 + 6, none⟩ = some (.slice A1 (rd_T26 x.f4 1).f4.length c1)) (first | exact ⟨cell_own a6 (cell_later hb2 (cell_later hb1 a6)) hg3 hr3, cell_own x0 (cell_later hb2 (cell_later hb1 x0)) hg3 hr3, cell_own x1 (cell_later hb2 (cell_later hb1 x1)) hg3 hr3, cell_own x2 (cell_later hb2 (cell_later hb1 x2)) hg3 hr3, cell_own x3 (cell_later hb2 (cell_later hb1 x3)) hg3 hr3, cell_own x4 (cell_later hb2 (cell_later hb1 x4)) hg3 hr3, cell_own x5 (cell_later hb2 (cell_later hb1 x5)) hg3 hr3, cell_own x6 (cell_later hb2 (cell_later hb1 x6)) hg3 hr3, cell_own y0 (cell_later hb2 (cell_later hb1 y0)) hg3 hr3, cell_own y1 (cell_later hb2 (cell_later hb1 y1)) hg3 hr3, cell_own y2 (cell_later hb2 (cell_later hb1 y2)) hg3 hr3, cell_own y3 (cell_later hb2 (cell_later hb1 y3)) hg3 hr3, cell_own y4 (cell_later hb2 (cell_later hb1 y4)) hg3 hr3, cell_own y5 (cell_later hb2 (cell_later hb1 y5)) hg3 hr3, cell_own y6 (cell_later hb2 (cell_later hb1 y6)) hg3 hr3⟩ | exact ⟨cell_later hb2 (cell_later hb1 a6), cell_later hb2 (cell_later hb1 x0), cell_later hb2 (cell_later hb1 x1), cell_later hb2 (cell_later hb1 x2), cell_later hb2 (cell_later hb1 x3), cell_later hb2 (cell_later hb1 x4), cell_later hb2 (cell_later hb1 x5), cell_later hb2 (cell_later hb1 x6), cell_later hb2 (cell_later hb1 y0), cell_later hb2 (cell_later hb1 y1), cell_later hb2 (cell_later hb1 y2), cell_later hb2 (cell_later hb1 y3), cell_later hb2 (cell_later hb1 y4), cell_later hb2 (cell_later hb1 y5), cell_later hb2 (cell_later hb1 y6)⟩ | exact ⟨cell_later hb1 a6, cell_later hb1 x0, cell_later hb1 x1, cell_later hb1 x2, cell_later hb1 x3, cell_later hb1 x4, cell_later hb1 x5, cell_later hb1 x6, cell_later hb1 y0, cell_later hb1 y1, cell_later hb1 y2, cell_later hb1 y3, cell_later hb1 y4, cell_later hb1 y5, cell_later hb1 y6⟩ | exact ⟨a6, x0, x1, x2, x3, x4, x5, x6, y0, y1, y2, y3, y4, y5, y6⟩) (first | ((go_at_call 22; (with_reducible refine (IH.out (rd_T26 x.f4 0) A0 c0 Q _ HS.out.1 HM.out HK.out.1 (Kd.F_drew HK.out.2.1)).mono ?_); rintro e w2 ⟨v1, rfl, hN1, hb1⟩)) | ((go_at_call 22; (with_reducible refine (IH.out (rd_T26 x.f4 1) A1 c1 Q _ HS.out.2.1 HM.out HK.out.2.2.1 (Kd.F_below (Kd.F_drew HK.out.2.2.2) hb1)).mono ?_); rintro e w3 ⟨v2, rfl, hN2, hb2⟩; obtain ⟨B2, d2, ev2⟩ := Kd.N_slice hN2; subst ev2)) | ((refine Kd.N_append_rows_step k26 (w0 := w) w.heap.size (by rfl) (.tmp 25) (.tmp 30) 24 26 (.agg #[(.int .i64 0), (.int .i64 0), (.int .i64 0), (.int .i64 0), (.string ⟨#[]⟩), (.int .i64 0), (.slice none 0 0)]) 80 rfl Tryd.underlying24 info26 rfl (by decide) (by omega) v1 (conjN n (rd_T26 x.f4 0)) (conjN n (rd_T26 x.f4 1)) B2 _ d2 (fun k => Q k ∨ w.heap.size ≤ k) (fun k => (Q k ∨ w.heap.size ≤ k) ∧ some k ≠ v1.ownBlock) rfl rfl (Kd.N_below (Kd.N_lower (Kd.N_mono hN1 (fun k hk => hk.imp id (fun h => Nat.le_trans HB1.out.size h))) HB1.out.size) hb2) (two_rows hN1 hN2 HP.out.2 HB1.out.size hb1.size) (fun _ hk => hk) (fun k hk => .inr (Nat.le_trans (Nat.le_trans (Nat.le_trans HB1.out.size hb1.size) hb2.size) hk)) (below_then (below_then (below_drew1 HB1.out) HB1.out.size hb1) (Nat.le_trans HB1.out.size hb1.size) hb2) (Nat.le_trans (Nat.le_trans HB1.out.size hb1.size) hb2.size) (HS.out.2.2) ?_; intro v3 w4 hN3 hb3 hg3 hat3; have hr3 : ∀ k, v1.ownBlock = some k → W1.heap.size ≤ k := fun k hk => Kd.N_base hN1 k hk)) | fail)
    have HN3 := Aside0.mk hN3
    have HB3 := Aside0.mk hb3
    clear hN1 hN2 hb1 hb2 hN3 hb3 hg3 hat3 hr3
    go_wp2
    go_ret
    exact ⟨v3, rfl, by rw [HV.out]; exact Kd.N_mono HN3.out (fun k hk => hk.imp (HP.out.1 k) id), HB3.out⟩
theorem rconj_calls : ∀ n, rconjOk n
  | 0 => fun x A c P w hn => by have := sz_pos x; omega
  | n + 1 => rconj_step n ⟨rconj_calls n⟩
end Go.Proofs.YthjjolmmdgnjfaaDoor
