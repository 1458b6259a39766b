/- 'physical.Bounds'. -/
import Derived.Test.YthjjolmmdgnjfaaDoorC3
namespace Go.Proofs.YthjjolmmdgnjfaaDoor
open Go.RowKit Go.Proofs.YthjjolmmdgnjfaaDoorW.PrintWords PPhysicalConditions
set_option linter.unusedVariables false
theorem N_23_tight {e base : Nat} {w : World} {ok : Nat → Prop} {v : Value} {xs : List S23} (h : Kd.N k23 e w base ok v xs) : Kd.N k23 e w base (fun k => some k = v.ownBlock) v xs := by
  obtain ⟨h0, rows, hl, hR, hf⟩ := h
  exact ⟨fun k hk => hk.symm, rows, hl, hR, fun j x c hx hc W' hW => by
    have := k23_open (Kd.FK_now (hf j x c hx hc))
    rw [this]
    exact k23_mk W' x⟩
section
variable {P : Program} {ops : Array Oper} {rest : List Oper} {o : Oper} {a : Act} {Q : Exit → Act → World → Prop}
theorem T_append_rows23 {w0 W : World} (base : Nat) (E : Nat → Prop) (hgd : o.guard = none) (s x : Operand) (t : TypeId) (z : Value) (bytes : Nat)
    (ho : o.op = .call { callee := .builtin .append, args := #[s, x], argTypes := #[t, t] })
    (ht : P.underlying t = some (.slice 23)) (hinfo : (P.info? 23).map (fun i => (i.zero, i.size, i.bytes)) = some (some z, k23.sz, bytes)) (hz : z.cells.size = k23.sz) (hs0 : 0 < k23.sz) (hb0 : 0 < bytes)
    (v : Value) (xs ys : List S23) (A : Option Addr) (m c : Nat) (okp : Nat → Prop) (hs : a.eval s = v) (hx : a.eval x = .slice A m c)
    (HO : T k23 23 W base E v xs) (HR : Kd.F k23 W okp A m ys) (hokp : ∀ k, okp k → v.ownBlock ≠ some k)
    (HB : Below base w0 W) (hbase : base ≤ W.heap.size) (hl : (xs.length + m) * bytes ≤ 140737488355328)
    (h : ∀ v1 w1, T k23 23 w1 base E v1 (xs ++ ys) → Below base w0 w1 → W.grownBy w1 v.ownBlock → (v1.ownBlock = v.ownBlock ∨ ∃ b, v1.ownBlock = some b ∧ W.heap.size ≤ b) → wpList P ops Q rest (a.put o.dst v1) w1) :
    wpList P ops Q (o :: rest) a W := by
  refine Kd.N_append_rows k23 base hgd s x t 23 z bytes ho ht hinfo hz hs0 hb0 v xs ys A m c (fun _ => True) okp hs hx (Kd.N_mono HO.1 (fun _ _ => trivial)) HR (fun k hk => ⟨trivial, fun he => hokp k hk he.symm⟩) (fun _ _ => trivial) HB hbase hl ?_
  intro v1 w1 hN hb hg hat
  refine h v1 w1 ⟨Kd.N_mono (N_23_tight hN) (fun k hk => .inr hk), fun k hk => ?_⟩ hb hg hat
  obtain ⟨f1, f2⟩ := HO.2 k hk
  refine ⟨Nat.lt_of_lt_of_le f1 hg.size, ?_⟩
  rcases hat with hat | ⟨b, hb, hle⟩
  · rw [hat]; exact f2
  · rw [hb]
    intro he
    injection he with he
    omega
end
def findP (l : List S55) (c a b : Int) : Option S23 := findF l c [a, b]
theorem find_five (l : List S55) (c : Int) : findF l c [5] = findP l c 5 5 := by
  have : isBnd c [5] = isBnd c [5, 5] := by
    funext q
    simp [isBnd, hasI]
  unfold findP findF
  rw [this]
theorem opt_len (o : Option S23) : o.toList.length ≤ 1 := by cases o <;> simp
theorem reps_ints (W : World) (xs : List Int) : Reps (Kd.FK (Kd.int .i64) W (fun _ => False)) 1 xs (xs.map (Value.int .i64)) := by
  refine ⟨by simp, fun j x hx => ?_⟩
  have h1 : (xs.map (Value.int .i64))[j]? = some (.int .i64 x) := by simp [hx]
  have h2 : ((xs.map (Value.int .i64)).drop (j * 1)).take 1 = [.int .i64 x] := by
    rw [Nat.mul_one]
    obtain ⟨hlt, he⟩ := List.getElem?_eq_some_iff.1 h1
    rw [List.drop_eq_getElem_cons hlt, he]
    rfl
  rw [h2]
  exact FK_int W _ x
theorem C_ints (W : World) (xs : List Int) (e : Nat) (h : xs.length ≤ 1000) : Kd.C (Kd.int .i64) (W.alloc (.cells (xs.map (Value.int .i64)).toArray e)) (some ⟨W.heap.size, 0, none⟩) xs.length xs :=
  Kd.F_now (Kd.N_F (N_lit_at (Kd.int .i64) W.heap.size e (ok := fun k => W.heap.size ≤ k) (okp := fun _ => False) (reps_ints W xs) (fun _ h => h.elim) (Nat.le_refl _) (Nat.le_refl _) (by omega)))
set_option maxRecDepth 100000 in
set_option maxHeartbeats 4000000 in
theorem bounds_calls (n : Nat) (x : S26) (A : Option Addr) (c : Nat) (id : Int) (nm : ByteArray) (cols : List Int) (Ad : Option Addr) (cd : Nat) (P : Nat → Prop) (w : World) (hn : sz x ≤ n) (hm : n ≤ 1000) (hok : okT x) (hM : Mir w) (hc : x.f4.length ≤ c) (hF : Kd.F k26 w P A x.f4.length x.f4) (hD : Kd.C (Kd.int .i64) w Ad cols.length cols) (hl : cols.length ≤ 12) :
    Calls Tryd.prog 8 #[Ag x A c, .agg #[.int .i64 id, .string nm, .slice Ad cols.length cd]] w (BndPost (bndA (findP ((conjN n x).filterMap cmpF)) cols [] []) w) := by
  have HN := Aside0.mk (And.intro hn hm)
  have HF := Aside0.mk hF
  have HC := Aside0.mk hc
  have HL := Aside0.mk hl
  have HM := Aside0.mk (And.intro hok hM)
  have hmx : cols.length ≤ 9223372036854775807 := by omega
  have HD := Aside0.mk hD
  clear hn hm hF hc hl hD hok hM
  go_enter Tryd.func8, Tryd.ntmps8
  go_upto_region 1 with (fail)
  have HB0 := Aside0.mk (below_alloc (below_alloc (Below.refl w.heap.size w) (.cells (Cs x A c) 26)) (.cells #[.int .i64 id, .string nm, .slice Ad cols.length cd] 29))
  have HX0 := Aside0.mk (blk_alloc (blk_new w (.cells (Cs x A c) 26)) (.cells #[.int .i64 id, .string nm, .slice Ad cols.length cd] 29))
  have HY0 := Aside0.mk (show ((w.alloc (.cells (Cs x A c) 26)).alloc (.cells #[.int .i64 id, .string nm, .slice Ad cols.length cd] 29)).heap[w.heap.size + 1]? = some (.cells #[.int .i64 id, .string nm, .slice Ad cols.length cd] 29 (0, 0)) by
    have := blk_new (w.alloc (.cells (Cs x A c) 26)) (.cells #[.int .i64 id, .string nm, .slice Ad cols.length cd] 29)
    rwa [World.size_alloc] at this)
  have HF0 := Aside0.mk (Kd.F_alloc (Kd.F_alloc HF.out (.cells (Cs x A c) 26)) (.cells #[.int .i64 id, .string nm, .slice Ad cols.length cd] 29))
  obtain ⟨W0, hW0⟩ : ∃ W0 : World, (w.alloc (.cells (Cs x A c) 26)).alloc (.cells #[.int .i64 id, .string nm, .slice Ad cols.length cd] 29) = W0 := ⟨_, rfl⟩
  rw [hW0] at HB0 HX0 HY0 HF0 ⊢
  clear hW0
  obtain ⟨a0, a1, a2, a3, a4, a5, a6⟩ := box7 HX0.out
  go_upto_region 2 with (first | (go_at_call 25; refine (cmps_calls n x A c P _ HN.out.1 HN.out.2 HM.out.1 HC.out HF0.out (HM.out.2.later HB0.out)).mono ?_; rintro e W1 ⟨B1, d1, rfl, l1, g1, hb1⟩) | fail)
  clear a0 a1 a2 a3 a4 a5 a6 HX0 HF0
  obtain ⟨l, hl⟩ : ∃ l, (conjN n x).filterMap cmpF = l := ⟨_, rfl⟩
  rw [hl] at g1 ⊢
  have HCS := Aside0.mk hl
  clear hl l1
  have HB1 := Aside0.mk (below_alloc (below_then HB0.out HB0.out.size hb1) (.cells #[.slice B1 l.length d1] 51))
  have HY1 := Aside0.mk (blk_alloc (blk_below HY0.out hb1) (.cells #[.slice B1 l.length d1] 51))
  have HG1 := Aside0.mk (Kd.C_below g1 (below_alloc (Below.refl _ _) (.cells #[.slice B1 l.length d1] 51)))
  have HV1 := Aside0.mk (cell_of_one (blk_new W1 (.cells #[.slice B1 l.length d1] 51)))
  have HD1 := Aside0.mk (Kd.C_below HD.out HB1.out)
  clear g1 hb1 HB0 HY0
  obtain ⟨Wm, hWm⟩ : ∃ Wm : World, W1.alloc (.cells #[.slice B1 l.length d1] 51) = Wm := ⟨_, rfl⟩
  rw [hWm] at HB1 HY1 HG1 HV1 HD1 ⊢
  clear hWm
  obtain ⟨g7, hg7⟩ : ∃ g, W1.heap.size = g := ⟨_, rfl⟩
  rw [hg7] at HV1 ⊢
  clear hg7
  obtain ⟨E, hE⟩ : ∃ E : Nat → Prop, E = fun k => k < Wm.heap.size := ⟨_, rfl⟩
  have hE1 : ∀ k, E k → k < Wm.heap.size := by subst hE; exact fun _ h => h
  clear hE
  have HT1 := Aside0.mk (show Two Wm Wm.heap.size E [] [] (.slice none 0 0) (.slice none 0 0) from ⟨T_nil _ _ _ _ _ hE1, T_nil _ _ _ _ _ hE1, by simp [Value.ownBlock]⟩)
  clear hE1
  obtain ⟨q0, q1, q2⟩ := box3 HY1.out
  go_wp2
  clear q0 q1 q2
  go_loopg [8, 9, 24] (cols.length + 1) (fun kq v8 v9 v24 wr => ∃ i : Int, v24 = .int .i64 i ∧ ∃ lo hi, Aside0 (0 ≤ i ∧ i ≤ cols.length ∧ kq = cols.length + 1 - i.toNat) ∧ Aside0 (Below Wm.heap.size Wm wr) ∧ Aside0 (Two wr Wm.heap.size E lo hi v8 v9) ∧ Aside0 (bndA (findP l) (cols.drop i.toNat) lo hi = bndA (findP l) cols [] [] ∧ lo.length ≤ i.toNat ∧ hi.length ≤ i.toNat))
  case atStart => exact ⟨0, rfl, [], [], ⟨by omega, by omega, by omega⟩, ⟨Below.refl _ _⟩, HT1, ⟨rfl, by simp, by simp⟩⟩
  case round =>
    clear HT1
    obtain ⟨i, rfl, lo, hi, HI, HB, HT, HG⟩ := hrel
    obtain ⟨i0, i1, i2⟩ := HI.out
    by_cases hlt : i < cols.length
    · have hb0 : decide (i < (cols.length : Int)) = true := decide_eq_true hlt
      obtain ⟨ad, e, x0⟩ := Kd.at_int HD1.out i i0 hlt
      replace x0 := cell_later HB.out x0
      subst e
      have HR := Aside0.mk (dropI i0 hlt)
      have HJ := Aside0.mk (show lo.length ≤ 12 ∧ hi.length ≤ 12 by have := HG.out; have := HL.out; omega)
      clear i1 i2
      obtain ⟨y, hy⟩ : ∃ y, rd cols i = y := ⟨_, rfl⟩
      rw [hy] at x0 HR
      clear hy
      replace hlt := eq_true hlt
      replace i0 := eq_true i0
      go_upto_region 6 with (fail)
      clear x0
      have HBa := Aside0.mk (below_alloc HB.out (.cells #[.int .i64 y] 3))
      have HTa := Aside0.mk (HT.out.below (below_alloc (Below.refl _ _) (.cells #[.int .i64 y] 3)))
      have HZa := Aside0.mk (cell_of_one (blk_new wr (.cells #[.int .i64 y] 3)))
      obtain ⟨Wa, hWa⟩ : ∃ Wa : World, wr.alloc (.cells #[.int .i64 y] 3) = Wa := ⟨_, rfl⟩
      rw [hWa] at HBa HTa HZa ⊢
      clear hWa
      obtain ⟨g11, hg11⟩ : ∃ g, wr.heap.size = g := ⟨_, rfl⟩
      rw [hg11] at HZa ⊢
      clear hg11
      cases ho : findF l y [5]
      case some v =>
        have HQ := Aside0.mk (show findP l y 5 5 = some v by rw [← find_five]; exact ho)
        go_upto_region 8 with (first | (go_at_call 26; refine (bnd1_calls l y [5] B1 (some ⟨Wa.heap.size, 0, none⟩) d1 1 ⟨g11, 0, none⟩ ⟨g7, 0, none⟩ _ (Kd.C_below HG1.out (below_alloc HBa.out _)) (cell_al (cell_later HBa.out HV1.out) _) (cell_al HZa.out _) (C_ints Wa [5] 3 (by decide))).mono ?_; rw [ho]; rintro e w2 ⟨A2, c2, rfl, f2, hb2⟩) | fail)
        have HFs := Aside0.mk (show Kd.F k23 w2 (fun k => Wa.heap.size < k) A2 1 [v] from Kd.F_mono f2 (fun k hk => by rw [World.size_alloc] at hk; omega))
        have HBb := Aside0.mk (below_then (below_alloc HBa.out (.cells #[.int .i64 5] 3)) (below_alloc HBa.out (.cells #[.int .i64 5] 3)).size hb2)
        have HTb := Aside0.mk ((HTa.out.below (below_alloc (Below.refl _ _) (.cells #[.int .i64 5] 3))).below hb2)
        clear f2 hb2
        go_wp2_with (first | (refine T_append_rows23 (w0 := Wm) Wm.heap.size E (by rfl) (.tmp 36) (.tmp 37) 34 (.agg #[.int .i64 0, .int .i64 0, .string ⟨#[]⟩]) 32 rfl Tryd.underlying34 info23 rfl (by decide) (by omega) u8 lo [v] A2 _ c2 (fun k => Wa.heap.size < k) rfl rfl HTb.out.1 HFs.out (fun k hk he => by have := T_lt HTa.out.1 k he; omega) HBb.out HBb.out.size (by have := HJ.out; omega) ?_; intro v1 w3 hN1 hb1 hg1 hat1) | (refine T_append_rows23 (w0 := Wm) Wm.heap.size E (by rfl) (.tmp 39) (.tmp 40) 34 (.agg #[.int .i64 0, .int .i64 0, .string ⟨#[]⟩]) 32 rfl Tryd.underlying34 info23 rfl (by decide) (by omega) u9 hi [v] A2 _ c2 (fun k => Wa.heap.size < k) rfl rfl (T_grown HTb.out.2.1 (T_free HTb.out.1) HTb.out.2.2 hg1) (Kd.F_step HFs.out (fun k hk hlt => hg1.block k hlt (fun he => by have := T_lt HTa.out.1 k he.symm; omega))) (fun k hk he => by have := T_lt HTa.out.2.1 k he; omega) hb1 hb1.size (by have := HJ.out; omega) ?_; intro v2 w4 hN2 hb2 hg2 hat2) | fail)
        have HB4 := Aside0.mk hb2
        have HT4 := Aside0.mk (show Two w4 Wm.heap.size E (lo ++ [v]) (hi ++ [v]) v1 v2 from
          have d1 := apart_grown HTb.out.2.2 (T_lt HTb.out.2.1) hat1
          ⟨T_grown hN1 (T_free (T_grown HTb.out.2.1 (T_free HTb.out.1) HTb.out.2.2 hg1)) (apart_symm d1) hg2, hN2, apart_symm (apart_grown (apart_symm d1) (T_lt hN1) hat2)⟩)
        clear hN1 hb1 hg1 hat1 hN2 hb2 hg2 hat2
        have i0' := of_eq_true i0
        have hlt' := of_eq_true hlt
        go_roundg (cols.length + 1 - (i + 1).toNat)
        case measure => have := HI.out; omega
        case rel => exact ⟨i + 1, congrArg (Value.int .i64) (wrap_succ i0' hlt' hmx), lo ++ [v], hi ++ [v], ⟨by omega, by omega, rfl⟩, HB4, HT4, ⟨by rw [succ_toNat i0', ← HG.out.1, HR.out, bndA_some HQ.out], by rw [succ_toNat i0', List.length_append]; have := HG.out.2.1; simp only [List.length_singleton]; omega, by rw [succ_toNat i0', List.length_append]; have := HG.out.2.2; simp only [List.length_singleton]; omega⟩⟩
      case none =>
        have HQ := Aside0.mk (show findP l y 5 5 = none by rw [← find_five]; exact ho)
        have HVN := Aside0.mk (show bndA (findP l) cols [] [] = (lo ++ (findP l y 9 10).toList, hi ++ (findP l y 7 8).toList) by rw [← HG.out.1, HR.out, bndA_none HQ.out])
        go_upto_region 10 with (first | (go_at_call 26; refine (bnd1_calls l y [5] B1 (some ⟨Wa.heap.size, 0, none⟩) d1 1 ⟨g11, 0, none⟩ ⟨g7, 0, none⟩ _ (Kd.C_below HG1.out (below_alloc HBa.out _)) (cell_al (cell_later HBa.out HV1.out) _) (cell_al HZa.out _) (C_ints Wa [5] 3 (by decide))).mono ?_; rw [ho]; rintro e w2 ⟨A2, c2, rfl, f2, hb2⟩) | fail)
        have hb2' := below_then (below_alloc (Below.refl Wa.heap.size Wa) (.cells #[.int .i64 5] 3)) (below_alloc (Below.refl Wa.heap.size Wa) (.cells #[.int .i64 5] 3)).size hb2
        have HBb := Aside0.mk (below_then HBa.out HBa.out.size hb2')
        have HTb := Aside0.mk (HTa.out.below hb2')
        have HZb := Aside0.mk (cell_later hb2' HZa.out)
        have HSb := Aside0.mk hb2'.size
        clear f2 hb2 hb2'
        obtain ⟨o9, h9⟩ : ∃ o, findF l y [9, 10] = o := ⟨_, rfl⟩
        obtain ⟨o7, h7⟩ : ∃ o, findF l y [7, 8] = o := ⟨_, rfl⟩
        have HV2 := Aside0.mk (show bndA (findP l) cols [] [] = (lo ++ o9.toList, hi ++ o7.toList) by rw [HVN.out, ← h9, ← h7]; rfl)
        go_upto_region 11 with (first | (go_at_call 26; refine (bnd1_calls l y [9, 10] B1 (some ⟨w2.heap.size, 0, none⟩) d1 2 ⟨g11, 0, none⟩ ⟨g7, 0, none⟩ _ (Kd.C_below HG1.out (below_alloc HBb.out _)) (cell_al (cell_later HBb.out HV1.out) _) (cell_al HZb.out _) (C_ints w2 [9, 10] 3 (by decide))).mono ?_; rw [h9]; rintro e w3 ⟨A3, c3, rfl, f3, hb3⟩) | fail)
        have hb3' := below_then (below_alloc (Below.refl w2.heap.size w2) (.cells #[.int .i64 9, .int .i64 10] 3)) (below_alloc (Below.refl w2.heap.size w2) (.cells #[.int .i64 9, .int .i64 10] 3)).size hb3
        have HF3 := Aside0.mk (show Kd.F k23 w3 (fun k => Wa.heap.size < k) A3 o9.toList.length o9.toList from Kd.F_mono f3 (fun k hk => by rw [World.size_alloc] at hk; have := HSb.out; omega))
        have HBc := Aside0.mk (below_then HBb.out HBb.out.size hb3')
        have HTc := Aside0.mk (HTb.out.below hb3')
        have HZc := Aside0.mk (cell_later hb3' HZb.out)
        have HSc := Aside0.mk (Nat.le_trans HSb.out hb3'.size)
        clear f3 hb3 hb3'
        go_upto_region 12 with (first | (go_at_call 26; refine (bnd1_calls l y [7, 8] B1 (some ⟨w3.heap.size, 0, none⟩) d1 2 ⟨g11, 0, none⟩ ⟨g7, 0, none⟩ _ (Kd.C_below HG1.out (below_alloc HBc.out _)) (cell_al (cell_later HBc.out HV1.out) _) (cell_al HZc.out _) (C_ints w3 [7, 8] 3 (by decide))).mono ?_; rw [h7]; rintro e w4 ⟨A4, c4, rfl, f4, hb4⟩) | fail)
        have hb4' := below_then (below_alloc (Below.refl w3.heap.size w3) (.cells #[.int .i64 7, .int .i64 8] 3)) (below_alloc (Below.refl w3.heap.size w3) (.cells #[.int .i64 7, .int .i64 8] 3)).size hb4
        have HF4 := Aside0.mk (show Kd.F k23 w4 (fun k => Wa.heap.size < k) A4 o7.toList.length o7.toList from Kd.F_mono f4 (fun k hk => by rw [World.size_alloc] at hk; have := HSc.out; omega))
        have HF3' := Aside0.mk (Kd.F_below HF3.out hb4')
        have HBd := Aside0.mk (below_then HBc.out HBc.out.size hb4')
        have HTd := Aside0.mk (HTc.out.below hb4')
        clear f4 hb4 hb4'
        go_upto_region 14 with (first | (refine T_append_rows23 (w0 := Wm) Wm.heap.size E (by rfl) (.tmp 54) (.tmp 55) 34 (.agg #[.int .i64 0, .int .i64 0, .string ⟨#[]⟩]) 32 rfl Tryd.underlying34 info23 rfl (by decide) (by omega) u8 lo o9.toList A3 _ c3 (fun k => Wa.heap.size < k) rfl rfl HTd.out.1 HF3'.out (fun k hk he => by have := T_lt HTa.out.1 k he; omega) HBd.out HBd.out.size (by have := HJ.out; have := opt_len o9; omega) ?_; intro v1 w5 hN1 hb1 hg1 hat1) | (refine T_append_rows23 (w0 := Wm) Wm.heap.size E (by rfl) (.tmp 57) (.tmp 58) 34 (.agg #[.int .i64 0, .int .i64 0, .string ⟨#[]⟩]) 32 rfl Tryd.underlying34 info23 rfl (by decide) (by omega) u9 hi o7.toList A4 _ c4 (fun k => Wa.heap.size < k) rfl rfl (T_grown HTd.out.2.1 (T_free HTd.out.1) HTd.out.2.2 hg1) (Kd.F_step HF4.out (fun k hk hlt => hg1.block k hlt (fun he => by have := T_lt HTa.out.1 k he.symm; omega))) (fun k hk he => by have := T_lt HTa.out.2.1 k he; omega) hb1 hb1.size (by have := HJ.out; have := opt_len o7; omega) ?_; intro v2 w6 hN2 hb2 hg2 hat2) | fail)
        obtain ⟨T1, T2, T3⟩ := (show Two w6 Wm.heap.size E (lo ++ o9.toList) (hi ++ o7.toList) v1 v2 from (have d1 := apart_grown HTd.out.2.2 (T_lt HTd.out.2.1) hat1; ⟨T_grown hN1 (T_free (T_grown HTd.out.2.1 (T_free HTd.out.1) HTd.out.2.2 hg1)) (apart_symm d1) hg2, hN2, apart_symm (apart_grown (apart_symm d1) (T_lt hN1) hat2)⟩))
        obtain ⟨R1, r1, f1, _, k1⟩ := T_reads T1
        obtain ⟨R2, r2, f2, _, k2⟩ := T_reads T2
        subst f1
        subst f2
        have HK1 := Aside0.mk k1
        have HK2 := Aside0.mk k2
        have HBf := Aside0.mk (hb2)
        have HVF := Aside0.mk (show bndA (findP l) cols [] [] = (lo ++ o9.toList, hi ++ o7.toList) from HV2.out)
        have HS := Aside0.mk (show (lo ++ o9.toList).length ≤ 13 ∧ (hi ++ o7.toList).length ≤ 13 by (have := HJ.out; have := opt_len o9; have := opt_len o7; simp only [List.length_append]; omega))
        clear T1 T2 T3 k1 k2
        obtain ⟨lo2, hlo2⟩ : ∃ l, lo ++ o9.toList = l := ⟨_, rfl⟩
        obtain ⟨hi2, hhi2⟩ : ∃ l, hi ++ o7.toList = l := ⟨_, rfl⟩
        rw [hlo2, hhi2] at HVF HS
        rw [hlo2] at HK1 ⊢
        rw [hhi2] at HK2 ⊢
        clear hlo2 hhi2
        have s1 := HS.out.1
        have s2 := HS.out.2
        go_wp2
        refine bodyPost_ret (v := .tuple #[.slice R1 lo2.length r1, .slice R2 hi2.length r2, .bool (decide (0 < lo2.length + hi2.length))]) (by simp [results, Tryd.results8, go_sem]; omega) rfl ?_
        rw [HCS.out, HVF.out]
        exact ⟨R1, r1, R2, r2, rfl, HK1.out, HK2.out, below_then HB1.out HB1.out.size HBf.out⟩
    · have hb0 : decide (i < (cols.length : Int)) = false := decide_eq_false hlt
      have e : cols.drop i.toNat = [] := List.drop_eq_nil_of_le (by omega)
      have HVN := Aside0.mk (show bndA (findP l) cols [] [] = (lo, hi) by rw [← HG.out.1, e]; rfl)
      clear e hlt i0 i1 i2
      go_upto_region 14 with (fail)
      obtain ⟨T1, T2, T3⟩ := (HT.out)
      obtain ⟨R1, r1, f1, _, k1⟩ := T_reads T1
      obtain ⟨R2, r2, f2, _, k2⟩ := T_reads T2
      subst f1
      subst f2
      have HK1 := Aside0.mk k1
      have HK2 := Aside0.mk k2
      have HBf := Aside0.mk (HB.out)
      have HVF := Aside0.mk (show bndA (findP l) cols [] [] = (lo, hi) from HVN.out)
      have HS := Aside0.mk (show (lo).length ≤ 13 ∧ (hi).length ≤ 13 by have := HG.out.2; have := HI.out; have := HL.out; omega)
      clear T1 T2 T3 k1 k2
      obtain ⟨lo2, hlo2⟩ : ∃ l, lo = l := ⟨_, rfl⟩
      obtain ⟨hi2, hhi2⟩ : ∃ l, hi = l := ⟨_, rfl⟩
      rw [hlo2, hhi2] at HVF HS
      rw [hlo2] at HK1 ⊢
      rw [hhi2] at HK2 ⊢
      clear hlo2 hhi2
      have s1 := HS.out.1
      have s2 := HS.out.2
      go_wp2
      refine bodyPost_ret (v := .tuple #[.slice R1 lo2.length r1, .slice R2 hi2.length r2, .bool (decide (0 < lo2.length + hi2.length))]) (by simp [results, Tryd.results8, go_sem]; omega) rfl ?_
      rw [HCS.out, HVF.out]
      exact ⟨R1, r1, R2, r2, rfl, HK1.out, HK2.out, below_then HB1.out HB1.out.size HBf.out⟩
end Go.Proofs.YthjjolmmdgnjfaaDoor
