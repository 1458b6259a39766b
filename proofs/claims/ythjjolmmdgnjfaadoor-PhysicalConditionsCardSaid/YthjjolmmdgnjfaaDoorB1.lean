/- 'physical.Keys': the keys and the rest of the conjuncts. -/
import Derived.Test.YthjjolmmdgnjfaaDoorB0
namespace Go.Proofs.YthjjolmmdgnjfaaDoor
open Go.RowKit Go.Proofs.YthjjolmmdgnjfaaDoorW.PrintWords PPhysicalConditions
set_option linter.unusedVariables false
theorem N_int_tight {e base : Nat} {w : World} {ok : Nat → Prop} {v : Value} {xs : List Int} (h : Kd.N (Kd.int .i64) e w base ok v xs) : Kd.N (Kd.int .i64) e w base (fun k => some k = v.ownBlock) v xs := by
  obtain ⟨h0, rows, hl, hR, hf⟩ := h
  exact ⟨fun k hk => hk.symm, rows, hl, hR, fun j x c hx hc W' hW => by
    have := Kd.FK_now (hf j x c hx hc)
    exact this⟩
theorem szs_conj (n : Nat) : ∀ x : S26, sz.szs (conjN n x) ≤ sz x := by
  induction n with
  | zero => intro x; simp [conjN, sz.szs]
  | succ n ih =>
    intro x
    simp only [conjN]
    split
    · simp [sz.szs]
    · split
      · rename_i h
        simp only [Bool.and_eq_true, beq_iff_eq] at h
        have h2 := sz_two h.2
        have := ih (rd_T26 x.f4 0)
        have := ih (rd_T26 x.f4 1)
        rw [szs_append]
        omega
      · simp [sz.szs]
theorem szs_filter (p : S26 → Bool) (xs : List S26) : sz.szs (xs.filter p) ≤ sz.szs xs := by
  induction xs with
  | nil => simp [sz.szs]
  | cons x r ih =>
    rw [List.filter_cons]
    split
    · simp only [sz.szs]; omega
    · simp only [sz.szs]; omega
theorem szs_len (xs : List S26) : xs.length ≤ sz.szs xs := by
  induction xs with
  | nil => simp [sz.szs]
  | cons x r ih => simp only [sz.szs, List.length_cons]; have := sz_pos x; omega
theorem sz_and2 (a b : S26) : sz (and2 a b) = sz a + sz b + 1 := by simp [and2, sz, sz.szs]
theorem sz_foldl (r : List S26) : ∀ a, sz (r.foldl and2 a) = sz a + sz.szs r + r.length := by
  induction r with
  | nil => intro a; simp [sz.szs]
  | cons x r ih => intro a; rw [List.foldl_cons, ih, sz_and2]; simp only [sz.szs, List.length_cons]; omega
theorem sz_andL (xs : List S26) : sz (andL xs) ≤ sz.szs xs + xs.length + 1 := by
  cases xs with
  | nil => simp [andL, tru, sz, sz.szs]
  | cons x r => simp only [andL, sz.szs, List.length_cons]; rw [sz_foldl]; omega
def keysF (left : Int) (cs : List S26) : List (Int × Int) := cs.filterMap (fun x => keyF x left)
def lsF (left : Int) (cs : List S26) : List Int := (keysF left cs).map Prod.fst
def rsF (left : Int) (cs : List S26) : List Int := (keysF left cs).map Prod.snd
def restF (left : Int) (cs : List S26) : List S26 := cs.filter (fun x => (keyF x left).isNone)
theorem keys_some {left p q : Int} {cs : List S26} {y : S26} (h : keyF y left = some (p, q)) : lsF left (cs ++ [y]) = lsF left cs ++ [p] ∧ rsF left (cs ++ [y]) = rsF left cs ++ [q] ∧ restF left (cs ++ [y]) = restF left cs := by
  simp [lsF, rsF, restF, keysF, List.filterMap_append, List.filter_append, h]
theorem keys_none {left : Int} {cs : List S26} {y : S26} (h : keyF y left = none) : lsF left (cs ++ [y]) = lsF left cs ∧ rsF left (cs ++ [y]) = rsF left cs ∧ restF left (cs ++ [y]) = restF left cs ++ [y] := by
  simp [lsF, rsF, restF, keysF, List.filterMap_append, List.filter_append, h]
theorem keys_len (left : Int) (cs : List S26) : (lsF left cs).length ≤ cs.length ∧ (rsF left cs).length ≤ cs.length ∧ (restF left cs).length ≤ cs.length := by
  simp only [lsF, rsF, restF, keysF, List.length_map]
  exact ⟨List.length_filterMap_le _ _, List.length_filterMap_le _ _, List.length_filter_le _ _⟩
def KeysPost (left : Int) (cs : List S26) (w : World) (e : Ending) (w' : World) : Prop := ∃ (A1 : Option Addr) (c1 : Nat) (A2 : Option Addr) (c2 : Nat) (A3 : Option Addr) (c3 : Nat),
  e = .returned (.tuple #[.slice A1 (lsF left cs).length c1, .slice A2 (rsF left cs).length c2, Ag (andL (restF left cs)) A3 c3]) ∧ Kd.C (Kd.int .i64) w' A1 (lsF left cs).length (lsF left cs) ∧ Kd.C (Kd.int .i64) w' A2 (rsF left cs).length (rsF left cs) ∧
  (andL (restF left cs)).f4.length ≤ c3 ∧ k26.C w' A3 (andL (restF left cs)).f4.length (andL (restF left cs)).f4 ∧ Below w.heap.size w w'
/-- The same, and all that it gives back lies in new blocks. -/
def KeysPostF (left : Int) (cs : List S26) (w : World) (e : Ending) (w' : World) : Prop := ∃ (A1 : Option Addr) (c1 : Nat) (A2 : Option Addr) (c2 : Nat) (A3 : Option Addr) (c3 : Nat),
  e = .returned (.tuple #[.slice A1 (lsF left cs).length c1, .slice A2 (rsF left cs).length c2, Ag (andL (restF left cs)) A3 c3]) ∧ Kd.F (Kd.int .i64) w' (fun k => w.heap.size ≤ k) A1 (lsF left cs).length (lsF left cs) ∧ Kd.F (Kd.int .i64) w' (fun k => w.heap.size ≤ k) A2 (rsF left cs).length (rsF left cs) ∧
  (andL (restF left cs)).f4.length ≤ c3 ∧ Kd.F k26 w' (fun k => w.heap.size ≤ k) A3 (andL (restF left cs)).f4.length (andL (restF left cs)).f4 ∧ Below w.heap.size w w'
/-- Three rows of one's own, apart. -/
def Three (wr : World) (M : Nat) (E : Nat → Prop) (left : Int) (cs : List S26) (v7 v8 v9 : Value) : Prop :=
  (T (Kd.int .i64) 3 wr M E v7 (lsF left cs) ∧ T (Kd.int .i64) 3 wr M E v8 (rsF left cs) ∧ T k26 26 wr M E v9 (restF left cs)) ∧ (∀ k, v7.ownBlock = some k → v8.ownBlock ≠ some k) ∧ (∀ k, v7.ownBlock = some k → v9.ownBlock ≠ some k) ∧ (∀ k, v8.ownBlock = some k → v9.ownBlock ≠ some k)
theorem Three.below {wr w' : World} {M : Nat} {E : Nat → Prop} {left : Int} {cs : List S26} {v7 v8 v9 : Value} (h : Three wr M E left cs v7 v8 v9) (hb : Below wr.heap.size wr w') : Three w' M E left cs v7 v8 v9 :=
  ⟨⟨T_below h.1.1 hb, T_below h.1.2.1 hb, T_below h.1.2.2 hb⟩, h.2⟩
/-- A row that grew in place or moved to a new block stays apart from an older one. -/
theorem apart_grown {W : World} {v v1 u : Value} (h : ∀ k, v.ownBlock = some k → u.ownBlock ≠ some k) (hl : ∀ k, u.ownBlock = some k → k < W.heap.size) (hat : v1.ownBlock = v.ownBlock ∨ ∃ b, v1.ownBlock = some b ∧ W.heap.size ≤ b) : ∀ k, v1.ownBlock = some k → u.ownBlock ≠ some k := by
  intro k hk he
  rcases hat with hat | ⟨b, hb, hle⟩
  · exact h k (hat ▸ hk) he
  · rw [hb] at hk
    injection hk with hk
    have := hl k he
    omega
theorem apart_symm {v u : Value} (h : ∀ k, v.ownBlock = some k → u.ownBlock ≠ some k) : ∀ k, u.ownBlock = some k → v.ownBlock ≠ some k := fun k hk he => h k he hk
set_option maxRecDepth 100000 in
set_option maxHeartbeats 4000000 in
theorem keys_callsF (n : Nat) (x : S26) (A : Option Addr) (c : Nat) (left : Int) (P : Nat → Prop) (w : World) (hn : sz x ≤ n) (hm : n ≤ 1000) (hc : x.f4.length ≤ c) (hF : Kd.F k26 w P A x.f4.length x.f4) :
    Calls Tryd.prog 6 #[Ag x A c, .int .i64 left] w (KeysPostF left (conjN n x) w) := by
  have HN := Aside0.mk (And.intro hn hm)
  have HF := Aside0.mk hF
  have HC := Aside0.mk hc
  have HL := Aside0.mk (show (conjN n x).length ≤ 1000 ∧ sz (andL (restF left (conjN n x))) ≤ 2001 by
    have h1 := szs_conj n x
    have h2 := szs_len (conjN n x)
    have h3 := szs_filter (fun y => (keyF y left).isNone) (conjN n x)
    have h4 := sz_andL (restF left (conjN n x))
    have h5 := szs_len (restF left (conjN n x))
    have h6 : restF left (conjN n x) = (conjN n x).filter (fun y => (keyF y left).isNone) := rfl
    rw [h6] at h4 h5 ⊢
    exact ⟨by omega, by omega⟩)
  clear hn hm hF hc
  go_enter Tryd.func6, Tryd.ntmps6
  go_upto_region 3 with (fail)
  have HB0 := Aside0.mk (below_alloc (below_alloc (Below.refl w.heap.size w) (.cells (Cs x A c) 26)) (.cells ZA 26))
  have HX0 := Aside0.mk (blk_alloc (blk_new w (.cells (Cs x A c) 26)) (.cells ZA 26))
  have HY0 := Aside0.mk (show ((w.alloc (.cells (Cs x A c) 26)).alloc (.cells ZA 26)).heap[w.heap.size + 1]? = some (.cells ZA 26 (0, 0)) by
    have := blk_new (w.alloc (.cells (Cs x A c) 26)) (.cells ZA 26)
    rwa [World.size_alloc] at this)
  have HF0 := Aside0.mk (Kd.F_alloc (Kd.F_alloc HF.out (.cells (Cs x A c) 26)) (.cells ZA 26))
  obtain ⟨W0, hW0⟩ : ∃ W0 : World, (w.alloc (.cells (Cs x A c) 26)).alloc (.cells ZA 26) = W0 := ⟨_, rfl⟩
  rw [hW0] at HB0 HX0 HY0 HF0 ⊢
  clear hW0
  obtain ⟨a0, a1, a2, a3, a4, a5, a6⟩ := box7 HX0.out
  go_wp2_with (first | (go_at_call 19; refine (conj_calls n x A c P _ HN.out.1 (by have := HN.out.2; omega) HC.out HF0.out).mono ?_; rintro e W1 ⟨v1, rfl, hN, hb1⟩; obtain ⟨B1, d1, ev⟩ := Kd.N_slice hN; subst ev) | fail)
  clear a0 a1 a2 a3 a4 a5 a6 HX0 HF0
  obtain ⟨cs, hcs⟩ : ∃ cs, conjN n x = cs := ⟨_, rfl⟩
  rw [hcs] at hN HL ⊢
  have HCS := Aside0.mk hcs
  clear hcs
  have hm : cs.length ≤ 9223372036854775807 := by have := HL.out.1; omega
  have HB1 := Aside0.mk (below_then HB0.out HB0.out.size hb1)
  have HY1 := Aside0.mk (blk_below HY0.out hb1)
  have HFc := Aside0.mk (show Kd.F k26 W1 (fun k => k < W1.heap.size) B1 cs.length cs from Kd.F_mono (Kd.F_bound (Kd.N_F hN)) (fun _ h => h.2))
  clear hN hb1 HB0 HY0
  go_loopg [7, 8, 9, 18] (cs.length + 1) (fun kq v7 v8 v9 v18 wr => ∃ i : Int, v18 = .int .i64 i ∧ Aside0 (0 ≤ i ∧ i ≤ cs.length ∧ kq = cs.length + 1 - i.toNat) ∧ Aside0 (Below W1.heap.size W1 wr) ∧ Aside0 (Three wr W1.heap.size (fun k => k < W1.heap.size) left (cs.take i.toNat) v7 v8 v9))
  case atStart => exact ⟨0, rfl, ⟨by omega, by omega, by omega⟩, ⟨Below.refl _ _⟩, ⟨⟨T_nil _ _ _ _ _ (fun _ h => h), T_nil _ _ _ _ _ (fun _ h => h), T_nil _ _ _ _ _ (fun _ h => h)⟩, fun k hk => by simp [Value.ownBlock] at hk, fun k hk => by simp [Value.ownBlock] at hk, fun k hk => by simp [Value.ownBlock] at hk⟩⟩
  case round =>
    obtain ⟨i, rfl, HI, HB, HT⟩ := hrel
    obtain ⟨i0, i1, i2⟩ := HI.out
    by_cases hlt : i < cs.length
    · have hb0 : decide (i < (cs.length : Int)) = true := decide_eq_true hlt
      obtain ⟨ad, A6, c6, e, ⟨x0, x1, x2, x3, x4, x5, x6⟩, l6, g6, p6⟩ := at7F (Kd.F_below HFc.out HB.out) i i0 hlt
      subst e
      have HK := Aside0.mk (And.intro l6 g6)
      have HR := Aside0.mk (take_rd i0 hlt)
      have HLT := Aside0.mk (show (cs.take i.toNat).length ≤ 1000 by rw [List.length_take]; have := HL.out.1; omega)
      clear l6 g6 i1 i2 p6
      obtain ⟨y, hy⟩ : ∃ y, rd_T26 cs i = y := ⟨_, rfl⟩
      rw [hy] at x0 x1 x2 x3 x4 x5 x6 HK HR
      clear hy
      replace hlt := eq_true hlt
      replace i0 := eq_true i0
      go_upto_region 6 with (fail)
      clear x0 x1 x2 x3 x4 x5 x6
      have HB2 := Aside0.mk (below_alloc HB.out (.cells (Cs y A6 c6) 26))
      have HT2 := Aside0.mk (HT.out.below (below_alloc (Below.refl _ _) (.cells (Cs y A6 c6) 26)))
      have HZ2 := Aside0.mk (blk_new wr (.cells (Cs y A6 c6) 26))
      have HK2 := Aside0.mk (And.intro HK.out.1 (Kd.F_alloc HK.out.2 (.cells (Cs y A6 c6) 26)))
      obtain ⟨W2, hW2⟩ : ∃ W2 : World, wr.alloc (.cells (Cs y A6 c6) 26) = W2 := ⟨_, rfl⟩
      rw [hW2] at HB2 HT2 HZ2 HK2 ⊢
      clear hW2
      obtain ⟨b0, b1, b2, b3, b4, b5, b6⟩ := box7 HZ2.out
      go_upto_region 7 with (first | (go_at_call 20; refine (keyOf_calls y A6 c6 left _ _ HK2.out.1 HK2.out.2).mono ?_; rintro e w2 ⟨p, q, b, rfl, hb, hr, hbl⟩; have HBK := Aside0.mk (And.intro hb hr); clear hb hr) | fail)
      clear b0 b1 b2 b3 b4 b5 b6
      have HB3 := Aside0.mk (below_then HB2.out HB2.out.size hbl)
      have HT3 := Aside0.mk (HT2.out.below hbl)
      have HK3 := Aside0.mk (And.intro HK2.out.1 (Kd.F_below HK2.out.2 hbl))
      have HZ3 := Aside0.mk (blk_below HZ2.out hbl)
      clear hbl
      cases b
      case true =>
        have HQ := Aside0.mk (show keyF y left = some (p, q) by
          obtain ⟨h1, h2⟩ := HBK.out
          obtain ⟨r, hr⟩ := Option.isSome_iff_exists.1 h1.symm
          rw [hr, h2 r hr])
        clear HBK
        have HL1 := Aside0.mk (show ((lsF left (cs.take i.toNat)).length + 1) * 8 ≤ 140737488355328 ∧ ((rsF left (cs.take i.toNat)).length + 1) * 8 ≤ 140737488355328 by
          have h1 := keys_len left (cs.take i.toNat); have h2 := HLT.out
          omega)
        go_wp2_with (first | (refine T_append (Kd.int .i64) (w0 := W1) W1.heap.size (fun k => k < W1.heap.size) (by rfl) (.tmp 30) (.tmp 32) 27 3 (.int .i64 0) 8 rfl Tryd.underlying27 int_info rfl (by decide) (by omega) u7 (lsF left (cs.take i.toNat)) p [.int .i64 p] rfl rfl (FK_int _ _ _) HT3.out.1.1 HB3.out HB3.out.size HL1.out.1 ?_; intro v1 w3 hN1 hb1 hg1 hat1) | (refine T_append (Kd.int .i64) (w0 := W1) W1.heap.size (fun k => k < W1.heap.size) (by rfl) (.tmp 34) (.tmp 36) 27 3 (.int .i64 0) 8 rfl Tryd.underlying27 int_info rfl (by decide) (by omega) u8 (rsF left (cs.take i.toNat)) q [.int .i64 q] rfl rfl (FK_int _ _ _) (T_grown HT3.out.1.2.1 (T_free HT3.out.1.1) HT3.out.2.1 hg1) hb1 hb1.size HL1.out.2 ?_; intro v2 w4 hN2 hb2 hg2 hat2) | fail)
        have HB4 := Aside0.mk hb2
        have hu8 := T_grown HT3.out.1.2.1 (T_free HT3.out.1.1) HT3.out.2.1 hg1
        have hu9 := T_grown HT3.out.1.2.2 (T_free HT3.out.1.1) HT3.out.2.2.1 hg1
        have d12 := apart_grown HT3.out.2.1 (T_lt HT3.out.1.2.1) hat1
        have d19 := apart_grown HT3.out.2.2.1 (T_lt HT3.out.1.2.2) hat1
        have d21 := apart_grown (apart_symm d12) (T_lt hN1) hat2
        have d29 := apart_grown HT3.out.2.2.2 (T_lt hu9) hat2
        have HT4 := Aside0.mk (show Three w4 W1.heap.size (fun k => k < W1.heap.size) left (cs.take (i.toNat + 1)) v1 v2 u9 by
          obtain ⟨k1, k2, k3⟩ := keys_some (cs := cs.take i.toNat) HQ.out
          unfold Three
          rw [HR.out, k1, k2, k3]
          exact ⟨⟨T_grown hN1 (T_free hu8) (apart_symm d12) hg2, hN2, T_grown hu9 (T_free hu8) HT3.out.2.2.2 hg2⟩, apart_symm d21, d19, d29⟩)
        clear hN1 hb1 hg1 hat1 hN2 hb2 hg2 hat2 hu8 hu9 d12 d19 d21 d29
        have i0' := of_eq_true i0
        have hlt' := of_eq_true hlt
        go_roundg (cs.length + 1 - (i + 1).toNat)
        case measure => have := HI.out; omega
        case rel => exact ⟨i + 1, congrArg (Value.int .i64) (wrap_succ i0' hlt' hm), ⟨by omega, by omega, rfl⟩, HB4, ⟨by rw [succ_toNat i0']; exact HT4.out⟩⟩
      case false =>
        have HQ := Aside0.mk (show keyF y left = none by
          have h1 := HBK.out.1
          cases h : keyF y left with
          | none => rfl
          | some r => rw [h] at h1; cases h1)
        clear HBK
        have HL1 := Aside0.mk (show ((restF left (cs.take i.toNat)).length + 1) * 80 ≤ 140737488355328 by
          have h1 := keys_len left (cs.take i.toNat); have h2 := HLT.out
          omega)
        obtain ⟨b0, b1, b2, b3, b4, b5, b6⟩ := box7 HZ3.out
        go_wp2_with (first | (refine T_append k26 (w0 := W1) W1.heap.size (fun k => k < W1.heap.size) (by rfl) (.tmp 38) (.tmp 40) 24 26 (.agg #[(.int .i64 0), (.int .i64 0), (.int .i64 0), (.int .i64 0), (.string ⟨#[]⟩), (.int .i64 0), (.slice none 0 0)]) 80 rfl Tryd.underlying24 info26 rfl (by decide) (by omega) u9 (restF left (cs.take i.toNat)) y (Cs y A6 c6).toList rfl rfl (FK_of_F HK3.out.1 HK3.out.2) HT3.out.1.2.2 HB3.out HB3.out.size HL1.out ?_; intro v1 w3 hN1 hb1 hg1 hat1) | fail)
        have HB4 := Aside0.mk hb1
        have HT4 := Aside0.mk (show Three w3 W1.heap.size (fun k => k < W1.heap.size) left (cs.take (i.toNat + 1)) u7 u8 v1 by
          obtain ⟨k1, k2, k3⟩ := keys_none (cs := cs.take i.toNat) HQ.out
          unfold Three
          rw [HR.out, k1, k2, k3]
          exact ⟨⟨T_grown HT3.out.1.1 (T_free HT3.out.1.2.2) (apart_symm HT3.out.2.2.1) hg1, T_grown HT3.out.1.2.1 (T_free HT3.out.1.2.2) (apart_symm HT3.out.2.2.2) hg1, hN1⟩, HT3.out.2.1, apart_symm (apart_grown (apart_symm HT3.out.2.2.1) (T_lt HT3.out.1.1) hat1), apart_symm (apart_grown (apart_symm HT3.out.2.2.2) (T_lt HT3.out.1.2.1) hat1)⟩)
        clear hN1 hb1 hg1 hat1 b0 b1 b2 b3 b4 b5 b6
        have i0' := of_eq_true i0
        have hlt' := of_eq_true hlt
        go_roundg (cs.length + 1 - (i + 1).toNat)
        case measure => have := HI.out; omega
        case rel => exact ⟨i + 1, congrArg (Value.int .i64) (wrap_succ i0' hlt' hm), ⟨by omega, by omega, rfl⟩, HB4, ⟨by rw [succ_toNat i0']; exact HT4.out⟩⟩
    · have hb0 : decide (i < (cs.length : Int)) = false := decide_eq_false hlt
      have e : cs.take i.toNat = cs := List.take_of_length_le (by omega)
      rw [e] at HT
      clear e hlt i0 i1 i2 HI
      obtain ⟨⟨t7, t8, t9⟩, _⟩ := HT.out
      obtain ⟨A7, c7, e7, l7, g7⟩ := T_reads t7
      obtain ⟨A8, c8, e8, l8, g8⟩ := T_reads t8
      obtain ⟨A9, c9, e9, l9, g9⟩ := T_reads t9
      subst e7
      subst e8
      subst e9
      have H9 := Aside0.mk (And.intro l9 (Kd.N_F t9.1))
      have HY := Aside0.mk (blk_below HY1.out HB.out)
      have HBw := Aside0.mk (below_then HB1.out HB1.out.size HB.out)
      have H7 := Aside0.mk (And.intro (N_int_tight t7.1) (N_int_tight t8.1))
      have HG := Aside0.mk (And.intro (T_base t7) (T_base t8))
      have HS := Aside0.mk (lt_of_block HY1.out)
      clear t7 t8 t9 l7 l8 l9 g7 g8 g9
      go_wp2_with (first | (go_at_call 17; refine (and_calls (restF left cs) A9 c9 _ _ H9.out.1 H9.out.2).mono ?_; rintro e w2 ⟨B2, d2, rfl, l2, f2, hb2⟩) | (go_at_call 21; refine (clone_calls 2001 (andL (restF left cs)) B2 d2 _ HL.out.2 (by omega) l2 (Kd.F_now f2)).mono ?_; rintro e w3 ⟨B3, d3, rfl, l3, f3, hb3⟩) | (refine put7_event (g := w.heap.size + 1) rfl rfl rfl (blk_below (blk_below HY.out hb2) hb3) rfl rfl rfl ?_; intro w4 hx4 hp4; obtain ⟨a0, a1, a2, a3, a4, a5, a6⟩ := box7 hx4) | fail)
      refine bodyPost_ret (v := .tuple #[.slice A7 (lsF left cs).length c7, .slice A8 (rsF left cs).length c8, Ag (andL (restF left cs)) B3 d3]) (by simp [results, Tryd.results6, go_sem, a0, a1, a2, a3, a4, a5, a6]) rfl ?_
      rw [HCS.out]
      refine ⟨A7, c7, A8, c8, B3, d3, rfl, Kd.F_mono (hp4.F (Kd.N_F (Kd.N_below (Kd.N_below H7.out.1 hb2) hb3)) (fun k hk => ?_)) (fun k hk => ?_), Kd.F_mono (hp4.F (Kd.N_F (Kd.N_below (Kd.N_below H7.out.2 hb2) hb3)) (fun k hk => ?_)) (fun k hk => ?_), l3, Kd.F_mono (hp4.F f3 (fun k hk => ?_)) (fun k hk => ?_), hp4.below (below_then (below_then HBw.out HBw.out.size hb2) (Nat.le_trans HBw.out.size hb2.size) hb3) (by omega)⟩
      · have := HG.out.1 k hk.symm; have := HS.out; omega
      · have := HG.out.1 k hk.symm; have := HS.out; omega
      · have := HG.out.2 k hk.symm; have := HS.out; omega
      · have := HG.out.2 k hk.symm; have := HS.out; omega
      · rcases hk with hk | hk
        · exact hk.elim
        · have := HS.out; have := HB.out.size; have := hb2.size; omega
      · rcases hk with hk | hk
        · exact hk.elim
        · have := HS.out; have := HB.out.size; have := hb2.size; omega
theorem keys_calls (n : Nat) (x : S26) (A : Option Addr) (c : Nat) (left : Int) (P : Nat → Prop) (w : World) (hn : sz x ≤ n) (hm : n ≤ 1000) (hc : x.f4.length ≤ c) (hF : Kd.F k26 w P A x.f4.length x.f4) :
    Calls Tryd.prog 6 #[Ag x A c, .int .i64 left] w (KeysPost left (conjN n x) w) :=
  (keys_callsF n x A c left P w hn hm hc hF).mono fun e w' ⟨A1, c1, A2, c2, A3, c3, he, h1, h2, h3, h4, hb⟩ => ⟨A1, c1, A2, c2, A3, c3, he, Kd.F_now h1, Kd.F_now h2, h3, Kd.F_now h4, hb⟩
end Go.Proofs.YthjjolmmdgnjfaaDoor
