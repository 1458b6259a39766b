/- The reference's 'Keys'. -/
import Derived.Test.YthjjolmmdgnjfaaDoorB1
namespace Go.Proofs.YthjjolmmdgnjfaaDoor
open Go.RowKit Go.Proofs.YthjjolmmdgnjfaaDoorW.PrintWords PPhysicalConditions
set_option linter.unusedVariables false
set_option maxRecDepth 100000 in
set_option maxHeartbeats 4000000 in
theorem rkeys_calls (n : Nat) (x : S26) (A : Option Addr) (c : Nat) (left : Int) (P : Nat → Prop) (w : World) (hn : sz x ≤ n) (hm : n ≤ 1000) (hc : x.f4.length ≤ c) (hF : Kd.F k26 w P A x.f4.length x.f4) :
    Calls Tryd.prog 7 #[Ag x A c, .int .i64 left] w (KeysPost left (conjN n x) w) := by
  have HN := Aside0.mk (And.intro hn hm)
  obtain ⟨Q, q2, hF'⟩ : ∃ Q : Nat → Prop, (∀ k, Q k → k < w.heap.size) ∧ Kd.F k26 w Q A x.f4.length x.f4 := ⟨_, fun _ h => h.2, Kd.F_bound hF⟩
  have HQ := Aside0.mk q2
  have HF := Aside0.mk hF'
  have HC := Aside0.mk hc
  have HL := Aside0.mk (show (conjN n x).length ≤ 1000 by
    have h1 := szs_conj n x
    have h2 := szs_len (conjN n x)
    omega)
  clear hn hm hF hc hF' q2
  go_enter Tryd.func7, Tryd.ntmps7
  go_upto_region 1 with (fail)
  have HB0 := Aside0.mk (below_alloc (below_alloc (Below.refl w.heap.size w) (.cells (Cs x A c) 26)) (.cells ZA 26))
  have HX0 := Aside0.mk (blk_alloc (blk_new w (.cells (Cs x A c) 26)) (.cells ZA 26))
  have HY0 := Aside0.mk (show ((w.alloc (.cells (Cs x A c) 26)).alloc (.cells ZA 26)).heap[w.heap.size + 1]? = some (.cells ZA 26 (0, 0)) by
    have := blk_new (w.alloc (.cells (Cs x A c) 26)) (.cells ZA 26)
    rwa [World.size_alloc] at this)
  have HF0 := Aside0.mk (Kd.F_alloc (Kd.F_alloc HF.out (.cells (Cs x A c) 26)) (.cells ZA 26))
  have HS0 := Aside0.mk (show ((w.alloc (.cells (Cs x A c) 26)).alloc (.cells ZA 26)).heap.size = w.heap.size + 2 by rw [World.size_alloc, World.size_alloc])
  obtain ⟨W0, hW0⟩ : ∃ W0 : World, (w.alloc (.cells (Cs x A c) 26)).alloc (.cells ZA 26) = W0 := ⟨_, rfl⟩
  rw [hW0] at HB0 HX0 HY0 HF0 HS0 ⊢
  clear hW0
  go_upto_region 2 with (fail)
  have HQ0 : ∀ k, Q k → k < W0.heap.size := fun k hk => by have := HQ.out k hk; have := HS0.out; omega
  have t7 := T_made (d := Kd.int .i64) (e := 3) (xs := []) (w := W0) (base := W0.heap.size) (E := Q) (Nat.le_refl _) (by simp) HQ0 (inner := []) (Reps.none _ _)
  have t8 := T_made (d := Kd.int .i64) (e := 3) (xs := []) (w := W0.alloc (.cells #[] 3)) (base := W0.heap.size) (E := Q) (by rw [World.size_alloc]; omega) (by simp) (fun k hk => by rw [World.size_alloc]; have := HQ0 k hk; omega) (inner := []) (Reps.none _ _)
  have t9 := T_made (d := k26) (e := 26) (xs := []) (w := (W0.alloc (.cells #[] 3)).alloc (.cells #[] 3)) (base := W0.heap.size) (E := Q) (by rw [World.size_alloc, World.size_alloc]; omega) (by simp) (fun k hk => by rw [World.size_alloc, World.size_alloc]; have := HQ0 k hk; omega) (inner := []) (Reps.none _ _)
  simp only [World.size_alloc, List.length_nil] at t8 t9
  simp only [List.length_nil] at t7
  have hba := below_alloc (below_alloc (below_alloc (Below.refl W0.heap.size W0) (.cells #[] 3)) (.cells #[] 3)) (.cells #[] 26)
  have HT0 := Aside0.mk (show Three (((W0.alloc (.cells #[] 3)).alloc (.cells #[] 3)).alloc (.cells #[] 26)) W0.heap.size Q left [] (.slice (some ⟨W0.heap.size, 0, none⟩) 0 0) (.slice (some ⟨W0.heap.size + 1, 0, none⟩) 0 0) (.slice (some ⟨W0.heap.size + 1 + 1, 0, none⟩) 0 0) from
    ⟨⟨T_below (T_below t7 (below_alloc (Below.refl _ _) _)) (below_alloc (Below.refl _ _) _), T_below t8 (below_alloc (Below.refl _ _) _), t9⟩, by simp [Value.ownBlock], by simp [Value.ownBlock]; omega, by simp [Value.ownBlock]⟩)
  have HBa := Aside0.mk hba
  have HXa := Aside0.mk (blk_below HX0.out hba)
  have HFa := Aside0.mk (Kd.F_below HF0.out hba)
  have HSa := Aside0.mk (show (((W0.alloc (.cells #[] 3)).alloc (.cells #[] 3)).alloc (.cells #[] 26)).heap.size = W0.heap.size + 3 by simp only [World.size_alloc])
  obtain ⟨Wb, hWb⟩ : ∃ Wb : World, ((W0.alloc (.cells #[] 3)).alloc (.cells #[] 3)).alloc (.cells #[] 26) = Wb := ⟨_, rfl⟩
  rw [hWb] at HT0 HBa HXa HFa HSa ⊢
  clear hWb hba t7 t8 t9 HX0 HF0 HQ0
  obtain ⟨a0, a1, a2, a3, a4, a5, a6⟩ := box7 HXa.out
  go_upto_region 3 with (first | (go_at_call 22; refine (rconj_calls n x A c Q _ HN.out.1 (by have := HN.out.2; omega) HC.out HFa.out).mono ?_; rintro e W1 ⟨v1, rfl, hN, hb1⟩; obtain ⟨B1, d1, ev⟩ := Kd.N_slice hN; subst ev) | fail)
  clear a0 a1 a2 a3 a4 a5 a6 HXa HFa
  obtain ⟨cs, hcs⟩ : ∃ cs, conjN n x = cs := ⟨_, rfl⟩
  rw [hcs] at hN HL ⊢
  have HCS := Aside0.mk hcs
  clear hcs
  have hm : cs.length ≤ 9223372036854775807 := by have := HL.out; omega
  obtain ⟨E, hE⟩ : ∃ E : Nat → Prop, E = fun k => (Q k ∨ Wb.heap.size ≤ k) ∧ k < W1.heap.size := ⟨_, rfl⟩
  have HE := Aside0.mk (show ∀ k, E k → (Q k ∨ Wb.heap.size ≤ k) ∧ k < W1.heap.size by subst hE; exact fun _ h => h)
  have HE2 := Aside0.mk (show ∀ k, Q k → E k by subst hE; exact fun k h => ⟨.inl h, by have := HQ.out k h; have := HS0.out; have := HSa.out; have := hb1.size; omega⟩)
  have HFc := Aside0.mk (show Kd.F k26 W1 E B1 cs.length cs by subst hE; exact Kd.F_bound (Kd.N_F hN))
  clear hE
  have HB1 := Aside0.mk (below_then HBa.out HBa.out.size hb1)
  have HT1 := Aside0.mk (show Three W1 W0.heap.size E left [] (.slice (some ⟨W0.heap.size, 0, none⟩) 0 0) (.slice (some ⟨W0.heap.size + 1, 0, none⟩) 0 0) (.slice (some ⟨W0.heap.size + 1 + 1, 0, none⟩) 0 0) by
    obtain ⟨⟨t7, t8, t9⟩, d1, d2, d3⟩ := HT0.out.below hb1
    have hk : ∀ k, E k → k < W1.heap.size ∧ (k < w.heap.size ∨ Wb.heap.size ≤ k) := fun k h => ⟨(HE.out k h).2, (HE.out k h).1.imp (HQ.out k) id⟩
    have := HS0.out
    have := HSa.out
    exact ⟨⟨T_more t7 HE2.out (fun k h => ⟨(hk k h).1, by have := (hk k h).2; simp [Value.ownBlock]; omega⟩), T_more t8 HE2.out (fun k h => ⟨(hk k h).1, by have := (hk k h).2; simp [Value.ownBlock]; omega⟩), T_more t9 HE2.out (fun k h => ⟨(hk k h).1, by have := (hk k h).2; simp [Value.ownBlock]; omega⟩)⟩, d1, d2, d3⟩)
  clear hN hb1 HT0
  go_wp2
  go_loopg [7, 8, 9, 11] (cs.length + 1) (fun kq v7 v8 v9 v11 wr => ∃ i : Int, v11 = .int .i64 i ∧ Aside0 (0 ≤ i ∧ i ≤ cs.length ∧ kq = cs.length + 1 - i.toNat) ∧ Aside0 (Below W0.heap.size W0 wr) ∧ Aside0 (Three wr W0.heap.size E left (cs.take i.toNat) v7 v8 v9) ∧ Aside0 (Kd.F k26 wr E B1 cs.length cs))
  case atStart => exact ⟨0, rfl, ⟨by omega, by omega, by omega⟩, HB1, HT1, HFc⟩
  case round =>
    clear HT1 HFc
    obtain ⟨i, rfl, HI, HB, HT, HFc⟩ := hrel
    obtain ⟨i0, i1, i2⟩ := HI.out
    by_cases hlt : i < cs.length
    · have hb0 : decide (i < (cs.length : Int)) = true := decide_eq_true hlt
      obtain ⟨ad, A6, c6, e, ⟨x0, x1, x2, x3, x4, x5, x6⟩, l6, g6, p6⟩ := at7F HFc.out i i0 hlt
      subst e
      have HK := Aside0.mk (And.intro l6 g6)
      have HR := Aside0.mk (take_rd i0 hlt)
      have HLT := Aside0.mk (show (cs.take i.toNat).length ≤ 1000 by rw [List.length_take]; have := HL.out; omega)
      clear l6 g6 i1 i2 p6
      obtain ⟨y, hy⟩ : ∃ y, rd_T26 cs i = y := ⟨_, rfl⟩
      rw [hy] at x0 x1 x2 x3 x4 x5 x6 HK HR
      clear hy
      replace hlt := eq_true hlt
      replace i0 := eq_true i0
      go_upto_region 7 with (first | (go_at_call 23; refine (rkey_calls y A6 c6 left _ _ HK.out.1 HK.out.2).mono ?_; rintro e w2 ⟨p, q, b, rfl, hb, hr, hbl⟩; have HBK := Aside0.mk (And.intro hb hr); clear hb hr) | fail)
      replace x0 := cell_later hbl x0
      replace x1 := cell_later hbl x1
      replace x2 := cell_later hbl x2
      replace x3 := cell_later hbl x3
      replace x4 := cell_later hbl x4
      replace x5 := cell_later hbl x5
      replace x6 := cell_later hbl x6
      have HB3 := Aside0.mk (below_then HB.out HB.out.size hbl)
      have HT3 := Aside0.mk (HT.out.below hbl)
      have HK3 := Aside0.mk (And.intro HK.out.1 (Kd.F_below HK.out.2 hbl))
      have HF3 := Aside0.mk (Kd.F_below HFc.out hbl)
      clear hbl
      cases b
      case true =>
        have HQ := Aside0.mk (show keyF y left = some (p, q) by
          obtain ⟨h1, h2⟩ := HBK.out
          obtain ⟨r, hr⟩ := Option.isSome_iff_exists.1 h1.symm
          rw [hr, h2 r hr])
        clear HBK x0 x1 x2 x3 x4 x5 x6
        have HL1 := Aside0.mk (show ((lsF left (cs.take i.toNat)).length + 1) * 8 ≤ 140737488355328 ∧ ((rsF left (cs.take i.toNat)).length + 1) * 8 ≤ 140737488355328 by
          have h1 := keys_len left (cs.take i.toNat); have h2 := HLT.out
          omega)
        go_wp2_with (first | (refine T_append (Kd.int .i64) (w0 := W0) W0.heap.size E (by rfl) (.tmp 37) (.tmp 39) 27 3 (.int .i64 0) 8 rfl Tryd.underlying27 int_info rfl (by decide) (by omega) u7 (lsF left (cs.take i.toNat)) p [.int .i64 p] rfl rfl (FK_int _ _ _) HT3.out.1.1 HB3.out HB3.out.size HL1.out.1 ?_; intro v1 w3 hN1 hb1 hg1 hat1) | (refine T_append (Kd.int .i64) (w0 := W0) W0.heap.size E (by rfl) (.tmp 41) (.tmp 43) 27 3 (.int .i64 0) 8 rfl Tryd.underlying27 int_info rfl (by decide) (by omega) u8 (rsF left (cs.take i.toNat)) q [.int .i64 q] rfl rfl (FK_int _ _ _) (T_grown HT3.out.1.2.1 (T_free HT3.out.1.1) HT3.out.2.1 hg1) hb1 hb1.size HL1.out.2 ?_; intro v2 w4 hN2 hb2 hg2 hat2) | fail)
        have HB4 := Aside0.mk hb2
        have hu8 := T_grown HT3.out.1.2.1 (T_free HT3.out.1.1) HT3.out.2.1 hg1
        have hu9 := T_grown HT3.out.1.2.2 (T_free HT3.out.1.1) HT3.out.2.2.1 hg1
        have d12 := apart_grown HT3.out.2.1 (T_lt HT3.out.1.2.1) hat1
        have d19 := apart_grown HT3.out.2.2.1 (T_lt HT3.out.1.2.2) hat1
        have d21 := apart_grown (apart_symm d12) (T_lt hN1) hat2
        have d29 := apart_grown HT3.out.2.2.2 (T_lt hu9) hat2
        have HF4 := Aside0.mk (Kd.F_step (Kd.F_step HF3.out (fun k hk hl => hg1.block k hl (fun he => T_free HT3.out.1.1 k he.symm hk))) (fun k hk hl => hg2.block k hl (fun he => T_free hu8 k he.symm hk)))
        have HT4 := Aside0.mk (show Three w4 W0.heap.size E left (cs.take (i.toNat + 1)) v1 v2 u9 by
          obtain ⟨k1, k2, k3⟩ := keys_some (cs := cs.take i.toNat) HQ.out
          unfold Three
          rw [HR.out, k1, k2, k3]
          exact ⟨⟨T_grown hN1 (T_free hu8) (apart_symm d12) hg2, hN2, T_grown hu9 (T_free hu8) HT3.out.2.2.2 hg2⟩, apart_symm d21, d19, d29⟩)
        clear hN1 hb1 hg1 hat1 hN2 hb2 hg2 hat2 hu8 hu9 d12 d19 d21 d29
        have i0' := of_eq_true i0
        have hlt' := of_eq_true hlt
        go_roundg (cs.length + 1 - (i + 1).toNat)
        case measure => have := HI.out; omega
        case rel => exact ⟨i + 1, congrArg (Value.int .i64) (wrap_succ i0' hlt' hm), ⟨by omega, by omega, rfl⟩, HB4, ⟨by rw [succ_toNat i0']; exact HT4.out⟩, HF4⟩
      case false =>
        have HQ := Aside0.mk (show keyF y left = none by
          have h1 := HBK.out.1
          cases h : keyF y left with
          | none => rfl
          | some r => rw [h] at h1; cases h1)
        clear HBK
        have HL1 := Aside0.mk (show ((restF left (cs.take i.toNat)).length + 1) * 80 ≤ 140737488355328 by
          have h1 := keys_len left (cs.take i.toNat); have h2 := HLT.out
          omega)
        go_wp2_with (first | (refine T_append k26 (w0 := W0) W0.heap.size E (by rfl) (.tmp 45) (.tmp 50) 24 26 (.agg #[(.int .i64 0), (.int .i64 0), (.int .i64 0), (.int .i64 0), (.string ⟨#[]⟩), (.int .i64 0), (.slice none 0 0)]) 80 rfl Tryd.underlying24 info26 rfl (by decide) (by omega) u9 (restF left (cs.take i.toNat)) y (Cs y A6 c6).toList rfl rfl (FK_of_F HK3.out.1 HK3.out.2) HT3.out.1.2.2 HB3.out HB3.out.size HL1.out ?_; intro v1 w3 hN1 hb1 hg1 hat1) | fail)
        have HB4 := Aside0.mk hb1
        have HF4 := Aside0.mk (Kd.F_step HF3.out (fun k hk hl => hg1.block k hl (fun he => T_free HT3.out.1.2.2 k he.symm hk)))
        have HT4 := Aside0.mk (show Three w3 W0.heap.size E left (cs.take (i.toNat + 1)) u7 u8 v1 by
          obtain ⟨k1, k2, k3⟩ := keys_none (cs := cs.take i.toNat) HQ.out
          unfold Three
          rw [HR.out, k1, k2, k3]
          exact ⟨⟨T_grown HT3.out.1.1 (T_free HT3.out.1.2.2) (apart_symm HT3.out.2.2.1) hg1, T_grown HT3.out.1.2.1 (T_free HT3.out.1.2.2) (apart_symm HT3.out.2.2.2) hg1, hN1⟩, HT3.out.2.1, apart_symm (apart_grown (apart_symm HT3.out.2.2.1) (T_lt HT3.out.1.1) hat1), apart_symm (apart_grown (apart_symm HT3.out.2.2.2) (T_lt HT3.out.1.2.1) hat1)⟩)
        clear hN1 hb1 hg1 hat1 x0 x1 x2 x3 x4 x5 x6
        have i0' := of_eq_true i0
        have hlt' := of_eq_true hlt
        go_roundg (cs.length + 1 - (i + 1).toNat)
        case measure => have := HI.out; omega
        case rel => exact ⟨i + 1, congrArg (Value.int .i64) (wrap_succ i0' hlt' hm), ⟨by omega, by omega, rfl⟩, HB4, ⟨by rw [succ_toNat i0']; exact HT4.out⟩, HF4⟩
    · have hb0 : decide (i < (cs.length : Int)) = false := decide_eq_false hlt
      have e : cs.take i.toNat = cs := List.take_of_length_le (by omega)
      rw [e] at HT
      clear e hlt i0 i1 i2 HI
      obtain ⟨⟨t7, t8, t9⟩, _⟩ := HT.out
      obtain ⟨A7, c7, e7, l7, g7⟩ := T_reads t7
      obtain ⟨A8, c8, e8, l8, g8⟩ := T_reads t8
      obtain ⟨A9, c9, e9, l9, g9⟩ := T_reads t9
      subst e7
      subst e8
      subst e9
      have H9 := Aside0.mk (And.intro l9 (Kd.N_F t9.1))
      have HY := Aside0.mk (blk_below HY0.out HB.out)
      have HBw := Aside0.mk (below_then HB0.out HB0.out.size HB.out)
      have H7 := Aside0.mk (And.intro (N_int_tight t7.1) (N_int_tight t8.1))
      have HG := Aside0.mk (And.intro (T_base t7) (And.intro (T_base t8) (T_base t9)))
      clear t7 t8 t9 l7 l8 l9 g7 g8 g9
      go_wp2_with (first | (go_at_call 24; refine (rand_calls (restF left cs) A9 c9 _ _ H9.out.1 H9.out.2).mono ?_; rintro e w2 ⟨B2, d2, rfl, l2, f2, hb2⟩) | (refine put7_event (g := w.heap.size + 1) rfl rfl rfl (blk_below HY.out hb2) rfl rfl rfl ?_; intro w4 hx4 hp4; obtain ⟨a0, a1, a2, a3, a4, a5, a6⟩ := box7 hx4) | fail)
      refine bodyPost_ret (v := .tuple #[.slice A7 (lsF left cs).length c7, .slice A8 (rsF left cs).length c8, Ag (andL (restF left cs)) B2 d2]) (by simp [results, Tryd.results7, go_sem, a0, a1, a2, a3, a4, a5, a6]) rfl ?_
      rw [HCS.out]
      refine ⟨A7, c7, A8, c8, B2, d2, rfl, Kd.F_now (hp4.F (Kd.N_F (Kd.N_below H7.out.1 hb2)) (fun k hk => ?_)), Kd.F_now (hp4.F (Kd.N_F (Kd.N_below H7.out.2 hb2)) (fun k hk => ?_)), l2, Kd.F_now (hp4.F f2 (fun k hk => ?_)), hp4.below (below_then HBw.out HBw.out.size hb2) (by omega)⟩
      · have := HG.out.1 k hk.symm; have := HS0.out; omega
      · have := HG.out.2.1 k hk.symm; have := HS0.out; omega
      · have := HS0.out
        have := HSa.out
        rcases hk with (hk | hk) | hk
        · have := (HE.out k hk).1
          rcases this with h | h
          · have := HQ.out k h; omega
          · omega
        · have := HG.out.2.2 k hk.symm; omega
        · have := HB.out.size; omega
end Go.Proofs.YthjjolmmdgnjfaaDoor
