/- The reference's 'Bounds'. -/
import Derived.Test.YthjjolmmdgnjfaaDoorC2
namespace Go.Proofs.YthjjolmmdgnjfaaDoor
open Go.RowKit Go.Proofs.YthjjolmmdgnjfaaDoorW.PrintWords PPhysicalConditions
set_option linter.unusedVariables false
def bndA (f : Int → Int → Int → Option S23) : List Int → List S23 → List S23 → List S23 × List S23
  | [], lo, hi => (lo, hi)
  | c :: r, lo, hi => match f c 5 5 with
    | some v => bndA f r (lo ++ [v]) (hi ++ [v])
    | none => (lo ++ (f c 9 10).toList, hi ++ (f c 7 8).toList)
theorem bndA_some {f : Int → Int → Int → Option S23} {c : Int} {r : List Int} {lo hi : List S23} {v : S23} (h : f c 5 5 = some v) : bndA f (c :: r) lo hi = bndA f r (lo ++ [v]) (hi ++ [v]) := by simp [bndA, h]
theorem bndA_none {f : Int → Int → Int → Option S23} {c : Int} {r : List Int} {lo hi : List S23} (h : f c 5 5 = none) : bndA f (c :: r) lo hi = (lo ++ (f c 9 10).toList, hi ++ (f c 7 8).toList) := by simp [bndA, h]
theorem dropI {xs : List Int} {i : Int} (h0 : 0 ≤ i) (h1 : i < xs.length) : xs.drop i.toNat = rd xs i :: xs.drop (i.toNat + 1) := by
  rw [List.drop_eq_getElem_cons (show i.toNat < xs.length by omega), rdI_get h0 h1]
def BndPost (r : List S23 × List S23) (w : World) (e : Ending) (w' : World) : Prop := ∃ (A1 : Option Addr) (c1 : Nat) (A2 : Option Addr) (c2 : Nat),
  e = .returned (.tuple #[.slice A1 r.1.length c1, .slice A2 r.2.length c2, .bool (decide (0 < r.1.length + r.2.length))]) ∧ Kd.C k23 w' A1 r.1.length r.1 ∧ Kd.C k23 w' A2 r.2.length r.2 ∧ Below w.heap.size w w'
/-- Two rows of values of one's own, apart. -/
def Two (wr : World) (M : Nat) (E : Nat → Prop) (lo hi : List S23) (v8 v9 : Value) : Prop := T k23 23 wr M E v8 lo ∧ T k23 23 wr M E v9 hi ∧ ∀ k, v8.ownBlock = some k → v9.ownBlock ≠ some k
theorem Two.below {wr w' : World} {M : Nat} {E : Nat → Prop} {lo hi : List S23} {v8 v9 : Value} (h : Two wr M E lo hi v8 v9) (hb : Below wr.heap.size wr w') : Two w' M E lo hi v8 v9 := ⟨T_below h.1 hb, T_below h.2.1 hb, h.2.2⟩
theorem first_cases {o : Option S23} {v : S23} {b : Bool} (h1 : b = o.isSome) (h2 : ∀ r, o = some r → r = v) : (b = true ∧ o = some v) ∨ (b = false ∧ o = none) := by
  cases o with
  | none => exact .inr ⟨h1, rfl⟩
  | some r => exact .inl ⟨h1, by rw [h2 r rfl]⟩
set_option maxRecDepth 100000 in
set_option maxHeartbeats 4000000 in
theorem rbounds_calls (n : Nat) (x : S26) (A : Option Addr) (c : Nat) (id : Int) (nm : ByteArray) (cols : List Int) (Ad : Option Addr) (cd : Nat) (P : Nat → Prop) (w : World) (hn : sz x ≤ n) (hm : n ≤ 1000) (hc : x.f4.length ≤ c) (hF : Kd.F k26 w P A x.f4.length x.f4) (hD : Kd.C (Kd.int .i64) w Ad cols.length cols) (hl : cols.length ≤ 12) :
    Calls Tryd.prog 9 #[Ag x A c, .agg #[.int .i64 id, .string nm, .slice Ad cols.length cd]] w (BndPost (bndA (firstF (conjN n x)) cols [] []) w) := by
  have HN := Aside0.mk (And.intro hn hm)
  have HF := Aside0.mk hF
  have HC := Aside0.mk hc
  have HL := Aside0.mk hl
  have hmx : cols.length ≤ 9223372036854775807 := by omega
  have HD := Aside0.mk hD
  clear hn hm hF hc hl hD
  go_enter Tryd.func9, Tryd.ntmps9
  go_upto_region 1 with (fail)
  have HB0 := Aside0.mk (below_alloc (below_alloc (Below.refl w.heap.size w) (.cells (Cs x A c) 26)) (.cells #[.int .i64 id, .string nm, .slice Ad cols.length cd] 29))
  have HX0 := Aside0.mk (blk_alloc (blk_new w (.cells (Cs x A c) 26)) (.cells #[.int .i64 id, .string nm, .slice Ad cols.length cd] 29))
  have HY0 := Aside0.mk (show ((w.alloc (.cells (Cs x A c) 26)).alloc (.cells #[.int .i64 id, .string nm, .slice Ad cols.length cd] 29)).heap[w.heap.size + 1]? = some (.cells #[.int .i64 id, .string nm, .slice Ad cols.length cd] 29 (0, 0)) by
    have := blk_new (w.alloc (.cells (Cs x A c) 26)) (.cells #[.int .i64 id, .string nm, .slice Ad cols.length cd] 29)
    rwa [World.size_alloc] at this)
  have HF0 := Aside0.mk (Kd.F_alloc (Kd.F_alloc HF.out (.cells (Cs x A c) 26)) (.cells #[.int .i64 id, .string nm, .slice Ad cols.length cd] 29))
  obtain ⟨W0, hW0⟩ : ∃ W0 : World, (w.alloc (.cells (Cs x A c) 26)).alloc (.cells #[.int .i64 id, .string nm, .slice Ad cols.length cd] 29) = W0 := ⟨_, rfl⟩
  rw [hW0] at HB0 HX0 HY0 HF0 ⊢
  clear hW0
  obtain ⟨a0, a1, a2, a3, a4, a5, a6⟩ := box7 HX0.out
  go_upto_region 2 with (first | (go_at_call 22; refine (rconj_calls n x A c P _ HN.out.1 (by have := HN.out.2; omega) HC.out HF0.out).mono ?_; rintro e W1 ⟨v1, rfl, hN, hb1⟩; obtain ⟨B1, d1, ev⟩ := Kd.N_slice hN; subst ev) | fail)
  clear a0 a1 a2 a3 a4 a5 a6 HX0 HF0
  obtain ⟨cs, hcs⟩ : ∃ cs, conjN n x = cs := ⟨_, rfl⟩
  rw [hcs] at hN ⊢
  have HCS := Aside0.mk hcs
  clear hcs
  have HB1 := Aside0.mk (below_then HB0.out HB0.out.size hb1)
  have HY1 := Aside0.mk (blk_below HY0.out hb1)
  have HFc := Aside0.mk (Kd.N_F hN)
  have HD1 := Aside0.mk (Kd.C_below HD.out HB1.out)
  clear hN hb1 HB0 HY0
  obtain ⟨E, hE⟩ : ∃ E : Nat → Prop, E = fun k => k < W1.heap.size := ⟨_, rfl⟩
  have hE1 : ∀ k, E k → k < W1.heap.size := by subst hE; exact fun _ h => h
  clear hE
  have t8 := T_made (d := k23) (e := 23) (xs := []) (w := W1) (base := W1.heap.size) (E := E) (Nat.le_refl _) (by simp) hE1 (inner := []) (Reps.none _ _)
  have t9 := T_made (d := k23) (e := 23) (xs := []) (w := W1.alloc (.cells #[] 23)) (base := W1.heap.size) (E := E) (by rw [World.size_alloc]; omega) (by simp) (fun k hk => by rw [World.size_alloc]; have := hE1 k hk; omega) (inner := []) (Reps.none _ _)
  simp only [World.size_alloc, List.length_nil] at t9
  simp only [List.length_nil] at t8
  have HT1 := Aside0.mk (show Two ((W1.alloc (.cells #[] 23)).alloc (.cells #[] 23)) W1.heap.size E [] [] (.slice (some ⟨W1.heap.size, 0, none⟩) 0 0) (.slice (some ⟨W1.heap.size + 1, 0, none⟩) 0 0) from ⟨T_below t8 (below_alloc (Below.refl _ _) _), t9, by simp [Value.ownBlock]⟩)
  clear t8 t9 hE1
  go_wp2
  go_loopg [8, 9, 10] (cols.length + 1) (fun kq v8 v9 v10 wr => ∃ i : Int, v10 = .int .i64 i ∧ ∃ lo hi, Aside0 (0 ≤ i ∧ i ≤ cols.length ∧ kq = cols.length + 1 - i.toNat) ∧ Aside0 (Below W1.heap.size W1 wr) ∧ Aside0 (Two wr W1.heap.size E lo hi v8 v9) ∧ Aside0 (bndA (firstF cs) (cols.drop i.toNat) lo hi = bndA (firstF cs) cols [] [] ∧ lo.length ≤ i.toNat ∧ hi.length ≤ i.toNat))
  case atStart => exact ⟨0, rfl, [], [], ⟨by omega, by omega, by omega⟩, ⟨below_alloc (below_alloc (Below.refl _ _) _) _⟩, HT1, ⟨rfl, by simp, by simp⟩⟩
  case round =>
    clear HT1
    obtain ⟨i, rfl, lo, hi, HI, HB, HT, HG⟩ := hrel
    obtain ⟨i0, i1, i2⟩ := HI.out
    obtain ⟨q0, q1, q2⟩ := box3 (blk_below HY1.out HB.out)
    by_cases hlt : i < cols.length
    · have hb0 : decide (i < (cols.length : Int)) = true := decide_eq_true hlt
      obtain ⟨ad, e, x0⟩ := Kd.at_int HD1.out i i0 hlt
      replace x0 := cell_later HB.out x0
      subst e
      have HR := Aside0.mk (dropI i0 hlt)
      have HJ := Aside0.mk (show (lo.length + 1) * 32 ≤ 140737488355328 ∧ (hi.length + 1) * 32 ≤ 140737488355328 ∧ lo.length ≤ 12 ∧ hi.length ≤ 12 by have := HG.out; have := HL.out; omega)
      clear i1 i2
      obtain ⟨y, hy⟩ : ∃ y, rd cols i = y := ⟨_, rfl⟩
      rw [hy] at x0 HR
      have HRy := Aside0.mk hy
      clear hy
      replace hlt := eq_true hlt
      replace i0 := eq_true i0
      go_upto_region 7 with (first | (go_at_call 30; refine (first_calls cs y 5 5 B1 d1 _ _ (Kd.F_below HFc.out HB.out)).mono ?_; rintro e w2 ⟨v, b, rfl, hb, hr, hbl⟩; have HBK := Aside0.mk (first_cases hb hr); clear hb hr) | fail)
      have HBa := Aside0.mk (below_alloc (below_then HB.out HB.out.size hbl) (.cells (Cs23 v) 23))
      have HTa := Aside0.mk ((HT.out.below hbl).below (below_alloc (Below.refl _ _) (.cells (Cs23 v) 23)))
      have HZa := Aside0.mk (blk_new w2 (.cells (Cs23 v) 23))
      replace x0 := cell_al (cell_later hbl x0) (.cells (Cs23 v) 23)
      replace q2 := cell_al (cell_later hbl q2) (.cells (Cs23 v) 23)
      have HZa_ne := Aside0.mk (show ∀ k, u8.ownBlock = some k → k ≠ w2.heap.size from fun k hk => Nat.ne_of_lt (T_lt (HT.out.below hbl).1 k hk))
      obtain ⟨Wa, hWa⟩ : ∃ Wa : World, w2.alloc (.cells (Cs23 v) 23) = Wa := ⟨_, rfl⟩
      rw [hWa] at HBa HTa HZa x0 q2 ⊢
      clear hWa hbl q0 q1
      cases b
      case true =>
        have HQ := Aside0.mk (show firstF cs y 5 5 = some v from (HBK.out.resolve_right (fun h => by cases h.1)).2)
        clear HBK x0 q2
        obtain ⟨z0, z1, z2⟩ := box3 HZa.out
        go_wp2_with (first | (refine T_append k23 (w0 := W1) W1.heap.size E (by rfl) (.tmp 39) (.tmp 41) 34 23 (.agg #[.int .i64 0, .int .i64 0, .string ⟨#[]⟩]) 32 rfl Tryd.underlying34 info23 rfl (by decide) (by omega) u8 lo v (Cs23 v).toList rfl rfl (FK23 _ _ _) HTa.out.1 HBa.out HBa.out.size HJ.out.1 ?_; intro v1 w3 hN1 hb1 hg1 hat1; obtain ⟨z0, z1, z2⟩ := box3 ((hg1.block _ (lt_of_block HZa.out) (fun e => HZa_ne.out _ e.symm rfl)).trans HZa.out)) | (refine T_append k23 (w0 := W1) W1.heap.size E (by rfl) (.tmp 43) (.tmp 45) 34 23 (.agg #[.int .i64 0, .int .i64 0, .string ⟨#[]⟩]) 32 rfl Tryd.underlying34 info23 rfl (by decide) (by omega) u9 hi v (Cs23 v).toList rfl rfl (FK23 _ _ _) (T_grown HTa.out.2.1 (T_free HTa.out.1) HTa.out.2.2 hg1) hb1 hb1.size HJ.out.2.1 ?_; intro v2 w4 hN2 hb2 hg2 hat2) | fail)
        have HB4 := Aside0.mk hb2
        have HT4 := Aside0.mk (show Two w4 W1.heap.size E (lo ++ [v]) (hi ++ [v]) v1 v2 from
          have d1 := apart_grown HTa.out.2.2 (T_lt HTa.out.2.1) hat1
          ⟨T_grown hN1 (T_free (T_grown HTa.out.2.1 (T_free HTa.out.1) HTa.out.2.2 hg1)) (apart_symm d1) hg2, hN2, apart_symm (apart_grown (apart_symm d1) (T_lt hN1) hat2)⟩)
        clear hN1 hb1 hg1 hat1 hN2 hb2 hg2 hat2 z0 z1 z2
        have i0' := of_eq_true i0
        have hlt' := of_eq_true hlt
        go_roundg (cols.length + 1 - (i + 1).toNat)
        case measure => have := HI.out; omega
        case rel => exact ⟨i + 1, congrArg (Value.int .i64) (wrap_succ i0' hlt' hmx), lo ++ [v], hi ++ [v], ⟨by omega, by omega, rfl⟩, HB4, HT4, ⟨by rw [succ_toNat i0', ← HG.out.1, HR.out, bndA_some HQ.out], by rw [succ_toNat i0', List.length_append]; have := HG.out.2.1; simp only [List.length_singleton]; omega, by rw [succ_toNat i0', List.length_append]; have := HG.out.2.2; simp only [List.length_singleton]; omega⟩⟩
      case false =>
        have HQ := Aside0.mk (show firstF cs y 5 5 = none from (HBK.out.resolve_left (fun h => by cases h.1)).2)
        have i0n := of_eq_true i0
        have hltn := of_eq_true hlt
        have HVN := Aside0.mk (show bndA (firstF cs) cols [] [] = (lo ++ (firstF cs y 9 10).toList, hi ++ (firstF cs y 7 8).toList) by rw [← HG.out.1, HR.out, bndA_none HQ.out])
        clear HBK i0n hltn
        go_upto_region 11 with (first | (go_at_call 30; refine (first_calls cs y 9 10 B1 d1 _ _ (Kd.F_below HFc.out HBa.out)).mono ?_; rintro e w3 ⟨v', b', rfl, hb', hr', hbl'⟩; have HBK := Aside0.mk (first_cases hb' hr'); clear hb' hr') | fail)
        have HBb := Aside0.mk (below_alloc (below_then HBa.out HBa.out.size hbl') (.cells (Cs23 v') 23))
        have HTb := Aside0.mk ((HTa.out.below hbl').below (below_alloc (Below.refl _ _) (.cells (Cs23 v') 23)))
        have HZb := Aside0.mk (blk_new w3 (.cells (Cs23 v') 23))
        replace x0 := cell_al (cell_later hbl' x0) (.cells (Cs23 v') 23)
        replace q2 := cell_al (cell_later hbl' q2) (.cells (Cs23 v') 23)
        obtain ⟨Wb, hWb⟩ : ∃ Wb : World, w3.alloc (.cells (Cs23 v') 23) = Wb := ⟨_, rfl⟩
        rw [hWb] at HBb HTb HZb x0 q2 ⊢
        clear hWb hbl'
        cases b'
        case true =>
          have HP := Aside0.mk (show firstF cs y 9 10 = some v' from (HBK.out.resolve_right (fun h => by cases h.1)).2)
          obtain ⟨z0, z1, z2⟩ := box3 HZb.out
          go_upto_region 13 with (first | (refine T_append k23 (w0 := W1) W1.heap.size E (by rfl) (.tmp 58) (.tmp 60) 34 23 (.agg #[.int .i64 0, .int .i64 0, .string ⟨#[]⟩]) 32 rfl Tryd.underlying34 info23 rfl (by decide) (by omega) u8 lo v' (Cs23 v').toList rfl rfl (FK23 _ _ _) HTb.out.1 HBb.out HBb.out.size HJ.out.1 ?_; intro v1 w4 hN1 hb1 hg1 hat1) | fail)
          have HBc := Aside0.mk hb1
          have HTc := Aside0.mk (show Two w4 W1.heap.size E (lo ++ [v']) hi v1 u9 from ⟨hN1, T_grown HTb.out.2.1 (T_free HTb.out.1) HTb.out.2.2 hg1, apart_grown HTb.out.2.2 (T_lt HTb.out.2.1) hat1⟩)
          have hD4 := Kd.at_int (Kd.C_below HD1.out hb1) i (of_eq_true i0) (of_eq_true hlt)
          replace q2 := (box3 (blk_below HY1.out hb1)).2.2
          clear hN1 hb1 hg1 hat1 z0 z1 z2
          clear x0
          obtain ⟨ad4, ee, x0⟩ := hD4
          injection ee with ee
          subst ee
          rw [HRy.out] at x0
          go_upto_region 14 with (first | (go_at_call 30; refine (first_calls cs y 7 8 B1 d1 _ _ (Kd.F_below HFc.out HBc.out)).mono ?_; rintro e w5 ⟨v2, b2, rfl, hb2', hr2', hbl2⟩; have HBK2 := Aside0.mk (first_cases hb2' hr2'); clear hb2' hr2') | fail)
          have HBd := Aside0.mk (below_alloc (below_then HBc.out HBc.out.size hbl2) (.cells (Cs23 v2) 23))
          have HTd := Aside0.mk ((HTc.out.below hbl2).below (below_alloc (Below.refl _ _) (.cells (Cs23 v2) 23)))
          have HZd := Aside0.mk (blk_new w5 (.cells (Cs23 v2) 23))
          obtain ⟨Wd, hWd⟩ : ∃ Wd : World, w5.alloc (.cells (Cs23 v2) 23) = Wd := ⟨_, rfl⟩
          rw [hWd] at HBd HTd HZd ⊢
          clear hWd hbl2 x0 q2
          cases b2
          case true =>
            have HP2 := Aside0.mk (show firstF cs y 7 8 = some v2 from (HBK2.out.resolve_right (fun h => by cases h.1)).2)
            obtain ⟨z0, z1, z2⟩ := box3 HZd.out
            go_upto_region 16 with (first | (refine T_append k23 (w0 := W1) W1.heap.size E (by rfl) (.tmp 73) (.tmp 75) 34 23 (.agg #[.int .i64 0, .int .i64 0, .string ⟨#[]⟩]) 32 rfl Tryd.underlying34 info23 rfl (by decide) (by omega) u9 hi v2 (Cs23 v2).toList rfl rfl (FK23 _ _ _) HTd.out.2.1 HBd.out HBd.out.size HJ.out.2.1 ?_; intro v9' w9 hN9 hb9 hg9 hat9) | fail)
            obtain ⟨T1, T2, T3⟩ := (show Two w9 W1.heap.size E (lo ++ [v']) (hi ++ [v2]) v1 v9' from ⟨T_grown HTd.out.1 (T_free HTd.out.2.1) (apart_symm HTd.out.2.2) hg9, hN9, apart_symm (apart_grown (apart_symm HTd.out.2.2) (T_lt HTd.out.1) hat9)⟩)
            obtain ⟨R1, r1, f1, _, k1⟩ := T_reads T1
            obtain ⟨R2, r2, f2, _, k2⟩ := T_reads T2
            subst f1
            subst f2
            have HK1 := Aside0.mk k1
            have HK2 := Aside0.mk k2
            have HBf := Aside0.mk (hb9)
            have HVF := Aside0.mk (show bndA (firstF cs) cols [] [] = (lo ++ [v'], hi ++ [v2]) from by rw [HVN.out, HP.out, HP2.out]; simp)
            have HS := Aside0.mk (show (lo ++ [v']).length ≤ 13 ∧ (hi ++ [v2]).length ≤ 13 by have := HG.out.2; have := HI.out; have := HL.out; (try simp only [List.length_append, List.length_singleton]); omega)
            clear T1 T2 T3 k1 k2
            obtain ⟨lo2, hlo2⟩ : ∃ l, lo ++ [v'] = l := ⟨_, rfl⟩
            obtain ⟨hi2, hhi2⟩ : ∃ l, hi ++ [v2] = l := ⟨_, rfl⟩
            rw [hlo2, hhi2] at HVF HS
            rw [hlo2] at HK1 ⊢
            rw [hhi2] at HK2 ⊢
            clear hlo2 hhi2
            have s1 := HS.out.1
            have s2 := HS.out.2
            go_wp2
            refine bodyPost_ret (v := .tuple #[.slice R1 lo2.length r1, .slice R2 hi2.length r2, .bool (decide (0 < lo2.length + hi2.length))]) (by simp [results, Tryd.results9, go_sem]; omega) rfl ?_
            rw [HCS.out, HVF.out]
            exact ⟨R1, r1, R2, r2, rfl, HK1.out, HK2.out, below_then HB1.out HB1.out.size HBf.out⟩
          case false =>
            have HP2 := Aside0.mk (show firstF cs y 7 8 = none from (HBK2.out.resolve_left (fun h => by cases h.1)).2)
            go_upto_region 16 with (fail)
            obtain ⟨T1, T2, T3⟩ := (HTd.out)
            obtain ⟨R1, r1, f1, _, k1⟩ := T_reads T1
            obtain ⟨R2, r2, f2, _, k2⟩ := T_reads T2
            subst f1
            subst f2
            have HK1 := Aside0.mk k1
            have HK2 := Aside0.mk k2
            have HBf := Aside0.mk (HBd.out)
            have HVF := Aside0.mk (show bndA (firstF cs) cols [] [] = (lo ++ [v'], hi) from by rw [HVN.out, HP.out, HP2.out]; simp)
            have HS := Aside0.mk (show (lo ++ [v']).length ≤ 13 ∧ (hi).length ≤ 13 by have := HG.out.2; have := HI.out; have := HL.out; (try simp only [List.length_append, List.length_singleton]); omega)
            clear T1 T2 T3 k1 k2
            obtain ⟨lo2, hlo2⟩ : ∃ l, lo ++ [v'] = l := ⟨_, rfl⟩
            obtain ⟨hi2, hhi2⟩ : ∃ l, hi = l := ⟨_, rfl⟩
            rw [hlo2, hhi2] at HVF HS
            rw [hlo2] at HK1 ⊢
            rw [hhi2] at HK2 ⊢
            clear hlo2 hhi2
            have s1 := HS.out.1
            have s2 := HS.out.2
            go_wp2
            refine bodyPost_ret (v := .tuple #[.slice R1 lo2.length r1, .slice R2 hi2.length r2, .bool (decide (0 < lo2.length + hi2.length))]) (by simp [results, Tryd.results9, go_sem]; omega) rfl ?_
            rw [HCS.out, HVF.out]
            exact ⟨R1, r1, R2, r2, rfl, HK1.out, HK2.out, below_then HB1.out HB1.out.size HBf.out⟩
        case false =>
          have HP := Aside0.mk (show firstF cs y 9 10 = none from (HBK.out.resolve_left (fun h => by cases h.1)).2)
          go_upto_region 13 with (fail)
          have HBc := HBb
          have HTc := HTb
          have hD4 := Kd.at_int (Kd.C_below HD1.out HBb.out) i (of_eq_true i0) (of_eq_true hlt)
          clear x0
          obtain ⟨ad4, ee, x0⟩ := hD4
          injection ee with ee
          subst ee
          rw [HRy.out] at x0
          go_upto_region 14 with (first | (go_at_call 30; refine (first_calls cs y 7 8 B1 d1 _ _ (Kd.F_below HFc.out HBc.out)).mono ?_; rintro e w5 ⟨v2, b2, rfl, hb2', hr2', hbl2⟩; have HBK2 := Aside0.mk (first_cases hb2' hr2'); clear hb2' hr2') | fail)
          have HBd := Aside0.mk (below_alloc (below_then HBc.out HBc.out.size hbl2) (.cells (Cs23 v2) 23))
          have HTd := Aside0.mk ((HTc.out.below hbl2).below (below_alloc (Below.refl _ _) (.cells (Cs23 v2) 23)))
          have HZd := Aside0.mk (blk_new w5 (.cells (Cs23 v2) 23))
          obtain ⟨Wd, hWd⟩ : ∃ Wd : World, w5.alloc (.cells (Cs23 v2) 23) = Wd := ⟨_, rfl⟩
          rw [hWd] at HBd HTd HZd ⊢
          clear hWd hbl2 x0 q2
          cases b2
          case true =>
            have HP2 := Aside0.mk (show firstF cs y 7 8 = some v2 from (HBK2.out.resolve_right (fun h => by cases h.1)).2)
            obtain ⟨z0, z1, z2⟩ := box3 HZd.out
            go_upto_region 16 with (first | (refine T_append k23 (w0 := W1) W1.heap.size E (by rfl) (.tmp 73) (.tmp 75) 34 23 (.agg #[.int .i64 0, .int .i64 0, .string ⟨#[]⟩]) 32 rfl Tryd.underlying34 info23 rfl (by decide) (by omega) u9 hi v2 (Cs23 v2).toList rfl rfl (FK23 _ _ _) HTd.out.2.1 HBd.out HBd.out.size HJ.out.2.1 ?_; intro v9' w9 hN9 hb9 hg9 hat9) | fail)
            obtain ⟨T1, T2, T3⟩ := (show Two w9 W1.heap.size E (lo) (hi ++ [v2]) u8 v9' from ⟨T_grown HTd.out.1 (T_free HTd.out.2.1) (apart_symm HTd.out.2.2) hg9, hN9, apart_symm (apart_grown (apart_symm HTd.out.2.2) (T_lt HTd.out.1) hat9)⟩)
            obtain ⟨R1, r1, f1, _, k1⟩ := T_reads T1
            obtain ⟨R2, r2, f2, _, k2⟩ := T_reads T2
            subst f1
            subst f2
            have HK1 := Aside0.mk k1
            have HK2 := Aside0.mk k2
            have HBf := Aside0.mk (hb9)
            have HVF := Aside0.mk (show bndA (firstF cs) cols [] [] = (lo, hi ++ [v2]) from by rw [HVN.out, HP.out, HP2.out]; simp)
            have HS := Aside0.mk (show (lo).length ≤ 13 ∧ (hi ++ [v2]).length ≤ 13 by have := HG.out.2; have := HI.out; have := HL.out; (try simp only [List.length_append, List.length_singleton]); omega)
            clear T1 T2 T3 k1 k2
            obtain ⟨lo2, hlo2⟩ : ∃ l, lo = l := ⟨_, rfl⟩
            obtain ⟨hi2, hhi2⟩ : ∃ l, hi ++ [v2] = l := ⟨_, rfl⟩
            rw [hlo2, hhi2] at HVF HS
            rw [hlo2] at HK1 ⊢
            rw [hhi2] at HK2 ⊢
            clear hlo2 hhi2
            have s1 := HS.out.1
            have s2 := HS.out.2
            go_wp2
            refine bodyPost_ret (v := .tuple #[.slice R1 lo2.length r1, .slice R2 hi2.length r2, .bool (decide (0 < lo2.length + hi2.length))]) (by simp [results, Tryd.results9, go_sem]; omega) rfl ?_
            rw [HCS.out, HVF.out]
            exact ⟨R1, r1, R2, r2, rfl, HK1.out, HK2.out, below_then HB1.out HB1.out.size HBf.out⟩
          case false =>
            have HP2 := Aside0.mk (show firstF cs y 7 8 = none from (HBK2.out.resolve_left (fun h => by cases h.1)).2)
            go_upto_region 16 with (fail)
            obtain ⟨T1, T2, T3⟩ := (HTd.out)
            obtain ⟨R1, r1, f1, _, k1⟩ := T_reads T1
            obtain ⟨R2, r2, f2, _, k2⟩ := T_reads T2
            subst f1
            subst f2
            have HK1 := Aside0.mk k1
            have HK2 := Aside0.mk k2
            have HBf := Aside0.mk (HBd.out)
            have HVF := Aside0.mk (show bndA (firstF cs) cols [] [] = (lo, hi) from by rw [HVN.out, HP.out, HP2.out]; simp)
            have HS := Aside0.mk (show (lo).length ≤ 13 ∧ (hi).length ≤ 13 by have := HG.out.2; have := HI.out; have := HL.out; (try simp only [List.length_append, List.length_singleton]); omega)
            clear T1 T2 T3 k1 k2
            obtain ⟨lo2, hlo2⟩ : ∃ l, lo = l := ⟨_, rfl⟩
            obtain ⟨hi2, hhi2⟩ : ∃ l, hi = l := ⟨_, rfl⟩
            rw [hlo2, hhi2] at HVF HS
            rw [hlo2] at HK1 ⊢
            rw [hhi2] at HK2 ⊢
            clear hlo2 hhi2
            have s1 := HS.out.1
            have s2 := HS.out.2
            go_wp2
            refine bodyPost_ret (v := .tuple #[.slice R1 lo2.length r1, .slice R2 hi2.length r2, .bool (decide (0 < lo2.length + hi2.length))]) (by simp [results, Tryd.results9, go_sem]; omega) rfl ?_
            rw [HCS.out, HVF.out]
            exact ⟨R1, r1, R2, r2, rfl, HK1.out, HK2.out, below_then HB1.out HB1.out.size HBf.out⟩
    · have hb0 : decide (i < (cols.length : Int)) = false := decide_eq_false hlt
      have e : cols.drop i.toNat = [] := List.drop_eq_nil_of_le (by omega)
      have HVN := Aside0.mk (show bndA (firstF cs) cols [] [] = (lo, hi) by rw [← HG.out.1, e]; rfl)
      clear e hlt i0 i1 i2 q0 q1
      go_upto_region 16 with (fail)
      obtain ⟨T1, T2, T3⟩ := (HT.out)
      obtain ⟨R1, r1, f1, _, k1⟩ := T_reads T1
      obtain ⟨R2, r2, f2, _, k2⟩ := T_reads T2
      subst f1
      subst f2
      have HK1 := Aside0.mk k1
      have HK2 := Aside0.mk k2
      have HBf := Aside0.mk (HB.out)
      have HVF := Aside0.mk (show bndA (firstF cs) cols [] [] = (lo, hi) from HVN.out)
      have HS := Aside0.mk (show (lo).length ≤ 13 ∧ (hi).length ≤ 13 by have := HG.out.2; have := HI.out; have := HL.out; (try simp only [List.length_append, List.length_singleton]); omega)
      clear T1 T2 T3 k1 k2
      obtain ⟨lo2, hlo2⟩ : ∃ l, lo = l := ⟨_, rfl⟩
      obtain ⟨hi2, hhi2⟩ : ∃ l, hi = l := ⟨_, rfl⟩
      rw [hlo2, hhi2] at HVF HS
      rw [hlo2] at HK1 ⊢
      rw [hhi2] at HK2 ⊢
      clear hlo2 hhi2
      have s1 := HS.out.1
      have s2 := HS.out.2
      go_wp2
      refine bodyPost_ret (v := .tuple #[.slice R1 lo2.length r1, .slice R2 hi2.length r2, .bool (decide (0 < lo2.length + hi2.length))]) (by simp [results, Tryd.results9, go_sem]; omega) rfl ?_
      rw [HCS.out, HVF.out]
      exact ⟨R1, r1, R2, r2, rfl, HK1.out, HK2.out, below_then HB1.out HB1.out.size HBf.out⟩
end Go.Proofs.YthjjolmmdgnjfaaDoor
