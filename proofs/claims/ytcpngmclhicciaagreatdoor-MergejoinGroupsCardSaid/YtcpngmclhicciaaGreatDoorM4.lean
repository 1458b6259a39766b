/- The pairs of rows, the rows of the examples, the groups, and what a round of Join finds. -/
import Derived.Test.YtcpngmclhicciaaGreatDoorM3
import Derived.ArgAppend
import Derived.OrdersIn
import Derived.Maps.AppendAt
import Derived.Test.YtcpngmclhicciaaGreatDoorM1
/- Two rows' values one behind the other: an append to a slice that is full. -/
namespace Go.Proofs.YtcpngmclhicciaaGreatDoor
open Go.RowKit Go.Proofs.YtcpngmclhicciaaGreatDoorW.PrintWords PMergejoinGroups
set_option linter.unusedVariables false
set_option linter.unusedSimpArgs false
theorem cat_step {ops : Array Oper} {o : Oper} {a : Act} {Q : Exit → Act → World → Prop} {Kc : Act → World → Prop} {W : World} (hw : Region.wanted o (yielded ops a.tmps) = true) (s x : Operand)
    (ho : o.op = .call { callee := .builtin .append, args := #[s, x], argTypes := #[27, 27] }) (xs ys : List S42) (A B : Addr) (n m c : Nat) (hs : a.eval s = .slice (some A) n n) (hx : a.eval x = .slice (some B) m c)
    (h1 : 1 ≤ m) (hA : Kd.C k42 W (some A) n xs) (hB : Kd.C k42 W (some B) m ys) (hl : n + m ≤ 1000)
    (h : ∀ A' c' w1, Kd.C k42 w1 (some A') (n + m) (xs ++ ys) → Below W.heap.size W w1 → Kc (a.put o.dst (.slice (some A') (n + m) c')) w1) :
    if Region.wanted o (yielded ops a.tmps) = true then Oper.wp Tryz.prog o a W Kc Q else Kc (a.put o.dst undef) W := by
  obtain ⟨i0, hi, hz0, hz1, hz2⟩ := info_parts info42
  obtain ⟨olds, ro, co⟩ := ReadsRow.inner_ hA
  obtain ⟨news, rn, cn⟩ := ReadsRow.inner_ hB
  have ln : xs.length = n := hA.1
  have lm : ys.length = m := hB.1
  obtain ⟨v', w', hrun, r1, r2⟩ := run_append_arg_grows (P := Tryz.prog) (w := W) 27 o.type 42 i0 _ 3 32 Tryz.underlying27 hi hz0 hz1 hz2 rfl (by decide) A n n olds (by rw [ro.1, ln]; rfl) co B m c news (by rw [rn.1, lm]; rfl) cn (by omega) (by unfold maxLen; omega) (by omega)
  have hO : OwnRow (k42.K w') 42 3 w' W.heap.size v' (xs ++ ys) := ⟨olds ++ news, by rw [List.length_append, ln, lm]; exact r1, Kd.reps_append (ro.imp_ (fun p c hp => by rw [k42_open hp]; exact k42_mk w' p)) (rn.imp_ (fun p c hp => by rw [k42_open hp]; exact k42_mk w' p))⟩
  obtain ⟨A', c', rfl, _, hC⟩ := OwnRow.reads hO
  rw [List.length_append, ln, lm] at hC hrun
  have hC2 : Kd.C k42 w' A' (n + m) (xs ++ ys) := hC
  obtain ⟨ad, rfl, _⟩ := hC2.2.2 (by omega)
  rw [if_pos hw]
  unfold Oper.wp
  unfold execOp
  simp only [ho, resolve, invoke, builtin, Sem.run_bind, Sem.run_pure, Result.andThen_ok, List.map_toArray, List.map_cons, List.map_nil, hs, hx, hrun]
  exact h _ _ _ hC2 (pw_below_grown (Below.refl _ _) none (Nat.le_refl _) r2 (fun k h => by cases h))
end Go.Proofs.YtcpngmclhicciaaGreatDoor
/- 'pairs' of mergejoin, onto nil, at the condition TRUE. -/
namespace Go.Proofs.YtcpngmclhicciaaGreatDoor
open Go.RowKit Go.Proofs.YtcpngmclhicciaaGreatDoorW.PrintWords PMergejoinGroups
set_option linter.unusedVariables false
set_option linter.unusedSimpArgs false
/-- Two factors whose terms 'Mul' multiplies here. -/
structure GP (x y : Fac) : Prop where
  ox : OkF x
  oy : OkF y
  fx : FmtOk x
  c : 0 ≤ cmpA x y
  j : ∀ z ∈ joinR x y, FmtOk z ∧ z.e ≤ 64
  ex : 0 ≤ x.e ∧ x.e ≤ 32
  ey : 0 ≤ y.e ∧ y.e ≤ 32
/-- A row with an annotation of one variable. -/
structure RowOk (w : World) (r : R33) (f : Fac) : Prop where
  vl : 1 ≤ r.vals.length
  vm : r.vals.length ≤ 6
  al : r.ann.2.1 = 1
  ac : Kd.C kT w r.ann.1 1 [⟨1, [f]⟩]
theorem RowOk.later {w w' : World} {r : R33} {f : Fac} (h : RowOk w r f) (hb : Below w.heap.size w w') : RowOk w' r f := ⟨h.vl, h.vm, h.al, Kd.C_below h.ac hb⟩
def RowsOk (w : World) (rows : List R33) (fs : List Fac) : Prop := ∀ i : Int, 0 ≤ i → i < rows.length → RowOk w (rdR rows i) (rdF fs i)
theorem RowsOk.later {w w' : World} {rows : List R33} {fs : List Fac} (h : RowsOk w rows fs) (hb : Below w.heap.size w w') : RowsOk w' rows fs := fun i h0 h1 => (h i h0 h1).later hb
def kO : Kd ((Option Addr × Nat × Nat) × (Option Addr × Nat × Nat)) := Kd.pair kSl kSl
theorem kO_mk (W : World) (ok : Nat → Prop) (A : Option Addr) (n c : Nat) (B : Option Addr) (m d : Nat) : Kd.FK kO W ok ((A, n, c), (B, m, d)) [.slice A n c, .slice B m d] := fun _ _ => ⟨[.slice A n c], [.slice B m d], rfl, rfl, rfl⟩
theorem info33 : (Tryz.prog.info? 33).map (fun i => (i.zero, i.size, i.bytes)) = some (some (.agg #[.slice none 0 0, .slice none 0 0]), 2, 48) := by kernel_rfl
theorem cloneV_calls' (vs : List S42) (n : Nat) (hn : vs.length = n) (ad : Addr) (c : Nat) (w : World) (hl : n ≤ 64) (hA : Kd.C k42 w (some ad) n vs) : Calls Tryz.prog 38 #[.slice (some ad) n c] w (fun e w' => ∃ A c, e = .returned (.slice A n c) ∧ Below w.heap.size w w') := by
  subst hn
  exact (cloneV_calls vs ad c w hl hA).mono fun e w' ⟨A, c', h1, _, _, h4⟩ => ⟨A, c', h1, h4⟩
def LenOkPost (n : Nat) (w : World) (e : Ending) (w' : World) : Prop := ∃ A c, e = .returned (.tuple #[.slice A n c, .int .i64 0]) ∧ Below w.heap.size w w'
set_option maxRecDepth 100000 in
set_option maxHeartbeats 4000000 in
theorem pairs_calls (ls rs : List R33) (fl fr : List Fac) (hll : ls.length ≤ 10) (hlr : rs.length ≤ 10) (hfl : fl.length = ls.length) (hfr : fr.length = rs.length) (hgp : ∀ x ∈ fl, ∀ y ∈ fr, GP x y) (A B : Option Addr) (c d : Nat) (w : World)
    (hA : Kd.C kR w A ls.length ls) (hB : Kd.C kR w B rs.length rs) (hL : RowsOk w ls fl) (hR : RowsOk w rs fr) :
    Calls Tryz.prog 26 #[.slice none 0 0, .slice A ls.length c, .slice B rs.length d, (.agg #[.int .i64 0, .int .i64 0, .int .i64 2, .int .i64 1, .string ⟨#[]⟩, .int .i64 0, .slice none 0 0])] w (LenOkPost (ls.length * rs.length) w) := by
  have hm : ls.length ≤ 9223372036854775807 := hA.2.1
  have hn : rs.length ≤ 9223372036854775807 := hB.2.1
  have HA := Aside0.mk (And.intro hA (And.intro hL (And.intro hll hfl)))
  have HB := Aside0.mk (And.intro hB (And.intro hR (And.intro hlr hfr)))
  have HGP := Aside0.mk hgp
  have HC := Aside0.mk (blk_new w (.cells (#[.int .i64 0, .int .i64 0, .int .i64 2, .int .i64 1, .string ⟨#[]⟩, .int .i64 0, .slice none 0 0]) 45))
  have HW := Aside0.mk (below_alloc (Below.refl w.heap.size w) (.cells (#[.int .i64 0, .int .i64 0, .int .i64 2, .int .i64 1, .string ⟨#[]⟩, .int .i64 0, .slice none 0 0]) 45))
  clear hA hB hL hR hll hlr hgp hfl hfr
  go_enter Tryz.func26, Tryz.ntmps26
  go_upto_region 1 with (fail)
  obtain ⟨gc, hgc⟩ : ∃ g, w.heap.size = g := ⟨_, rfl⟩
  obtain ⟨W1, hW1⟩ : ∃ W2 : World, w.alloc (.cells (#[.int .i64 0, .int .i64 0, .int .i64 2, .int .i64 1, .string ⟨#[]⟩, .int .i64 0, .slice none 0 0]) 45) = W2 := ⟨_, rfl⟩
  rw [hW1] at HC HW ⊢
  have HGC := Aside0.mk hgc
  rw [hgc] at HC ⊢
  clear hW1 hgc
  go_wp2
  go_loopg [0, 11, 13, 14, 15, 16, 19, 25, 45] (ls.length + 1) (fun kq v0 v11 v13 v14 v15 v16 v19 v25 v45 wr => ∃ i : Int, v19 = .int .i64 i ∧ Aside0 (0 ≤ i ∧ i ≤ ls.length ∧ kq = ls.length + 1 - i.toNat) ∧ Aside0 (Below W1.heap.size W1 wr) ∧ Aside0 (∃ E os, os.length = i.toNat * rs.length ∧ T kO 33 wr W1.heap.size E v0 os))
  case atStart => exact ⟨0, rfl, ⟨by omega, by omega, by omega⟩, ⟨Below.refl _ _⟩, ⟨fun _ => False, [], by simp, T_nil _ _ _ _ _ (fun k h => h.elim)⟩⟩
  case round =>
    obtain ⟨i, rfl, HI, HV, HT⟩ := hrel
    obtain ⟨wo, rfl⟩ : ∃ wo : World, wo = wr := ⟨_, rfl⟩
    obtain ⟨i0, i1, i2⟩ := HI.out
    obtain ⟨E, os, hol, hT⟩ := HT.out
    clear HT
    by_cases hlt : i < ls.length
    · have hb : decide (i < (ls.length : Int)) = true := decide_eq_true hlt
      have hWo := below_then HW.out HW.out.size HV.out
      obtain ⟨ad, A0, c0, e1, x0, x1, l0, g0⟩ := at_R HA.out.1 i i0 hlt
      have hrow := HA.out.2.1 i i0 hlt
      have hmem : rdF fl i ∈ fl := rdF_mem i0 (by have := HA.out.2.2.2; omega)
      obtain ⟨r, hre⟩ : ∃ r, rdR ls i = r := ⟨_, rfl⟩
      obtain ⟨f, hfe⟩ : ∃ f, rdF fl i = f := ⟨_, rfl⟩
      rw [hre, hfe] at hrow
      rw [hre] at x0 x1 l0 g0
      rw [hfe] at hmem
      clear hre hfe
      obtain ⟨rv, ra, rn, rc⟩ := r
      obtain ⟨rv1, rv6, ral, rac⟩ := hrow
      dsimp only at x0 x1 l0 g0 rv1 rv6 ral rac
      subst ral
      subst e1
      obtain ⟨va, rfl, _⟩ := g0.2.2 (by omega)
      replace x0 := cell_later hWo x0
      replace x1 := cell_later hWo x1
      have HR := Aside0.mk (And.intro g0 (And.intro rac (And.intro hmem (And.intro rv1 (And.intro rv6 l0)))))
      have HX := Aside0.mk (blk_new wo (.cells #[.slice (some va) rv.length c0, .slice ra 1 rc] 33))
      have HV2 := Aside0.mk (below_alloc HV.out (.cells #[.slice (some va) rv.length c0, .slice ra 1 rc] 33))
      have HE := Aside0.mk (And.intro hol (T_below hT (below_alloc (Below.refl wo.heap.size wo) (.cells #[.slice (some va) rv.length c0, .slice ra 1 rc] 33))))
      have HLT := Aside0.mk (T_lt hT)
      clear hWo g0 rac rv1 rv6 l0 i1 i2 hol hT hmem
      replace hlt := eq_true hlt
      replace i0 := eq_true i0
      go_upto_region 4 with (fail)
      clear x0 x1
      obtain ⟨g, hg⟩ : ∃ g, wo.heap.size = g := ⟨_, rfl⟩
      have HS := Aside0.mk (show (wo.alloc (.cells #[.slice (some va) rv.length c0, .slice ra 1 rc] 33)).heap.size = wo.heap.size + 1 by rw [World.size_alloc])
      obtain ⟨W3, hW3⟩ : ∃ W2 : World, wo.alloc (.cells #[.slice (some va) rv.length c0, .slice ra 1 rc] 33) = W2 := ⟨_, rfl⟩
      rw [hW3] at HX HV2 HE HS ⊢
      rw [hg] at HX HS HLT ⊢
      clear hW3 hg
      have HE2 := Aside0.mk (show T kO 33 W3 W1.heap.size (fun k => E k ∨ k = g) u0 os from T_more HE.out.2 (fun k h => .inl h) (fun k h => by
        rcases h with h | rfl
        · exact HE.out.2.2 k h
        · exact ⟨by have := HS.out; omega, fun he => by have := HLT.out k he; omega⟩))
      go_wp2
      go_loopg [0, 13, 14, 15, 16, 25, 45] (rs.length + 1) (fun kq v0 v13 v14 v15 v16 v25 v45 wi => ∃ j : Int, v25 = .int .i64 j ∧ Aside0 (0 ≤ j ∧ j ≤ rs.length ∧ kq = rs.length + 1 - j.toNat) ∧ Aside0 (Below W1.heap.size W1 wi ∧ wi.heap[g]? = some (.cells #[.slice (some va) rv.length c0, .slice ra 1 rc] 33 (0, 0))) ∧ Aside0 (∃ os : List ((Option Addr × Nat × Nat) × (Option Addr × Nat × Nat)), os.length = i.toNat * rs.length + j.toNat ∧ T kO 33 wi W1.heap.size (fun k => E k ∨ k = g) v0 os))
      case atStart => exact ⟨0, rfl, ⟨by omega, by omega, by omega⟩, ⟨HV2.out, HX.out⟩, ⟨os, by have := HE.out.1; simp; exact this, HE2.out⟩⟩
      case round =>
        clear HE HE2 HX HV2 HV
        obtain ⟨j, rfl, HJ, HV, HT⟩ := hrel
        obtain ⟨wp, rfl⟩ : ∃ wo : World, wo = wr := ⟨_, rfl⟩
        obtain ⟨j0, j1, j2⟩ := HJ.out
        obtain ⟨os2, hol, hT⟩ := HT.out
        clear HT
        by_cases hlj : j < rs.length
        · have hb2 : decide (j < (rs.length : Int)) = true := decide_eq_true hlj
          have hWp := below_then HW.out HW.out.size HV.out.1
          obtain ⟨bd, B0, d0, e1, y0, y1, m0, k0⟩ := at_R HB.out.1 j j0 hlj
          have hrow := HB.out.2.1 j j0 hlj
          have hmem : rdF fr j ∈ fr := rdF_mem j0 (by have := HB.out.2.2.2; omega)
          obtain ⟨r, hre⟩ : ∃ r, rdR rs j = r := ⟨_, rfl⟩
          obtain ⟨q, hqe⟩ : ∃ f, rdF fr j = f := ⟨_, rfl⟩
          rw [hre, hqe] at hrow
          rw [hre] at y0 y1 m0 k0
          rw [hqe] at hmem
          clear hre hqe
          obtain ⟨qv, qa, qn, qc⟩ := r
          obtain ⟨qv1, qv6, qal, qac⟩ := hrow
          dsimp only at y0 y1 m0 k0 qv1 qv6 qal qac
          subst qal
          subst e1
          obtain ⟨vb, rfl, _⟩ := k0.2.2 (by omega)
          replace y0 := cell_later hWp y0
          replace y1 := cell_later hWp y1
          have HP := Aside0.mk (HGP.out f HR.out.2.2.1 q hmem)
          have HQ := Aside0.mk (And.intro k0 (And.intro qac (And.intro qv1 (And.intro qv6 m0))))
          have HLT2 := Aside0.mk (show (os2.length + 1) * 48 ≤ 140737488355328 by
            have h1 := HA.out.2.2.1
            have h2 := HB.out.2.2.1
            have h3 : i.toNat * rs.length ≤ 10 * 10 := Nat.mul_le_mul (by have := HI.out.2.1; omega) h2
            omega)
          have HOL := Aside0.mk hol
          have HY := Aside0.mk (blk_new wp (.cells #[.slice (some vb) qv.length d0, .slice qa 1 qc] 33))
          have HX2 := Aside0.mk (blk_alloc HV.out.2 (.cells #[.slice (some vb) qv.length d0, .slice qa 1 qc] 33))
          have HV2 := Aside0.mk (below_alloc HV.out.1 (.cells #[.slice (some vb) qv.length d0, .slice qa 1 qc] 33))
          have HT2 := Aside0.mk (T_below hT (below_alloc (Below.refl wp.heap.size wp) (.cells #[.slice (some vb) qv.length d0, .slice qa 1 qc] 33)))
          clear hWp hT hol j1 j2 k0 qac qv1 qv6 m0 hmem HV
          replace hlj := eq_true hlj
          replace j0 := eq_true j0
          go_upto_region 7 with (fail)
          clear y0 y1
          obtain ⟨h, hh⟩ : ∃ g, wp.heap.size = g := ⟨_, rfl⟩
          obtain ⟨W4, hW4⟩ : ∃ W2 : World, wp.alloc (.cells #[.slice (some vb) qv.length d0, .slice qa 1 qc] 33) = W2 := ⟨_, rfl⟩
          rw [hW4] at HX2 HY HV2 HT2 ⊢
          rw [hh] at HY ⊢
          clear hW4 hh
          obtain ⟨a0, a1⟩ := box2 HX2.out
          obtain ⟨b0, b1⟩ := box2 HY.out
          have HA1 := Aside0.mk (And.intro a1 b1)
          clear a1 b1
          have hle : rv.length ≤ c0 := HR.out.2.2.2.2.2
          have hne : ¬ (rv.length = 0) := by have := HR.out.2.2.2.1; omega
          have HC9 := Aside0.mk (below_drew HV2.out)
          have HWW := Aside0.mk (below_then HW.out HW.out.size HC9.out)
          have hba := Aside0.mk (below_drew (Below.refl W4.heap.size W4))
          go_region_held3 (fun w' => w'.cell? ⟨g, 0, none⟩ = some (.slice (some va) rv.length c0) ∧ w'.cell? ⟨h, 0, none⟩ = some (.slice (some vb) qv.length d0)) (refine ⟨(by repeat (first | (with_reducible refine cell_dr ?_) | (with_reducible refine cell_al ?_ _) | with_reducible exact a0 | with_reducible exact cell_later hc5.out a0)), (by repeat (first | (with_reducible refine cell_dr ?_) | (with_reducible refine cell_al ?_ _) | with_reducible exact b0 | with_reducible exact cell_later hc5.out b0))⟩) ((refine cat_step (by rfl) (.tmp 37) (.tmp 39) rfl rv qv va vb rv.length qv.length d0 rfl rfl HQ.out.2.2.1 (Kd.C_below HR.out.1 HWW.out) (Kd.C_below HQ.out.1 HWW.out) (by have := HR.out.2.2.2.2.1; have := HQ.out.2.2.2.1; omega) ?_; intro A' c' w5 hC5 hb5; have hc5 := Aside0.mk (below_then hba.out hba.out.size hb5)))
          clear a0 b0 hle hne
          have HC5 := Aside0.mk (And.intro hC5 hc5.out)
          clear hC5 hb5 hc5 hba
          have HV5 := Aside0.mk (below_then HV2.out HV2.out.size HC5.out.2)
          obtain ⟨c1, c2, c3, c4, c5, c6, c7⟩ := box7 (blk_below HC.out HV5.out)
          go_upto_region 9 with (first | (go_at_call 36; (with_reducible refine (Holds_true (some A') _ c' _).mono ?_); rintro e w6 ⟨rfl, hb6⟩; have HB6 := Aside0.mk (below_then HC5.out.2 HC5.out.2.size hb6); have HK6 := Aside0.mk (Kd.C_below HC5.out.1 hb6); clear hb6) | fail)
          clear c1 c2 c3 c4 c5 c6 c7
          have a1 := cell_later HB6.out HA1.out.1
          have b1 := cell_later HB6.out HA1.out.2
          have HW6 := Aside0.mk (below_then HW.out HW.out.size (below_then HV2.out HV2.out.size HB6.out))
          go_upto_region 10 with (first | (go_at_call 37; (with_reducible refine (mul_calls f q HP.out.ox HP.out.oy HP.out.fx HP.out.c HP.out.j HP.out.ex HP.out.ey ra qa rc qc _ (Kd.C_below HR.out.2.1 HW6.out) (Kd.C_below HQ.out.2.1 HW6.out)).mono ?_); rintro e w7 ⟨A7, n7, c7, rfl, hb7⟩; have HB7 := Aside0.mk (below_then HB6.out HB6.out.size hb7); have HK7 := Aside0.mk (Kd.C_below HK6.out hb7); clear hb7) | fail)
          clear a1 b1
          go_upto_region 12 with (fail)
          go_wp2_with (first | (go_at_call 38; (with_reducible refine (cloneV_calls' (rv ++ qv) (rv.length + qv.length) (by simp) A' c' _ (by have := HR.out.2.2.2.2.1; have := HQ.out.2.2.2.1; omega) HK7.out).mono ?_); rintro e w8 ⟨A8, c8, rfl, hb8⟩; have HB8 := Aside0.mk (below_then HB7.out HB7.out.size hb8); have HT8 := Aside0.mk (T_below HT2.out HB8.out); have HV8 := Aside0.mk (below_then HV2.out HV2.out.size HB8.out); clear hb8) | (refine T_append kO (w0 := W1) W1.heap.size (fun k => E k ∨ k = g) (by rfl) (.tmp 56) (.tmp 61) 22 33 (.agg #[.slice none 0 0, .slice none 0 0]) 48 rfl Tryz.underlying22 info33 rfl (by decide) (by omega) _ os2 ((A8, rv.length + qv.length, c8), (A7, n7, c7)) [.slice A8 (rv.length + qv.length) c8, .slice A7 n7 c7] rfl rfl (kO_mk _ _ _ _ _ _ _ _) HT8.out HV8.out HV8.out.size HLT2.out ?_; intro v1 w9 hN1 hb1 hg1 hat1) | fail)
          have HX9 := Aside0.mk (show w9.heap[g]? = some (.cells #[.slice (some va) rv.length c0, .slice ra 1 rc] 33 (0, 0)) from (hg1.block g (lt_of_heap (blk_below HX2.out HB8.out)) (fun he => HT8.out.2 g (.inr rfl) |>.2 he.symm)).trans (blk_below HX2.out HB8.out))
          have HB9 := Aside0.mk hb1
          have HT9 := Aside0.mk (show ∃ os : List ((Option Addr × Nat × Nat) × (Option Addr × Nat × Nat)), os.length = i.toNat * rs.length + (j + 1).toNat ∧ T kO 33 w9 W1.heap.size (fun k => E k ∨ k = g) v1 os from ⟨_, by rw [List.length_append, HOL.out, succ_toNat (of_eq_true j0)]; simp; omega, hN1⟩)
          clear hN1 hb1 hg1 hat1
          have j0' := of_eq_true j0
          have hlj' := of_eq_true hlj
          go_roundg (rs.length + 1 - (j + 1).toNat)
          case measure => have := HJ.out.2.2; omega
          case rel => exact ⟨j + 1, congrArg (Value.int .i64) (wrap_succ j0' hlj' hn), ⟨by omega, by omega, rfl⟩, ⟨HB9.out, HX9.out⟩, HT9⟩
        · have hb2 : decide (j < (rs.length : Int)) = false := decide_eq_false hlj
          have HE3 := Aside0.mk (show ∃ E os, os.length = (i + 1).toNat * rs.length ∧ T kO 33 wp W1.heap.size E u0 os from ⟨_, os2, by rw [hol, succ_toNat (of_eq_true i0), Nat.add_mul]; omega, hT⟩)
          have HV4 := Aside0.mk HV.out.1
          clear j0 j1 j2 hlj HJ hol hT HV
          go_wp2
          have i0' := of_eq_true i0
          have hlt' := of_eq_true hlt
          go_roundg (ls.length + 1 - (i + 1).toNat)
          case measure => have := HI.out.2.2; omega
          case rel => exact ⟨i + 1, congrArg (Value.int .i64) (wrap_succ i0' hlt' hm), ⟨by omega, by omega, rfl⟩, HV4, HE3⟩
    · have hb : decide (i < (ls.length : Int)) = false := decide_eq_false hlt
      obtain ⟨A5, c5, e5, l5, g5⟩ := T_reads hT
      have hol2 : os.length = ls.length * rs.length := by rw [hol, show i.toNat = ls.length by omega]
      rw [hol2] at e5
      subst e5
      clear i0 i1 i2 hlt HI hol hT l5 g5 hol2
      go_wp2
      go_ret2
      exact ⟨A5, c5, rfl, below_then HW.out HW.out.size HV.out⟩
end Go.Proofs.YtcpngmclhicciaaGreatDoor
/- 'rows' of the examples: rows of one number each, each with a variable of its own. -/
namespace Go.Proofs.YtcpngmclhicciaaGreatDoor
open Go.RowKit Go.Proofs.YtcpngmclhicciaaGreatDoorW.PrintWords PMergejoinGroups
set_option linter.unusedVariables false
set_option linter.unusedSimpArgs false
/-- A block that holds one element, read whatever else happens. -/
theorem F_one {α : Type} {d : Kd α} {w : World} {g : Nat} {cs : Array Value} {T : TypeId} {x : α} {ok : Nat → Prop} (h : w.heap[g]? = some (.cells cs T (0, 0))) (hok : ok g) (hK : Kd.FK d w ok x cs.toList) : Kd.F d w ok (some ⟨g, 0, none⟩) 1 [x] := fun W' hW =>
  C_one ((hW g hok (lt_of_heap h)).trans h) (hK W' hW)
def AnnPostF (x : Tm) (w : World) (e : Ending) (w' : World) : Prop := ∃ A c, e = .returned (.slice A 1 c) ∧ 1 ≤ c ∧ Kd.F kT w' (fun k => w.heap.size ≤ k) A 1 [x] ∧ Below w.heap.size w w'
set_option maxRecDepth 100000 in
theorem singleF_calls (x : Fac) (he : x.e = 1) (w : World) : Calls Tryz.prog 40 #[(.agg #[.int .i64 0, .int .i64 x.t, .int .i64 x.s, .slice none 0 0, .int .i64 0, .slice none 0 0, .int .i64 0, .int .i64 0, .int .i64 0, .string ⟨#[]⟩])] w (AnnPostF ⟨1, [x]⟩ w) := by
  obtain ⟨t, s, e⟩ := x
  have he' : e = 1 := he
  subst he'
  go_enter Tryz.func40, Tryz.ntmps40
  go_wp2
  go_ret
  obtain ⟨W1, hW1⟩ : ∃ W1 : World, w.alloc (.cells #[.int .i64 0, .int .i64 t, .int .i64 s, .slice none 0 0, .int .i64 0, .slice none 0 0, .int .i64 0, .int .i64 0, .int .i64 0, .string ⟨#[]⟩] 76) = W1 := ⟨_, rfl⟩
  have hb := below_alloc (Below.refl w.heap.size w) (.cells #[.int .i64 0, .int .i64 t, .int .i64 s, .slice none 0 0, .int .i64 0, .slice none 0 0, .int .i64 0, .int .i64 0, .int .i64 0, .string ⟨#[]⟩] 76)
  have hs : W1.heap.size = w.heap.size + 1 := by rw [← hW1, World.size_alloc]
  rw [hW1] at hb ⊢
  clear hW1
  rw [← hs]
  have h1 := F_one (d := kF) (x := ⟨t, s, 1⟩) (ok := fun k => w.heap.size ≤ k) (blk_alloc (blk_new W1 (.cells #[.int .i64 0, .int .i64 t, .int .i64 s, .slice none 0 0, .int .i64 0, .slice none 0 0, .int .i64 0, .int .i64 0, .int .i64 0, .string ⟨#[]⟩, .int .i64 1] 78)) (.cells #[.int .i64 1, .slice (some ⟨W1.heap.size, 0, none⟩) 1 1] 73)) (by omega) (fun W' _ => rfl)
  have h2 := F_one (d := kT) (x := ⟨1, [⟨t, s, 1⟩]⟩) (ok := fun k => w.heap.size ≤ k) (blk_new1 W1 (.cells #[.int .i64 0, .int .i64 t, .int .i64 s, .slice none 0 0, .int .i64 0, .slice none 0 0, .int .i64 0, .int .i64 0, .int .i64 0, .string ⟨#[]⟩, .int .i64 1] 78) (.cells #[.int .i64 1, .slice (some ⟨W1.heap.size, 0, none⟩) 1 1] 73)) (by omega) (fun W' hW => kT_mk _ ⟨1, [⟨t, s, 1⟩]⟩ (c := 1) (by simp) (h1 W' hW))
  exact ⟨_, 1, rfl, Nat.le_refl _, h2, below_alloc (below_alloc hb _) _⟩
set_option maxRecDepth 100000 in
theorem varF_calls (t s : Int) (ht : 1 ≤ t) (hs : 1 ≤ s) (w : World) : Calls Tryz.prog 27 #[.agg #[.int .i64 t, .int .i64 s]] w (AnnPostF ⟨1, [⟨t, s, 1⟩]⟩ w) := by
  have HX := Aside0.mk (blk_new w (.cells #[.int .i64 t, .int .i64 s] 65))
  have HW := Aside0.mk (below_alloc (Below.refl w.heap.size w) (.cells #[.int .i64 t, .int .i64 s] 65))
  have HT := Aside0.mk (And.intro ht hs)
  clear ht hs
  go_enter Tryz.func27, Tryz.ntmps27
  go_upto_region 1 with (fail)
  obtain ⟨W, hW⟩ : ∃ W : World, w.alloc (.cells #[.int .i64 t, .int .i64 s] 65) = W := ⟨_, rfl⟩
  rw [hW] at HX HW ⊢
  clear hW
  obtain ⟨a0, a1⟩ := box2 HX.out
  go_wp2_with (first | (go_at_call 39; (with_reducible refine (rowValid_calls t s HT.out.1 HT.out.2 _).mono ?_); rintro e w1 ⟨rfl, hb1⟩; replace a0 := cell_later hb1 a0; replace a1 := cell_later hb1 a1) | (go_at_call 40; refine (singleF_calls ⟨t, s, 1⟩ rfl _).mono ?_; rintro e w2 ⟨A2, c2, rfl, l2, g2, hb2⟩) | fail)
  go_ret
  have hx := below_then HW.out HW.out.size hb1
  exact ⟨A2, c2, rfl, l2, Kd.F_mono g2 (fun k hk => Nat.le_trans hx.size hk), below_then hx hx.size hb2⟩
theorem rdR_left {rs : List R33} {p : R33} {k : Int} (h0 : 0 ≤ k) (h1 : k < rs.length) : rdR (rs ++ [p]) k = rdR rs k := by
  unfold rdR
  rw [List.getD_eq_getElem?_getD, List.getD_eq_getElem?_getD, List.getElem?_append_left (by omega)]
theorem rdR_last {rs : List R33} {p : R33} {k : Int} (h : k = rs.length) : rdR (rs ++ [p]) k = p := by
  unfold rdR
  rw [List.getD_eq_getElem?_getD, h]
  simp
/-- The factors of the rows' variables. -/
def fsN (n : Nat) : List Fac := (List.range n).map fun i : Nat => ⟨1, (i : Int) + 1, 1⟩
theorem rdF_fsN {n : Nat} {i : Int} (h0 : 0 ≤ i) (h1 : i < n) : rdF (fsN n) i = ⟨1, i + 1, 1⟩ := by
  unfold rdF fsN
  rw [List.getD_eq_getElem?_getD, List.getElem?_map, List.getElem?_range (by omega)]
  simp
  omega
/-- What is known of the rows made so far. -/
def Made (w : World) (E : Nat → Prop) (l : List Int) (rs : List R33) : Prop := ∀ k : Int, 0 ≤ k → k < rs.length → (rdR rs k).vals = [⟨0, rd l k, ⟨#[]⟩⟩] ∧ (rdR rs k).ann.2.1 = 1 ∧ Kd.F kT w E (rdR rs k).ann.1 1 [⟨1, [⟨1, k + 1, 1⟩]⟩]
def RowsPost (l : List Int) (w : World) (e : Ending) (w' : World) : Prop := ∃ A c rows, e = .returned (.slice A l.length c) ∧ l.length ≤ c ∧ rows.length = l.length ∧ Kd.C kR w' A l.length rows ∧ (∀ k : Int, 0 ≤ k → k < l.length → (rdR rows k).vals = [⟨0, rd l k, ⟨#[]⟩⟩]) ∧ RowsOk w' rows (fsN l.length) ∧ Below w.heap.size w w'
theorem made_step {wo W1 w2 : World} {base : Nat} {v : Value} {A2 : Option Addr} {c2 : Nat} {y : Int} {f : Fac} {E : Nat → Prop} {rs : List R33}
    (hG : W1.heap[wo.heap.size]? = some (.cells #[.int .i64 0, .int .i64 y, .string ⟨#[]⟩] 42 (0, 0))) (hS : W1.heap.size = wo.heap.size + 1) (hV : Below wo.heap.size wo W1) (hT : T kR 33 wo base E v rs)
    (hF : Kd.F kT w2 (fun k => W1.heap.size ≤ k) A2 1 [⟨1, [f]⟩]) (hB : Below W1.heap.size W1 w2) :
    T kR 33 w2 base (fun k => E k ∨ (wo.heap.size ≤ k ∧ k < w2.heap.size)) v rs ∧ Kd.FK kR w2 (fun k => E k ∨ (wo.heap.size ≤ k ∧ k < w2.heap.size)) ⟨[⟨0, y, ⟨#[]⟩⟩], (A2, 1, c2)⟩ [.slice (some ⟨wo.heap.size, 0, none⟩) 1 1, .slice A2 1 c2] ∧ Kd.F kT w2 (fun k => E k ∨ (wo.heap.size ≤ k ∧ k < w2.heap.size)) A2 1 [⟨1, [f]⟩] := by
  have hVB := below_then hV hV.size hB
  have hlt : wo.heap.size < w2.heap.size := by have := hB.size; omega
  refine ⟨T_more (T_below hT hVB) (fun k h => .inl h) (fun k h => ?_), fun W' hW => ?_, fun W' hW => hF W' (fun k hk h2 => hW k (.inr ⟨by omega, h2⟩) h2)⟩
  · rcases h with h | ⟨h, h2⟩
    · exact ⟨Nat.lt_of_lt_of_le (hT.2 k h).1 hVB.size, (hT.2 k h).2⟩
    · exact ⟨h2, fun he => by have := T_lt hT k he; omega⟩
  · have hg : W'.heap[wo.heap.size]? = some (.cells #[.int .i64 0, .int .i64 y, .string ⟨#[]⟩] 42 (0, 0)) := (hW _ (.inr ⟨Nat.le_refl _, hlt⟩) hlt).trans (blk_below hG hB)
    exact kR_mk W' ⟨[⟨0, y, ⟨#[]⟩⟩], (A2, 1, c2)⟩ (c := 1) (Nat.le_refl 1) (C_one hg (k42_mk W' ⟨0, y, ⟨#[]⟩⟩))
set_option maxRecDepth 100000 in
set_option maxHeartbeats 4000000 in
theorem rows_calls (l : List Int) (hl : l.length ≤ 10) (A : Option Addr) (c : Nat) (w : World) (hA : Kd.C (Kd.int .i64) w A l.length l) : Calls Tryz.prog 18 #[.slice A l.length c] w (RowsPost l w) := by
  have hm : l.length ≤ 9223372036854775807 := hA.2.1
  have HA := Aside0.mk (And.intro hA hl)
  clear hA hl
  go_enter Tryz.func18, Tryz.ntmps18
  go_wp2
  go_loopg [3, 4, 5, 8] (l.length + 1) (fun kq v3 v4 v5 v8 wr => ∃ i : Int, v8 = .int .i64 i ∧ Aside0 (0 ≤ i ∧ i ≤ l.length ∧ kq = l.length + 1 - i.toNat) ∧ Aside0 (Below w.heap.size w wr) ∧ Aside0 (∃ E rs, rs.length = i.toNat ∧ T kR 33 wr w.heap.size E v3 rs ∧ Made wr E l rs))
  case atStart => exact ⟨0, rfl, ⟨by omega, by omega, by omega⟩, ⟨Below.refl _ _⟩, ⟨fun _ => False, [], rfl, T_nil _ _ _ _ _ (fun k h => h.elim), fun k h0 h1 => by simp at h1; omega⟩⟩
  case round =>
    obtain ⟨i, rfl, HI, HV, HT⟩ := hrel
    obtain ⟨wo, rfl⟩ : ∃ wo : World, wo = wr := ⟨_, rfl⟩
    obtain ⟨i0, i1, i2⟩ := HI.out
    obtain ⟨E, rs, hrl, hT, hM⟩ := HT.out
    clear HT
    by_cases hlt : i < l.length
    · have hb : decide (i < (l.length : Int)) = true := decide_eq_true hlt
      obtain ⟨kd, f1, k0⟩ := Kd.at_int HA.out.1 i i0 hlt
      obtain ⟨x, hxe⟩ : ∃ x, rd l i = x := ⟨_, rfl⟩
      rw [hxe] at k0
      subst f1
      have HXE := Aside0.mk hxe
      replace k0 := cell_later HV.out k0
      have hw1 : wrap64 (i + 1) = i + 1 := wrap_succ i0 hlt hm
      have HR := Aside0.mk (And.intro hrl (And.intro hT hM))
      have HG := Aside0.mk (blk_new wo (.cells #[.int .i64 0, .int .i64 x, .string ⟨#[]⟩] 42))
      have HV2 := Aside0.mk (below_alloc (Below.refl wo.heap.size wo) (.cells #[.int .i64 0, .int .i64 x, .string ⟨#[]⟩] 42))
      have HS := Aside0.mk (show (wo.alloc (.cells #[.int .i64 0, .int .i64 x, .string ⟨#[]⟩] 42)).heap.size = wo.heap.size + 1 by rw [World.size_alloc])
      have H1 := Aside0.mk (show (1 : Int) ≤ i + 1 by omega)
      clear hxe hrl hT hM i1 i2
      replace hlt := eq_true hlt
      replace i0 := eq_true i0
      obtain ⟨g, hg⟩ : ∃ g, wo.heap.size = g := ⟨_, rfl⟩
      obtain ⟨W1, hW1⟩ : ∃ W2 : World, wo.alloc (.cells #[.int .i64 0, .int .i64 x, .string ⟨#[]⟩] 42) = W2 := ⟨_, rfl⟩
      have HGE := Aside0.mk hg
      have HWE := Aside0.mk hW1
      rw [hW1] at HG HV2 HS
      clear hg hW1
      go_wp2_with (first | (go_at_call 27; rw [HWE.out]; (with_reducible refine (varF_calls 1 (i + 1) (by decide) H1.out _).mono ?_); rintro e w2 ⟨A2, c2, rfl, l2, g2, hb2⟩; have HF := Aside0.mk (And.intro g2 hb2); clear g2 hb2; have HN := Aside0.mk (made_step (wo := wo) (W1 := W1) (w2 := w2) (base := w.heap.size) (v := u3) (A2 := A2) (c2 := c2) (y := x) (f := ⟨1, i + 1, 1⟩) (E := E) (rs := rs) HG.out HS.out HV2.out HR.out.2.1 HF.out.1 HF.out.2); have HV4 := Aside0.mk (below_then HV.out HV.out.size (below_then HV2.out HV2.out.size HF.out.2))) | (refine T_append kR (w0 := w) w.heap.size (fun k => E k ∨ (wo.heap.size ≤ k ∧ k < w2.heap.size)) (by rfl) (.tmp 13) (.tmp 22) 22 33 (.agg #[.slice none 0 0, .slice none 0 0]) 48 rfl Tryz.underlying22 info33 rfl (by decide) (by omega) u3 rs ⟨[⟨0, x, ⟨#[]⟩⟩], (A2, 1, c2)⟩ [.slice (some ⟨wo.heap.size, 0, none⟩) 1 1, .slice A2 1 c2] rfl rfl HN.out.2.1 HN.out.1 HV4.out HV4.out.size (by have := HR.out.1; have := HA.out.2; have := HI.out.2.1; omega) ?_; intro v1 w4 hN1 hb1 hg1 hat1) | fail)
      have HM := Aside0.mk (show ∃ E rs', rs'.length = (i + 1).toNat ∧ T kR 33 w4 w.heap.size E v1 rs' ∧ Made w4 E l rs' from by
        have hok : ∀ k, E k ∨ (wo.heap.size ≤ k ∧ k < w2.heap.size) → some k ≠ u3.ownBlock := fun k hk he => (HN.out.1.2 k hk).2 he.symm
        have hVB := below_then HV2.out HV2.out.size HF.out.2
        refine ⟨_, rs ++ [⟨[⟨0, x, ⟨#[]⟩⟩], (A2, 1, c2)⟩], by rw [List.length_append, HR.out.1, succ_toNat (of_eq_true i0)]; rfl, hN1, fun k h0 h1 => ?_⟩
        rw [List.length_append, HR.out.1] at h1
        by_cases hk : k < rs.length
        · rw [rdR_left h0 hk]
          obtain ⟨q1, q2, q3⟩ := HR.out.2.2 k h0 hk
          exact ⟨q1, q2, Kd.F_grown (Kd.F_mono (Kd.F_below q3 hVB) (fun k h => .inl h)) hg1 hok⟩
        · have h5 := of_eq_true i0
          have h6 := HR.out.1
          have hki : k = i := by simp at h1; omega
          rw [rdR_last (by omega), hki, HXE.out]
          exact ⟨rfl, rfl, Kd.F_grown HN.out.2.2 hg1 hok⟩)
      have HB4 := Aside0.mk hb1
      clear hN1 hb1 hg1 hat1 k0 hw1
      have i0' := of_eq_true i0
      have hlt' := of_eq_true hlt
      go_roundg (l.length + 1 - (i + 1).toNat)
      case measure => have := HI.out.2.2; omega
      case rel => exact ⟨i + 1, congrArg (Value.int .i64) (wrap_succ i0' hlt' hm), ⟨by omega, by omega, rfl⟩, HB4, HM⟩
    · have hb : decide (i < (l.length : Int)) = false := decide_eq_false hlt
      obtain ⟨A5, c5, e5, l5, g5⟩ := T_reads hT
      have hll : rs.length = l.length := by omega
      have HE := Aside0.mk (And.intro hll (And.intro g5 hM))
      have HL5 := Aside0.mk (show l.length ≤ c5 from hll ▸ l5)
      rw [hll] at e5
      subst e5
      clear i0 i1 i2 hlt HI hrl hT l5 g5 hM
      go_wp2
      go_ret
      have h1 := HE.out.1
      refine ⟨A5, c5, rs, rfl, HL5.out, h1, by rw [← h1]; exact HE.out.2.1, fun k h0 h2 => (HE.out.2.2 k h0 (by omega)).1, fun k h0 h2 => ?_, HV.out⟩
      obtain ⟨q1, q2, q3⟩ := HE.out.2.2 k h0 h2
      exact ⟨by rw [q1]; simp, by rw [q1]; simp, q2, by rw [rdF_fsN h0 (by omega)]; exact Kd.F_now q3⟩
end Go.Proofs.YtcpngmclhicciaaGreatDoor
/- A drawn region inside a round of a range over a function: by the plain laws. -/
namespace Go.Proofs.YtcpngmclhicciaaGreatDoor
open Go.RowKit Go.Proofs.YtcpngmclhicciaaGreatDoorW.PrintWords PMergejoinGroups
set_option linter.unusedVariables false
set_option linter.unusedSimpArgs false
section
variable {P : Program} {ops : Array Oper} {Q : Exit → Act → World → Prop} {md : Region.Mode} {l n : Nat}
theorem uponIn_round {o : Oper} {a : Act} {K : Act → World → Prop} {r : Result Next} (h : o.upon P a K Q r) : o.uponIn (Fence.wide.inRound l) n P a K Q r := by
  have hd : ((Fence.wide.inRound l).depth.isSome = true → 1 ≤ n) := fun h => by simp [Fence.wide] at h
  cases r with
  | ok x w' =>
    cases x with
    | value v => exact h
    | skip => exact h
    | defer d => exact h
    | enter f args => exact ⟨hd, ((callsIn_wide (n := n - 1)).2 h).inRound l⟩
    | row row args => exact ⟨hd, fun c cs _ => by
        obtain ⟨v, w'', h1, h2⟩ := h c cs
        exact ⟨v, w'', h1, stepsIn_wide.2 h2⟩⟩
    | _ => exact (show False from h).elim
  | halt x w' => cases x <;> first | exact h | exact h.elim
theorem wpIn_round {o : Oper} {a : Act} {w : World} {K : Act → World → Prop} (hd : ∀ c, o.op ≠ .defer c) (h : o.wp P a w K Q) : o.wpIn (Fence.wide.inRound l) n P a w K Q :=
  ⟨fun _ _ => trivial, by rw [Oper.semAt_eq _ _ _ hd]; exact uponIn_round h⟩
theorem wpAnyIn_round (hd : ∀ (i : Nat) (o : Oper), ops[i]? = some o → ∀ c, o.op ≠ .defer c) (hQ : ¬ LetsOut Q) : ∀ (fuel : Nat) (listed : Array Bool) (a : Act) (w : World), wpAny P md ops Q fuel listed a w → wpAnyIn (Fence.wide.inRound l) n P md ops Q fuel listed a w
  | 0, _, _, _, h => h
  | fuel + 1, listed, a, w, h => ⟨h.1, fun i hi => by
      have h2 := h.2 i hi
      unfold wpOp at h2
      unfold wpOpIn
      cases ho : ops[i]? with
      | none => rw [ho] at h2; exact wpAnyIn_round hd hQ fuel _ _ _ h2
      | some o =>
        rw [ho] at h2
        dsimp only at h2 ⊢
        split
        · rename_i hw
          rw [if_pos hw] at h2
          rcases h2 with h2 | h2
          · exact wpIn_round (hd i o ho) (Oper.wp_mono (fun a' w' h' => wpAnyIn_round hd hQ fuel _ a' w' h') h2)
          · exact absurd h2.2 hQ
        · rename_i hw
          rw [if_neg hw] at h2
          exact ⟨fun _ _ => trivial, wpAnyIn_round hd hQ fuel _ _ _ h2⟩⟩
theorem wpIn_region_held_drew {S : World → Prop} {id : Nat} {a : Act} {w : World} (hm : P.follows .mixedOrders = true) (hd : ∀ (i : Nat) (o : Oper), ops[i]? = some o → ∀ c, o.op ≠ .defer c) (hQ : ¬ LetsOut Q) (hS : S w.drew)
    (h : S w.drew → wpAnyH P .any ops Q S ops.size (Array.replicate ops.size false) a w.drew) : (Code.region id ops true).wpIn (Fence.wide.inRound l) n P Q a w :=
  wpIn_region_any hm (wpAnyIn_round hd hQ _ _ _ _ (wpAny_of_held _ _ _ _ (h hS)))
end
end Go.Proofs.YtcpngmclhicciaaGreatDoor
/- 'groups' of package mergejoin: the iterator made; 'Groups'. -/
namespace Go.Proofs.YtcpngmclhicciaaGreatDoor
open Go.RowKit Go.Proofs.YtcpngmclhicciaaGreatDoorW.PrintWords PMergejoinGroups
set_option linter.unusedVariables false
set_option linter.unusedSimpArgs false
attribute [local go_sem] Oper.semAt_some
set_option maxRecDepth 100000 in
theorem groups_calls (A B : Option Addr) (n m c d : Nat) (w : World) :
    Calls Tryz.prog 19 #[.slice A n c, .slice B m d] w fun e w' => e = .returned (.func (.func 28) #[] #[.pointer (some ⟨w.heap.size, 0, none⟩), .pointer (some ⟨w.heap.size + 1, 0, none⟩)]) ∧ w' = (w.alloc (.cells #[.slice A n c] 22)).alloc (.cells #[.slice B m d] 23) := by
  go_enter Tryz.func19, Tryz.ntmps19
  go_wp2
  go_ret
  exact ⟨rfl, rfl⟩
theorem groups_stops (rows : List R33) (ks : List Int) (A B : Option Addr) (c d g1 g2 n : Nat) (w w0 : World) (hb : Below w.heap.size w w0) (hg1 : w0.heap[g1]? = some (.cells #[.slice A rows.length c] 22 (0, 0))) (hg2 : w0.heap[g2]? = some (.cells #[.slice B ks.length d] 23 (0, 0)))
    (hk : ks.length ≤ 6) (hok : ∀ r ∈ rows, keyOkB r.vals ks) (hA : Kd.C kR w A rows.length rows) (hB : Kd.C (Kd.int .i64) w B ks.length ks) :
    SeqStopsK Fence.wide n Tryz.prog 28 #[.pointer (some ⟨g1, 0, none⟩), .pointer (some ⟨g2, 0, none⟩)] (fun x : Int × Int => #[Value.agg #[.int .i64 x.1, .int .i64 x.2]]) (KpG w.heap.size g1 g2) (fun ys => ys = grps rows ks rows.length 0) (fun _ => True) rows.length w0 := by
  intro l J Jx W hW hJ _ hY h0
  refine callsIn_wide.2 (clo28_calls rows ks A B c d g1 g2 l n w W J Jx _ hJ hY (hb.trans (hW.mono hb.size)) ?_ ?_ hk hok hA hB h0)
  · rw [hW.block _ (lt_of_heap hg1), hg1]
  · rw [hW.block _ (lt_of_heap hg2), hg2]
theorem info3 : (Tryz.prog.info? 3).map (fun i => (i.zero, i.size, i.bytes)) = some (some (.int .i64 0), 1, 8) := by kernel_rfl
/-- The groups' beginnings. -/
def begs (rows : List R33) (ks : List Int) : List Int := (grps rows ks rows.length 0).map (·.1)
theorem cells_own {X Y : World} {B : Nat} {cs : Array Value} {t : TypeId} {f : Nat × Nat} {row : Option Nat} (h : X.heap[B]? = some (.cells cs t f)) (hg : X.grownBy Y row) (hr : ∀ r, row = some r → ∃ o : Obj, X.heap[r]? = some o ∧ o.isCells = false) : Y.heap[B]? = some (.cells cs t f) := by
  rw [hg.block B (lt_of_heap h) (fun e => ?_)]
  · exact h
  · obtain ⟨o, ho, hc⟩ := hr B e.symm
    rw [h] at ho
    cases ho
    cases hc
theorem kpG_b {w0 : World} {n₀ g1 g2 : Nat} (h0 : n₀ ≤ w0.heap.size) (h1 : g1 < w0.heap.size) (h2 : g2 < w0.heap.size) (W : World) (l : Nat) (o o' : Obj) (hl : w0.heap.size ≤ l) (h : W.heap[l]? = some o) (hc : o.isCells = false) (hw : o.isWalk = false) : KpG n₀ g1 g2 W (W.putObj l o') :=
  ⟨belowK_b h0 W l o o' hl h hc hw, World.putObj_heap_other (by omega), World.putObj_heap_other (by omega)⟩
def IG (n₀ g : Nat) (w : World) (va vb : Value) (pre : List (Int × Int)) (W : World) : Prop :=
  ((∃ v, Boxed W n₀ 23 v ∧ W.ownsRow n₀ 3 1 v pre.length (pre.map fun x => Value.int .i64 x.1) ∧ True) ∧ (Boxed W g 22 va ∧ Boxed W (g + 1) 23 vb)) ∧ Below n₀ w W
def AxG (n₀ g : Nat) (va vb : Value) (x : Int × Int) (a' : Act) (W : World) : Prop :=
  ∃ Bx, g + 1 < Bx ∧ W.heap[Bx]? = some (.cells #[.int .i64 x.1, .int .i64 x.2] 54 (0, 0)) ∧ a' = { tmps := #[va, vb, undef, undef, .slice none 0 0, .pointer (some ⟨n₀, 0, none⟩), .pointer (some ⟨Bx, 0, none⟩), va, vb, .bool true, va, vb, .func (.func 28) #[] #[.pointer (some ⟨g, 0, none⟩), .pointer (some ⟨g + 1, 0, none⟩)], .agg #[.int .i64 x.1, .int .i64 x.2], undef, undef, undef, undef, undef, undef], defers := [] }
set_option maxRecDepth 100000 in
set_option maxHeartbeats 4000000 in
theorem Groups_in (n : Nat) (hn : 3 ≤ n) (rows : List R33) (ks : List Int) (A B : Option Addr) (c d : Nat) (w : World) (hk : ks.length ≤ 6) (hl : rows.length ≤ 10) (hs : sortedB rows ks = true) (hok : ∀ r ∈ rows, keyOkB r.vals ks) (hA : Kd.C kR w A rows.length rows) (hB : Kd.C (Kd.int .i64) w B ks.length ks) :
    CallsIn Fence.wide n Tryz.prog 7 #[.slice A rows.length c, .slice B ks.length d] w fun e W' => ∃ v, e = .returned v ∧ W'.ownsRow w.heap.size 3 1 v (grps rows ks rows.length 0).length ((grps rows ks rows.length 0).map fun x => Value.int .i64 x.1) ∧ Below w.heap.size w W' := by
  have hro : Fence.wide.round = none := rfl
  have h1 : 1 ≤ n := by omega
  obtain ⟨i0, hi, hz0, hz1, hz2⟩ := info_parts info3
  have HA := Aside0.mk (And.intro hA hB)
  have HO := Aside0.mk (And.intro hk (And.intro hl (And.intro hs hok)))
  clear hA hB hk hl hs hok
  refine callsIn_of_wp_marks Tryz.func7 rfl trivial ?_ hro
  simp only [Tryz.ntmps7, List.size_toArray, List.length_cons, List.length_nil, Nat.reduceAdd, Nat.reduceSub, Array.replicate_succ, Array.replicate_zero, List.push_toArray, List.append_toArray, List.nil_append, List.cons_append]
  have hB0 := below_alloc (Below.refl w.heap.size w) (.cells #[.slice none 0 0] 23)
  gi_wp2_with (first | (refine ⟨trivial, ?_⟩; gi_at_call 5; (with_reducible refine (callsIn_wide.2 (sorted_calls rows ks A B c d _ HO.out.1 (Kd.C_below HA.out.1 hB0) (Kd.C_below HA.out.2 hB0))).mono ?_); rintro e w1 ⟨rfl, hb1⟩; rw [HO.out.2.2.1]) | (refine ⟨trivial, ?_⟩; gi_at_call 19; (with_reducible refine (callsIn_wide.2 (groups_calls A B rows.length ks.length c d _)).mono ?_); rintro e w2 ⟨rfl, rfl⟩) | fail)
  have hsz : w1.heap.size > w.heap.size := by have := hb1.size; rw [World.size_alloc] at this; omega
  have bO : Boxed w1 w.heap.size 23 (.slice none 0 0) := (hb1.block _ (by rw [World.size_alloc]; omega)).trans (Boxed.new w 23 (.slice none 0 0))
  have bA := (Boxed.new w1 22 (.slice A rows.length c)).alloc (.cells #[.slice B ks.length d] 23)
  have bB := Boxed.new (w1.alloc (.cells #[.slice A rows.length c] 22)) 23 (.slice B ks.length d)
  have bO2 := (bO.alloc (.cells #[.slice A rows.length c] 22)).alloc (.cells #[.slice B ks.length d] 23)
  have hBW := below_alloc (below_alloc (below_then hB0 hB0.size hb1) (.cells #[.slice A rows.length c] 22)) (.cells #[.slice B ks.length d] 23)
  have hs0 : ((w1.alloc (.cells #[.slice A rows.length c] 22)).alloc (.cells #[.slice B ks.length d] 23)).heap.size = w1.heap.size + 2 := by simp
  rw [World.size_alloc] at bB
  obtain ⟨W0, hW0⟩ : ∃ W0, (w1.alloc (.cells #[.slice A rows.length c] 22)).alloc (.cells #[.slice B ks.length d] 23) = W0 := ⟨_, rfl⟩
  rw [hW0] at bA bB bO2 hBW hs0 ⊢
  clear hW0 bO
  obtain ⟨g, hg⟩ : ∃ g, w1.heap.size = g := ⟨_, rfl⟩
  rw [hg] at bA bB hs0 hsz ⊢
  clear hg
  obtain ⟨n₀, hn₀⟩ : ∃ k, w.heap.size = k := ⟨_, rfl⟩
  have hst := groups_stops rows ks A B c d g (g + 1) (n - 1) w W0 hBW bA bB HO.out.1 HO.out.2.2.2 HA.out.1 HA.out.2
  rw [hn₀] at bO2 hBW hsz hst ⊢
  refine wpIn_rangeFunc_ownH hro h1 (gf := 28) (lb := #[.pointer (some ⟨g, 0, none⟩), .pointer (some ⟨g + 1, 0, none⟩)]) rfl trivial (enters_of Tryz.func28 (by kernel_rfl) rfl)
    hst KpG.trans (kpG_b (by omega) (by omega) (by omega)) (Below.refl _ _) (fun _ => rfl)
    (IG n₀ g w (.slice A rows.length c) (.slice B ks.length d))
    (fun _ _ _ => False)
    (OwnFrom.and (OwnFrom.and (Own.from (holdsRow_own n₀ n₀ 23 3 1 (fun pre : List (Int × Int) => pre.length) (fun pre => pre.map fun x => Value.int .i64 x.1) (fun pre v => True)) _) (OwnFrom.and (Own.from (boxed_own g 22 (fun _ => .slice A rows.length c)) _) (Own.from (boxed_own (g + 1) 23 (fun _ => .slice B ks.length d)) _))) (ownFrom_below (by omega) (by omega)))
    (fun _ _ _ _ _ hs _ _ => hs)
    ⟨⟨⟨_, bO2, World.ownsRow_nil _ _ _ _, trivial⟩, bA, bB⟩, hBW⟩
    (AxG n₀ g (.slice A rows.length c) (.slice B ks.length d))
    (fun x a' _ X Y row hs hg hr => by obtain ⟨Bx, h1, h2, h3⟩ := hs; exact ⟨Bx, h1, cells_own h2 hg (fun r e => (hr r e).2), h3⟩)
    ?assign ?body ?done ?stop
  case assign =>
    rintro l pre x W K ⟨⟨⟨v, bv, hrow, _⟩, bA1, bB1⟩, hB1⟩ hK
    gi_wp2
    have hsw := hB1.size
    exact hK _ _ ((KeepsOthers.alloc _ _).from _) ⟨(Below.refl _ W).alloc (by omega) _, Below.heap_alloc W _ g bA1.lt, Below.heap_alloc W _ (g + 1) bB1.lt⟩ ⟨⟨⟨v, bv.alloc _, hrow.alloc _, trivial⟩, bA1.alloc _, bB1.alloc _⟩, hB1.alloc (by omega) _⟩ ⟨W.heap.size, bB1.lt, blk_new W _, rfl⟩
  case body =>
    rintro l pre x a' W hl ⟨r, hr⟩ ⟨⟨⟨v, hv, hrow, _⟩, bA1, bB1⟩, hB1⟩ ⟨Bx, hBx, bX, rfl⟩ hlt
    have hsw := hB1.size
    have hc := hv.cell
    obtain ⟨z0, z1⟩ := box2 bX
    have hlen := HO.out.2.1
    have hnw : n₀ ≤ W.heap.size := by omega
    gi_wp2_with (gi_at_builtin; refine wpListIn_append_own _ rfl _ _ 23 rfl n₀ 3 i0 (.int .i64 0) 1 8 Tryz.underlying23 hi hz0 hz1 hz2 rfl (by decide) _ _ _ rfl (hrow.alloc _) ⟨W.heap.size, 0, none⟩ 1 1 [.int .i64 x.1] rfl rfl (cell_one_new _ _ _) (by simp [Value.oneCell']) (by have : maxLen = 9223372036854775807 := rfl; omega) (by omega) (by rw [World.size_alloc]; omega) ?_; intro v' w1 hown' hgrow _; obtain ⟨g', cap', rfl⟩ := ownsRow_succ hown'; obtain ⟨hv1, hv2, hr2, hk2, hb2⟩ := hv.appended (by decide) hrow hnw (Nat.le_refl _) hown' hgrow; have hc1 := hv1.cell; have hf1 := hv1.frozen)
    have kA := ((bA1.alloc _).kept hgrow (bA1.not_row (by decide) hrow)).other (B' := n₀) (by omega) (.slice (some ⟨g', 0, none⟩) (pre.length + 1) cap')
    have kB := ((bB1.alloc _).kept hgrow (bB1.not_row (by decide) hrow)).other (B' := n₀) (by omega) (.slice (some ⟨g', 0, none⟩) (pre.length + 1) cap')
    exact ⟨hk2.from _, ⟨hb2, kA.trans bA1.symm, kB.trans bB1.symm⟩, ⟨⟨_, hv2, by simpa using hr2, trivial⟩, kA, kB⟩, hB1.trans hb2⟩
  case done =>
    rintro D ys W hD rfl ⟨⟨⟨v, hv, hrow, _⟩, bA1, bB1⟩, hB1⟩ hK
    have hc := hv.cell
    subst hn₀
    gi_wp2
    refine ⟨by simp, .inl ⟨_, _, rfl, run_takeDeferred hK, ?_⟩⟩
    exact ⟨_, results_tmp rfl _ _ _, v, rfl, ownsRow_putObj hrow _ hK rfl, hB1.trans (belowK_b (w := w) (by omega) W D _ _ (by omega) hK rfl rfl)⟩
  case stop =>
    rintro D c pre W _ _ h _
    exact h.elim
end Go.Proofs.YtcpngmclhicciaaGreatDoor
/- The iterator over groups yields groups alone; 'pairs' without rows on the right. -/
namespace Go.Proofs.YtcpngmclhicciaaGreatDoor
open Go.RowKit Go.Proofs.YtcpngmclhicciaaGreatDoorW.PrintWords PMergejoinGroups
set_option linter.unusedVariables false
set_option linter.unusedSimpArgs false
abbrev Gr (rows : List R33) (ks : List Int) : Type := { x : Int × Int // x ∈ grps rows ks rows.length 0 }
theorem groups_stopsP (rows : List R33) (ks : List Int) (A B : Option Addr) (c d g1 g2 n : Nat) (w w0 : World) (hb : Below w.heap.size w w0) (hg1 : w0.heap[g1]? = some (.cells #[.slice A rows.length c] 22 (0, 0))) (hg2 : w0.heap[g2]? = some (.cells #[.slice B ks.length d] 23 (0, 0)))
    (hk : ks.length ≤ 6) (hok : ∀ r ∈ rows, keyOkB r.vals ks) (hA : Kd.C kR w A rows.length rows) (hB : Kd.C (Kd.int .i64) w B ks.length ks) :
    SeqStopsK Fence.wide n Tryz.prog 28 #[.pointer (some ⟨g1, 0, none⟩), .pointer (some ⟨g2, 0, none⟩)] (fun x : Gr rows ks => #[Value.agg #[.int .i64 x.val.1, .int .i64 x.val.2]]) (KpG w.heap.size g1 g2) (fun ys => ys.map (·.val) = grps rows ks rows.length 0) (fun _ => True) rows.length w0 := by
  intro l J Jx W hW hJ _ hY h0
  refine callsIn_wide.2 ((clo28P_calls rows ks A B c d g1 g2 l n w W (fun pre W => ∃ ys : List (Gr rows ks), ys.map (·.val) = pre ∧ J ys W) (fun pre W => ∃ ys : List (Gr rows ks), ys.map (·.val) = pre ∧ Jx ys W) W.heap.size ?_ ?_ (hb.trans (hW.mono hb.size)) ?_ ?_ hk hok hA hB ⟨[], rfl, h0⟩).mono ?_)
  · rintro s A' B' row ⟨ys, h1, h2⟩ hg hr
    exact ⟨ys, h1, hJ ys A' B' row h2 hg hr⟩
  · rintro pre x W1 ⟨ys, rfl, hj⟩ hlen ⟨post, hpost⟩
    have hx : x ∈ grps rows ks rows.length 0 := by rw [hpost]; simp
    refine (hY ys ⟨x, hx⟩ W1 hj (by simpa using hlen)).mono ?_
    rintro e W' (⟨h1, h2, h3⟩ | ⟨h1, h2⟩)
    · exact .inl ⟨h1, ⟨_, by simp, h2⟩, h3⟩
    · exact .inr ⟨h1, ⟨_, by simp, h2⟩⟩
  · rw [hW.block _ (lt_of_heap hg1), hg1]
  · rw [hW.block _ (lt_of_heap hg2), hg2]
  · rintro e W' ⟨h1, ⟨ys, rfl, zs, h3, h4⟩ | ⟨pre, _, zs, h3, h4⟩⟩
    · exact ⟨h1, .inl ⟨zs, h3, h4⟩⟩
    · exact ⟨h1, .inr ⟨zs, trivial, h4⟩⟩
def SamePost (v : Value) (w : World) (e : Ending) (w' : World) : Prop := e = .returned (.tuple #[v, .int .i64 0]) ∧ Below w.heap.size w w'
set_option maxRecDepth 100000 in
set_option maxHeartbeats 4000000 in
theorem pairs_none (v : Value) (ls : List R33) (A B : Option Addr) (c d : Nat) (w : World) (hA : Kd.C kR w A ls.length ls) : Calls Tryz.prog 26 #[v, .slice A ls.length c, .slice B 0 d, (.agg #[.int .i64 0, .int .i64 0, .int .i64 2, .int .i64 1, .string ⟨#[]⟩, .int .i64 0, .slice none 0 0])] w (SamePost v w) := by
  have hm : ls.length ≤ 9223372036854775807 := hA.2.1
  have HA := Aside0.mk hA
  have HW := Aside0.mk (below_alloc (Below.refl w.heap.size w) (.cells (#[.int .i64 0, .int .i64 0, .int .i64 2, .int .i64 1, .string ⟨#[]⟩, .int .i64 0, .slice none 0 0]) 45))
  clear hA
  go_enter Tryz.func26, Tryz.ntmps26
  go_upto_region 1 with (fail)
  obtain ⟨gc, hgc⟩ : ∃ g, w.heap.size = g := ⟨_, rfl⟩
  obtain ⟨W1, hW1⟩ : ∃ W2 : World, w.alloc (.cells (#[.int .i64 0, .int .i64 0, .int .i64 2, .int .i64 1, .string ⟨#[]⟩, .int .i64 0, .slice none 0 0]) 45) = W2 := ⟨_, rfl⟩
  rw [hW1] at HW ⊢
  have HGC := Aside0.mk hgc
  rw [hgc]
  clear hW1 hgc
  go_wp2
  go_loopg [0, 11, 13, 14, 15, 16, 19, 25, 45] (ls.length + 1) (fun kq v0 v11 v13 v14 v15 v16 v19 v25 v45 wr => ∃ i : Int, v19 = .int .i64 i ∧ v0 = v ∧ Aside0 (0 ≤ i ∧ i ≤ ls.length ∧ kq = ls.length + 1 - i.toNat) ∧ Aside0 (Below W1.heap.size W1 wr))
  case atStart => exact ⟨0, rfl, rfl, ⟨by omega, by omega, by omega⟩, ⟨Below.refl _ _⟩⟩
  case round =>
    obtain ⟨i, rfl, rfl, HI, HV⟩ := hrel
    obtain ⟨wo, rfl⟩ : ∃ wo : World, wo = wr := ⟨_, rfl⟩
    obtain ⟨i0, i1, i2⟩ := HI.out
    by_cases hlt : i < ls.length
    · have hb : decide (i < (ls.length : Int)) = true := decide_eq_true hlt
      have hWo := below_then HW.out HW.out.size HV.out
      obtain ⟨ad, A0, c0, e1, x0, x1, l0, g0⟩ := at_R HA.out i i0 hlt
      obtain ⟨r, hre⟩ : ∃ r, rdR ls i = r := ⟨_, rfl⟩
      rw [hre] at x0 x1 l0 g0
      subst e1
      replace x0 := cell_later hWo x0
      replace x1 := cell_later hWo x1
      have HV2 := Aside0.mk (below_alloc HV.out (.cells (CsR r A0 c0) 33))
      clear hWo g0 l0 i1 i2 hre
      replace hlt := eq_true hlt
      replace i0 := eq_true i0
      go_upto_region 4 with (fail)
      clear x0 x1
      obtain ⟨g, hg⟩ : ∃ g, wo.heap.size = g := ⟨_, rfl⟩
      obtain ⟨W3, hW3⟩ : ∃ W2 : World, wo.alloc (.cells (CsR r A0 c0) 33) = W2 := ⟨_, rfl⟩
      rw [hW3] at HV2 ⊢
      rw [hg] at ⊢
      clear hW3 hg
      go_wp2
      go_loopg [0, 13, 14, 15, 16, 25, 45] 0 (fun kq v0 v13 v14 v15 v16 v25 v45 wi => v25 = .int .i64 0 ∧ v0 = u0 ∧ Aside0 (W3 = wi))
      case atStart => exact ⟨rfl, rfl, ⟨rfl⟩⟩
      case round =>
        obtain ⟨rfl, rfl, HX⟩ := hrel
        obtain rfl := HX.out
        go_wp2
        have i0' := of_eq_true i0
        have hlt' := of_eq_true hlt
        go_roundg (ls.length + 1 - (i + 1).toNat)
        case measure => have := HI.out.2.2; omega
        case rel => exact ⟨i + 1, congrArg (Value.int .i64) (wrap_succ i0' hlt' hm), rfl, ⟨by omega, by omega, rfl⟩, HV2⟩
    · have hb : decide (i < (ls.length : Int)) = false := decide_eq_false hlt
      clear i0 i1 i2 hlt HI
      go_wp2
      go_ret2
      exact ⟨rfl, below_then HW.out HW.out.size HV.out⟩
end Go.Proofs.YtcpngmclhicciaaGreatDoor
/- The rows of the examples, and what one round of 'Join' does with them. -/
namespace Go.Proofs.YtcpngmclhicciaaGreatDoor
open Go.RowKit Go.Proofs.YtcpngmclhicciaaGreatDoorW.PrintWords PMergejoinGroups
set_option linter.unusedVariables false
set_option linter.unusedSimpArgs false
abbrev Sl := Option Addr × Nat × Nat
/-- The rows of the left side and of the right side. -/
def lsR (a b c : Sl) : List R33 := [⟨[⟨0, 1, ⟨#[]⟩⟩], a⟩, ⟨[⟨0, 2, ⟨#[]⟩⟩], b⟩, ⟨[⟨0, 2, ⟨#[]⟩⟩], c⟩]
def rsR (a b c : Sl) : List R33 := [⟨[⟨0, 2, ⟨#[]⟩⟩], a⟩, ⟨[⟨0, 2, ⟨#[]⟩⟩], b⟩, ⟨[⟨0, 3, ⟨#[]⟩⟩], c⟩]
theorem sorted_ls (a b c : Sl) : sortedB (lsR a b c) [0] = true := by rfl
theorem sorted_rs (a b c : Sl) : sortedB (rsR a b c) [0] = true := by rfl
theorem grps_ls (a b c : Sl) : grps (lsR a b c) [0] 3 0 = [(0, 1), (1, 3)] := by rfl
theorem adv0_1 (a b c : Sl) : adv (rsR a b c) [0] [⟨0, 1, ⟨#[]⟩⟩] 3 0 = 0 := by rfl
theorem adv2_1 (a b c : Sl) : adv (rsR a b c) [0] [⟨0, 1, ⟨#[]⟩⟩] 1 2 = 2 := by rfl
theorem adv0_2 (a b c : Sl) : adv (rsR a b c) [0] [⟨0, 2, ⟨#[]⟩⟩] 3 0 = 0 := by rfl
theorem adv2_2 (a b c : Sl) : adv (rsR a b c) [0] [⟨0, 2, ⟨#[]⟩⟩] 1 2 = 2 := by rfl
/-- Seven blocks one behind the other. -/
theorem seven (w : World) (o0 o1 o2 o3 o4 o5 o6 : Obj) : ∃ W, (((((((w.alloc o0).alloc o1).alloc o2).alloc o3).alloc o4).alloc o5).alloc o6) = W ∧ W.heap[w.heap.size]? = some o0 ∧ W.heap[w.heap.size + 1]? = some o1 ∧ W.heap[w.heap.size + 1 + 1]? = some o2 ∧ W.heap[w.heap.size + 1 + 1 + 1]? = some o3 ∧ W.heap[w.heap.size + 1 + 1 + 1 + 1]? = some o4 ∧ W.heap[w.heap.size + 1 + 1 + 1 + 1 + 1]? = some o5 ∧ W.heap[w.heap.size + 1 + 1 + 1 + 1 + 1 + 1]? = some o6 ∧ W.heap.size = w.heap.size + 7 ∧ Below w.heap.size w W := by
  have nxt : ∀ (W : World) (o : Obj) (k : Nat), W.heap.size = w.heap.size + k → (W.alloc o).heap[w.heap.size + k]? = some o ∧ (W.alloc o).heap.size = w.heap.size + (k + 1) := fun W o k h => by
    rw [← h]
    exact ⟨blk_new W o, by rw [World.size_alloc, h]; omega⟩
  obtain ⟨h0, s0⟩ := nxt w o0 0 rfl
  obtain ⟨h1, s1⟩ := nxt _ o1 1 s0
  obtain ⟨h2, s2⟩ := nxt _ o2 2 s1
  obtain ⟨h3, s3⟩ := nxt _ o3 3 s2
  obtain ⟨h4, s4⟩ := nxt _ o4 4 s3
  obtain ⟨h5, s5⟩ := nxt _ o5 5 s4
  obtain ⟨h6, s6⟩ := nxt _ o6 6 s5
  have hb := below_alloc (below_alloc (below_alloc (below_alloc (below_alloc (below_alloc (below_alloc (Below.refl w.heap.size w) o0) o1) o2) o3) o4) o5) o6
  exact ⟨_, rfl, blk_alloc (blk_alloc (blk_alloc (blk_alloc (blk_alloc (blk_alloc (h0) o1) o2) o3) o4) o5) o6, blk_alloc (blk_alloc (blk_alloc (blk_alloc (blk_alloc (h1) o2) o3) o4) o5) o6, blk_alloc (blk_alloc (blk_alloc (blk_alloc (h2) o3) o4) o5) o6, blk_alloc (blk_alloc (blk_alloc (h3) o4) o5) o6, blk_alloc (blk_alloc (h4) o5) o6, blk_alloc (h5) o6, h6, s6, hb⟩
/-- What 'Join' is called with. -/
structure JArgs (w : World) (ls rs : List R33) (A B KA KB : Option Addr) : Prop where
  l : Kd.C kR w A 3 ls
  r : Kd.C kR w B 3 rs
  kl : Kd.C (Kd.int .i64) w KA 1 [0]
  kr : Kd.C (Kd.int .i64) w KB 1 [0]
  lo : RowsOk w ls (fsN 3)
  ro : RowsOk w rs (fsN 3)
theorem JArgs.later {w w' : World} {ls rs : List R33} {A B KA KB : Option Addr} (h : JArgs w ls rs A B KA KB) (hb : Below w.heap.size w w') : JArgs w' ls rs A B KA KB := ⟨Kd.C_below h.l hb, Kd.C_below h.r hb, Kd.C_below h.kl hb, Kd.C_below h.kr hb, h.lo.later hb, h.ro.later hb⟩
theorem sorted3 (rows : List R33) (hl : rows.length = 3) (hs : sortedB rows [0] = true) (A B : Option Addr) (c d : Nat) (w : World) (hA : Kd.C kR w A 3 rows) (hB : Kd.C (Kd.int .i64) w B 1 [0]) :
    Calls Tryz.prog 5 #[.slice A 3 c, .slice B 1 d] w fun e w' => e = .returned (.bool true) ∧ Below w.heap.size w w' := by
  have h := sorted_calls rows [0] A B c d w (by decide) (by rw [hl]; exact hA) hB
  rw [hl, hs] at h
  exact h
theorem key1_calls (v : S42) (a : Sl) (A B : Option Addr) (c d : Nat) (w : World) (hA : Kd.C k42 w A 1 [v]) (hB : Kd.C (Kd.int .i64) w B 1 [0]) :
    Calls Tryz.prog 24 #[.agg #[.slice A 1 c, .slice a.1 a.2.1 a.2.2], .slice B 1 d] w fun e w' => ∃ A' c', e = .returned (.slice A' 1 c') ∧ Kd.F k42 w' (fun k => w.heap.size ≤ k) A' 1 [v] ∧ Below w.heap.size w w' := by
  have hok : keyOkB [v] [0] := fun k hk => by rw [List.mem_singleton.1 hk]; exact ⟨by decide, by simp⟩
  exact (keyOf_calls ⟨[v], a⟩ A B c d [0] w (by decide) hok hA hB).mono fun e w' ⟨A', c', h1, _, h3, h4⟩ => ⟨A', c', h1, h3, h4⟩
theorem cmp1_calls (u v : S42) (A B : Option Addr) (c d : Nat) (w : World) (hA : Kd.C k42 w A 1 [u]) (hB : Kd.C k42 w B 1 [v]) :
    Calls Tryz.prog 9 #[.slice A 1 c, .slice B 1 d] w fun e w' => e = .returned (.int .i64 (cmpR [u] [v])) ∧ Below w.heap.size w w' := cmprows_calls [u] [v] A B c d w hA hB
theorem adv1_calls (rs : List R33) (hl : rs.length = 3) (hs : keyedB rs [0] = true) (key : S42) (a0 : Int) (h0 : 0 ≤ a0) (h3 : a0 < 3) (ha : adv rs [0] [key] (3 - a0).toNat a0 = a0) (A B D : Option Addr) (c d e : Nat) (w : World) (hA : Kd.C kR w A 3 rs) (hB : Kd.C (Kd.int .i64) w B 1 [0]) (hD : Kd.C k42 w D 1 [key]) :
    Calls Tryz.prog 22 #[.slice A 3 c, .slice B 1 d, .int .i64 a0, .slice D 1 e] w fun e w' => e = .returned (.int .i64 a0) ∧ Below w.heap.size w w' := by
  have h := advance_calls rs [0] [key] A B D c d e a0 w h0 (by omega) (by decide) (keyedB_ok hs) (by rw [hl]; exact hA) hB hD
  rw [hl] at h
  rw [show (((3 : Nat) : Int) - a0) = 3 - a0 from rfl, ha] at h
  exact h
theorem keyed_rs (a b c : Sl) : keyedB (rsR a b c) [0] = true := by rfl
def fac (s : Int) : Fac := ⟨1, s, 1⟩
theorem okF_fac {s : Int} (h : 1 ≤ s) : OkF (fac s) := ⟨show (1 : Int) ≤ 1 by decide, h, show (1 : Int) ≤ 1 by decide, show (1 : Int) ≤ 64 by decide⟩
theorem fmtOk_fac (s e : Nat) (h1 : 1 ≤ s) (h2 : s < 100) (h3 : e < 100) : FmtOk ⟨1, s, e⟩ := ⟨1, s, e, rfl, rfl, rfl, by decide, h1, by decide, h2, h3⟩
theorem gp21 : GP (fac 2) (fac 1) := ⟨okF_fac (by decide), okF_fac (by decide), fmtOk_fac 2 1 (by decide) (by decide) (by decide), by decide, fun z hz => by
  rw [show joinR (fac 2) (fac 1) = [fac 1, fac 2] from by rfl] at hz
  rcases List.mem_cons.1 hz with rfl | hz
  · exact ⟨fmtOk_fac 1 1 (by decide) (by decide) (by decide), by decide⟩
  · rw [List.mem_singleton.1 hz]; exact ⟨fmtOk_fac 2 1 (by decide) (by decide) (by decide), by decide⟩, by decide, by decide⟩
theorem gp22 : GP (fac 2) (fac 2) := ⟨okF_fac (by decide), okF_fac (by decide), fmtOk_fac 2 1 (by decide) (by decide) (by decide), by decide, fun z hz => by
  rw [show joinR (fac 2) (fac 2) = [⟨1, 2, 2⟩] from by rfl] at hz
  rw [List.mem_singleton.1 hz]; exact ⟨fmtOk_fac 2 2 (by decide) (by decide) (by decide), by decide⟩, by decide, by decide⟩
theorem gp31 : GP (fac 3) (fac 1) := ⟨okF_fac (by decide), okF_fac (by decide), fmtOk_fac 3 1 (by decide) (by decide) (by decide), by decide, fun z hz => by
  rw [show joinR (fac 3) (fac 1) = [fac 1, fac 3] from by rfl] at hz
  rcases List.mem_cons.1 hz with rfl | hz
  · exact ⟨fmtOk_fac 1 1 (by decide) (by decide) (by decide), by decide⟩
  · rw [List.mem_singleton.1 hz]; exact ⟨fmtOk_fac 3 1 (by decide) (by decide) (by decide), by decide⟩, by decide, by decide⟩
theorem gp32 : GP (fac 3) (fac 2) := ⟨okF_fac (by decide), okF_fac (by decide), fmtOk_fac 3 1 (by decide) (by decide) (by decide), by decide, fun z hz => by
  rw [show joinR (fac 3) (fac 2) = [fac 2, fac 3] from by rfl] at hz
  rcases List.mem_cons.1 hz with rfl | hz
  · exact ⟨fmtOk_fac 2 1 (by decide) (by decide) (by decide), by decide⟩
  · rw [List.mem_singleton.1 hz]; exact ⟨fmtOk_fac 3 1 (by decide) (by decide) (by decide), by decide⟩, by decide, by decide⟩
theorem gp_all : ∀ x ∈ [fac 2, fac 3], ∀ y ∈ [fac 1, fac 2], GP x y := fun x hx y hy => by
  simp only [List.mem_cons, List.not_mem_nil, or_false] at hx hy
  rcases hx with rfl | rfl <;> rcases hy with rfl | rfl
  · exact gp21
  · exact gp22
  · exact gp31
  · exact gp32
theorem add_two (ad : Addr) : ad.add (1 * 2) = ⟨ad.block, ad.off + 2, none⟩ := by obtain ⟨b, o, k⟩ := ad; rfl
/-- The cuts of the rows. -/
theorem cut_l1 {w : World} {r0 r1 r2 : R33} {ad : Addr} (h : Kd.C kR w (some ad) 3 [r0, r1, r2]) : Kd.C kR w (some ad) 1 [r0] := Kd.C_take (m := 1) (xs := [r0, r1, r2]) h (by simp)
theorem cut_r2 {w : World} {r0 r1 r2 : R33} {ad : Addr} (h : Kd.C kR w (some ad) 3 [r0, r1, r2]) : Kd.C kR w (some ad) 2 [r0, r1] := Kd.C_take (m := 2) (xs := [r0, r1, r2]) h (by simp)
theorem cut_l2 {w : World} {r0 r1 r2 : R33} {ad : Addr} (h : Kd.C kR w (some ad) 3 [r0, r1, r2]) : Kd.C kR w (some ⟨ad.block, ad.off + 2, none⟩) 2 [r1, r2] := by
  have h2 := Kd.C_drop (m := 1) (c := 3) (xs := [r0, r1, r2]) h (by simp) (by simp)
  rw [if_neg (by decide)] at h2
  rw [← add_two ad]
  exact h2
theorem full_calls (a0 a1 a2 b0 b1 b2 : Sl) (ad bd : Addr) (KA KB : Option Addr) (c d : Nat) (w : World) (hJ : JArgs w (lsR a0 a1 a2) (rsR b0 b1 b2) (some ad) (some bd) KA KB) :
    Calls Tryz.prog 26 #[.slice none 0 0, .slice (some ⟨ad.block, ad.off + 2, none⟩) 2 c, .slice (some bd) 2 d, (.agg #[.int .i64 0, .int .i64 0, .int .i64 2, .int .i64 1, .string ⟨#[]⟩, .int .i64 0, .slice none 0 0])] w (LenOkPost 4 w) :=
  pairs_calls [⟨[⟨0, 2, ⟨#[]⟩⟩], a1⟩, ⟨[⟨0, 2, ⟨#[]⟩⟩], a2⟩] [⟨[⟨0, 2, ⟨#[]⟩⟩], b0⟩, ⟨[⟨0, 2, ⟨#[]⟩⟩], b1⟩] [fac 2, fac 3] [fac 1, fac 2] (by simp) (by simp) rfl rfl gp_all _ _ c d w (cut_l2 hJ.l) (cut_r2 hJ.r)
    (fun i h0 h1 => by
      have h3 : i = 0 ∨ i = 1 := by simp at h1; omega
      rcases h3 with rfl | rfl
      · exact hJ.lo 1 (by decide) (by simp [lsR])
      · exact hJ.lo 2 (by decide) (by simp [lsR]))
    (fun i h0 h1 => by
      have h3 : i = 0 ∨ i = 1 := by simp at h1; omega
      rcases h3 with rfl | rfl
      · exact hJ.ro 0 (by decide) (by simp [rsR])
      · exact hJ.ro 1 (by decide) (by simp [rsR]))
end Go.Proofs.YtcpngmclhicciaaGreatDoor
/- The state between two rounds of 'Join', and what a round finds. -/
namespace Go.Proofs.YtcpngmclhicciaaGreatDoor
open Go.RowKit Go.Proofs.YtcpngmclhicciaaGreatDoorW.PrintWords PMergejoinGroups
set_option linter.unusedVariables false
set_option linter.unusedSimpArgs false
abbrev v1 : S42 := ⟨0, 1, ⟨#[]⟩⟩
abbrev v2 : S42 := ⟨0, 2, ⟨#[]⟩⟩
abbrev v3 : S42 := ⟨0, 3, ⟨#[]⟩⟩
/-- The rows joined so far, and where the right side stands. -/
def St (gO gA : Nat) (pre : List (Int × Int)) (W : World) : Prop :=
  (W.heap[gO]? = some (.cells #[.slice none 0 0] 22 (0, 0)) ∧ W.heap[gA]? = some (.cells #[.int .i64 0] 3 (0, 0)) ∧ (1, 3) ∉ pre) ∨
  ∃ A' c', W.heap[gO]? = some (.cells #[.slice A' 4 c'] 22 (0, 0)) ∧ W.heap[gA]? = some (.cells #[.int .i64 2] 3 (0, 0))
/-- What one round finds: the key, the place on the right, the end of the rows with that key, and what 'pairs' does. -/
structure RC (w W : World) (ls rs : List R33) (gO gA : Nat) (pre : List (Int × Int)) (x : Int × Int) (t0 e1 : Int) (key : S42) (oA : Option Addr) (oN oC : Nat) (SL SR : Value) : Prop where
  ho : W.heap[gO]? = some (.cells #[.slice oA oN oC] 22 (0, 0))
  ha : W.heap[gA]? = some (.cells #[.int .i64 t0] 3 (0, 0))
  lrow : ∃ af, rdR ls x.1 = ⟨[key], af⟩
  adv : adv rs [0] [key] (3 - t0).toNat t0 = t0
  t00 : 0 ≤ t0
  te : t0 ≤ e1
  e3 : e1 < 3
  rows : ∀ i : Int, t0 ≤ i → i < 3 → ∃ v b, rdR rs i = ⟨[v], b⟩ ∧ decide (cmpR [v] [key] = 0) = decide (i < e1)
  pairs : ∀ W', Below w.heap.size w W' → Calls Tryz.prog 26 #[.slice oA oN oC, SL, SR, (.agg #[.int .i64 0, .int .i64 0, .int .i64 2, .int .i64 1, .string ⟨#[]⟩, .int .i64 0, .slice none 0 0])] W' fun e w' => ∃ A' n' c', e = .returned (.tuple #[.slice A' n' c', .int .i64 0]) ∧
    (∀ W'' : World, W''.heap[gO]? = some (.cells #[.slice A' n' c'] 22 (0, 0)) → W''.heap[gA]? = some (.cells #[.int .i64 e1] 3 (0, 0)) → St gO gA (pre ++ [x]) W'') ∧ Below W'.heap.size W' w'
theorem three {i : Int} (h0 : 0 ≤ i) (h3 : i < 3) : i = 0 ∨ i = 1 ∨ i = 2 := by omega
theorem rc_cases (a0 a1 a2 b0 b1 b2 : Sl) (ad bd : Addr) (KA KB : Option Addr) (c d : Nat) (w W : World) (hJ : JArgs w (lsR a0 a1 a2) (rsR b0 b1 b2) (some ad) (some bd) KA KB) (gO gA : Nat) (pre : List (Int × Int)) (x : Int × Int) (hx : x ∈ [((0 : Int), (1 : Int)), (1, 3)]) (hst : St gO gA pre W) :
    ∃ oA oN oC,
      (x = (0, 1) ∧ RC w W (lsR a0 a1 a2) (rsR b0 b1 b2) gO gA pre (0, 1) 0 0 v1 oA oN oC (.slice (some ad) 1 (c + 3)) (.slice (some bd) 0 (d + 3))) ∨
      (x = (0, 1) ∧ RC w W (lsR a0 a1 a2) (rsR b0 b1 b2) gO gA pre (0, 1) 2 2 v1 oA oN oC (.slice (some ad) 1 (c + 3)) (.slice (some ⟨bd.block, bd.off + 4, none⟩) 0 (d + 1))) ∨
      (x = (1, 3) ∧ RC w W (lsR a0 a1 a2) (rsR b0 b1 b2) gO gA pre (1, 3) 0 2 v2 oA oN oC (.slice (some ⟨ad.block, ad.off + 2, none⟩) 2 (c + 2)) (.slice (some bd) 2 (d + 3))) ∨
      (x = (1, 3) ∧ RC w W (lsR a0 a1 a2) (rsR b0 b1 b2) gO gA pre (1, 3) 2 2 v2 oA oN oC (.slice (some ⟨ad.block, ad.off + 2, none⟩) 2 (c + 2)) (.slice (some ⟨bd.block, bd.off + 4, none⟩) 0 (d + 1))) := by
  have hrow : ∀ (key : S42) (t0 e1 : Int), 0 ≤ t0 → (t0 ≤ 0 → decide (cmpR [v2] [key] = 0) = decide ((0 : Int) < e1)) → (t0 ≤ 1 → decide (cmpR [v2] [key] = 0) = decide ((1 : Int) < e1)) → (decide (cmpR [v3] [key] = 0) = decide ((2 : Int) < e1)) →
      ∀ i : Int, t0 ≤ i → i < 3 → ∃ v b, rdR (rsR b0 b1 b2) i = ⟨[v], b⟩ ∧ decide (cmpR [v] [key] = 0) = decide (i < e1) := fun key t0 e1 h0 c0 c1 c2 i h1 h2 => by
    rcases three (by omega) h2 with rfl | rfl | rfl
    · exact ⟨v2, b0, rfl, c0 h1⟩
    · exact ⟨v2, b1, rfl, c1 h1⟩
    · exact ⟨v3, b2, rfl, c2⟩
  have l1 : ∀ W', Below w.heap.size w W' → Kd.C kR W' (some ad) 1 [⟨[v1], a0⟩] := fun W' hb => cut_l1 (hJ.later hb).l
  have l2 : ∀ W', Below w.heap.size w W' → Kd.C kR W' (some ⟨ad.block, ad.off + 2, none⟩) 2 [⟨[v2], a1⟩, ⟨[v2], a2⟩] := fun W' hb => cut_l2 (hJ.later hb).l
  simp only [List.mem_cons, List.not_mem_nil, or_false] at hx
  rcases hst with ⟨ho, ha, hn⟩ | ⟨A', c', ho, ha⟩
  · refine ⟨none, 0, 0, ?_⟩
    rcases hx with rfl | rfl
    · refine .inl ⟨rfl, ho, ha, ⟨a0, rfl⟩, adv0_1 b0 b1 b2, by decide, by decide, by decide, hrow v1 0 0 (by decide) (fun _ => by rfl) (fun _ => by rfl) (by rfl), fun W' hb => ?_⟩
      exact (pairs_none (.slice none 0 0) [⟨[v1], a0⟩] _ (some bd) (c + 3) (d + 3) W' (l1 W' hb)).mono fun e w' h => ⟨none, 0, 0, h.1, fun W'' h1 h2 => .inl ⟨h1, h2, fun hm => by
        rcases List.mem_append.1 hm with hm | hm
        · exact hn hm
        · simp at hm⟩, h.2⟩
    · refine .inr (.inr (.inl ⟨rfl, ho, ha, ⟨a1, rfl⟩, adv0_2 b0 b1 b2, by decide, by decide, by decide, hrow v2 0 2 (by decide) (fun _ => by rfl) (fun _ => by rfl) (by rfl), fun W' hb => ?_⟩))
      exact (full_calls a0 a1 a2 b0 b1 b2 ad bd KA KB (c + 2) (d + 3) W' (hJ.later hb)).mono fun e w' ⟨A5, c5, h1, h2⟩ => ⟨A5, 4, c5, h1, fun W'' h3 h4 => .inr ⟨A5, c5, h3, h4⟩, h2⟩
  · refine ⟨A', 4, c', ?_⟩
    rcases hx with rfl | rfl
    · refine .inr (.inl ⟨rfl, ho, ha, ⟨a0, rfl⟩, adv2_1 b0 b1 b2, by decide, by decide, by decide, hrow v1 2 2 (by decide) (fun h => absurd h (by decide)) (fun h => absurd h (by decide)) (by rfl), fun W' hb => ?_⟩)
      exact (pairs_none (.slice A' 4 c') [⟨[v1], a0⟩] _ (some ⟨bd.block, bd.off + 4, none⟩) (c + 3) (d + 1) W' (l1 W' hb)).mono fun e w' h => ⟨A', 4, c', h.1, fun W'' h1 h2 => .inr ⟨A', c', h1, h2⟩, h.2⟩
    · refine .inr (.inr (.inr ⟨rfl, ho, ha, ⟨a1, rfl⟩, adv2_2 b0 b1 b2, by decide, by decide, by decide, hrow v2 2 2 (by decide) (fun h => absurd h (by decide)) (fun h => absurd h (by decide)) (by rfl), fun W' hb => ?_⟩))
      exact (pairs_none (.slice A' 4 c') [⟨[v2], a1⟩, ⟨[v2], a2⟩] _ (some ⟨bd.block, bd.off + 4, none⟩) (c + 2) (d + 1) W' (l2 W' hb)).mono fun e w' h => ⟨A', 4, c', h.1, fun W'' h1 h2 => .inr ⟨A', c', h1, h2⟩, h.2⟩
/-- What holds between two rounds. -/
structure JI (w : World) (p0 p1 p2 p3 p4 p5 p6 gO gA g1 : Nat) (A B KA KB : Option Addr) (c d e f : Nat) (pre : List (Int × Int)) (W : World) : Prop where
  b : Below w.heap.size w W
  k0 : W.heap[p0]? = some (.cells #[.slice A 3 c] 22 (0, 0))
  k1 : W.heap[p1]? = some (.cells #[.slice B 3 d] 22 (0, 0))
  k2 : W.heap[p2]? = some (.cells #[.slice KA 1 e] 23 (0, 0))
  k3 : W.heap[p3]? = some (.cells #[.slice KB 1 f] 23 (0, 0))
  k4 : W.heap[p4]? = some (.cells (#[.int .i64 0, .int .i64 0, .int .i64 2, .int .i64 1, .string ⟨#[]⟩, .int .i64 0, .slice none 0 0]) 45 (0, 0))
  k5 : W.heap[p5]? = some (.cells #[.slice none 0 0] 22 (0, 0))
  k6 : W.heap[p6]? = some (.cells #[.int .i64 0] 46 (0, 0))
  m1 : W.heap[g1]? = some (.cells #[.slice A 3 c] 22 (0, 0))
  m2 : W.heap[g1 + 1]? = some (.cells #[.slice KA 1 e] 23 (0, 0))
  st : St gO gA pre W
theorem st_own {gO gA : Nat} {pre : List (Int × Int)} {X Y : World} {row : Option Nat} (h : St gO gA pre X) (hg : X.grownBy Y row) (hr : ∀ r, row = some r → ∃ o : Obj, X.heap[r]? = some o ∧ o.isCells = false) : St gO gA pre Y := by
  rcases h with ⟨h1, h2, h3⟩ | ⟨A', c', h1, h2⟩
  · exact .inl ⟨cells_own h1 hg hr, cells_own h2 hg hr, h3⟩
  · exact .inr ⟨A', c', cells_own h1 hg hr, cells_own h2 hg hr⟩
/-- All blocks stay but two. -/
structure KpO (gO gA : Nat) (W W' : World) : Prop where
  os : W'.os = W.os
  tape : W'.tape = W.tape
  output : W'.output = W.output
  size : W.heap.size ≤ W'.heap.size
  block : ∀ k, k < W.heap.size → k ≠ gO → k ≠ gA → W'.heap[k]? = W.heap[k]?
theorem KpO.of_below {gO gA : Nat} {W W' : World} (h : Below W.heap.size W W') : KpO gO gA W W' := ⟨h.os, h.tape, h.output, h.size, fun k hk _ _ => h.block k hk⟩
theorem KpO.below {gO gA : Nat} {W W1 W' : World} (h : KpO gO gA W W1) (hb : Below W1.heap.size W1 W') : KpO gO gA W W' := ⟨hb.os.trans h.os, hb.tape.trans h.tape, hb.output.trans h.output, Nat.le_trans h.size hb.size, fun k hk h1 h2 => (hb.block k (Nat.lt_of_lt_of_le hk h.size)).trans (h.block k hk h1 h2)⟩
theorem KpO.set {gO gA g : Nat} {W W1 : World} (h : KpO gO gA W W1) (hg : g = gO ∨ g = gA) (j : Nat) (u : Value) : KpO gO gA W (W1.setCell ⟨g, j, none⟩ u) := by
  obtain ⟨h4, h5, h6, h7⟩ := setCells_same g [u] j W1
  exact ⟨h4.trans h.os, h5.trans h.tape, h6.trans h.output, by rw [show (W1.setCell ⟨g, j, none⟩ u).heap.size = W1.heap.size from h7]; exact h.size, fun k hk h1 h2 => (setCells_far [u] j k (by rcases hg with rfl | rfl <;> assumption)).trans (h.block k hk h1 h2)⟩
theorem KpO.keeps {gO gA n : Nat} {W W' : World} (h : KpO gO gA W W') {o1 o2 : Obj} (h1 : W.heap[gO]? = some o1) (c1 : o1.isCells = true) (h2 : W.heap[gA]? = some o2) (c2 : o2.isCells = true) : KeepsFrom n W W' :=
  ⟨h.size, fun k o _ hk ho => (h.block k (lt_of_heap hk) (fun e => by subst e; rw [h1] at hk; cases hk; rw [c1] at ho; cases ho) (fun e => by subst e; rw [h2] at hk; cases hk; rw [c2] at ho; cases ho)).trans hk⟩
theorem KpO.far {gO gA n : Nat} {w W W' : World} (h : KpO gO gA W W') (hb : Below n w W) (hn : n ≤ W.heap.size) (h1 : n ≤ gO) (h2 : n ≤ gA) : Below n w W' :=
  ⟨h.os.trans hb.os, h.tape.trans hb.tape, h.output.trans hb.output, Nat.le_trans hb.size h.size, fun k hk => (h.block k (by omega) (by omega) (by omega)).trans (hb.block k hk)⟩
theorem JI.own {w X Y : World} {p0 p1 p2 p3 p4 p5 p6 gO gA g1 : Nat} {A B KA KB : Option Addr} {c d e f : Nat} {pre : List (Int × Int)} {row : Option Nat} (h : JI w p0 p1 p2 p3 p4 p5 p6 gO gA g1 A B KA KB c d e f pre X) (hg : X.grownBy Y row) (hr : ∀ r, row = some r → w.heap.size ≤ r ∧ ∃ o : Obj, X.heap[r]? = some o ∧ o.isCells = false) :
    JI w p0 p1 p2 p3 p4 p5 p6 gO gA g1 A B KA KB c d e f pre Y := by
  have hq := fun r e => (hr r e).2
  exact ⟨pw_below_grown h.b row h.b.size hg (fun k e => (hr k e).1), cells_own h.k0 hg hq, cells_own h.k1 hg hq, cells_own h.k2 hg hq, cells_own h.k3 hg hq, cells_own h.k4 hg hq, cells_own h.k5 hg hq, cells_own h.k6 hg hq, cells_own h.m1 hg hq, cells_own h.m2 hg hq, st_own h.st hg hq⟩
theorem JI.kept {w X Y : World} {p0 p1 p2 p3 p4 p5 p6 gO gA g1 : Nat} {A B KA KB_ : Option Addr} {c d e f : Nat} {pre pre' : List (Int × Int)} (h : JI w p0 p1 p2 p3 p4 p5 p6 gO gA g1 A B KA KB_ c d e f pre X) (hk : KpO gO gA X Y) (hw : w.heap.size ≤ p0)
    (hp : p0 < p1 ∧ p1 < p2 ∧ p2 < p3 ∧ p3 < p4 ∧ p4 < p5 ∧ p5 < p6 ∧ p6 < gO ∧ gO < gA ∧ gA < g1) (hs : St gO gA pre' Y) : JI w p0 p1 p2 p3 p4 p5 p6 gO gA g1 A B KA KB_ c d e f pre' Y := by
  obtain ⟨h1, h2, h3, h4, h5, h6, h7, h8, h9⟩ := hp
  have go : ∀ {k : Nat} {o : Obj}, X.heap[k]? = some o → k ≠ gO → k ≠ gA → Y.heap[k]? = some o := fun hx e1 e2 => (hk.block _ (lt_of_heap hx) e1 e2).trans hx
  exact ⟨hk.far h.b h.b.size (by omega) (by omega), go h.k0 (by omega) (by omega), go h.k1 (by omega) (by omega), go h.k2 (by omega) (by omega), go h.k3 (by omega) (by omega), go h.k4 (by omega) (by omega), go h.k5 (by omega) (by omega), go h.k6 (by omega) (by omega), go h.m1 (by omega) (by omega), go h.m2 (by omega) (by omega), hs⟩
theorem KpO.kpG {gO gA g1 n : Nat} {W W' : World} (h : KpO gO gA W W') (hn : n ≤ W.heap.size) (h1 : n ≤ gO) (h2 : n ≤ gA) {o1 o2 : Obj} (m1 : W.heap[g1]? = some o1) (m2 : W.heap[g1 + 1]? = some o2) (hg : gO < gA ∧ gA < g1) : KpG n g1 (g1 + 1) W W' :=
  ⟨h.far (Below.refl n W) hn h1 h2, h.block _ (lt_of_heap m1) (by omega) (by omega), h.block _ (lt_of_heap m2) (by omega) (by omega)⟩
theorem loadVar22 {w : World} {g : Nat} {v : Value} (hc : w.cell? ⟨g, 0, none⟩ = some v) : (loadVar 22 ⟨g, 0, none⟩).run Tryz.prog w = .ok v w := by
  unfold loadVar
  simp [Tryz.isAgg22, hc, Sem.run_bind, Result.andThen, hc]
theorem loadVar46 {w : World} {g : Nat} {v : Value} (hc : w.cell? ⟨g, 0, none⟩ = some v) : (loadVar 46 ⟨g, 0, none⟩).run Tryz.prog w = .ok v w := by
  unfold loadVar
  simp [Tryz.isAgg46, hc, Sem.run_bind, Result.andThen, hc]
theorem results_join {w : World} {tmps : Array Value} {g h : Nat} {u v : Value} (h10 : tmps.getD 10 undef = .pointer (some ⟨g, 0, none⟩)) (h11 : tmps.getD 11 undef = .pointer (some ⟨h, 0, none⟩)) (hg : w.cell? ⟨g, 0, none⟩ = some u) (hh : w.cell? ⟨h, 0, none⟩ = some v) :
    (results Tryz.f17 tmps).run Tryz.prog w = .ok (.tuple #[u, v]) w := by
  have h10' : tmps[10]?.getD undef = .pointer (some ⟨g, 0, none⟩) := by simpa using h10
  have h11' : tmps[11]?.getD undef = .pointer (some ⟨h, 0, none⟩) := by simpa using h11
  simp [results, h10', h11', asAddr, loadVar22 hg, loadVar46 hh]
theorem left0 {a0 a1 a2 : Sl} {w : World} {ad : Addr} (hA : Kd.C kR w (some ad) 3 (lsR a0 a1 a2)) : ∃ A0 c0, w.cell? ad = some (.slice A0 1 c0) ∧ w.cell? ⟨ad.block, ad.off + 1, none⟩ = some (.slice a0.1 a0.2.1 a0.2.2) ∧ Kd.C k42 w A0 1 [v1] := by
  obtain ⟨ad', A0, c0, e1, u0, u1, _, g0⟩ := at_R hA 0 (by decide) (by decide)
  cases e1
  have e0 : ad.add ((0 : Int).toNat * 2) = ad := by obtain ⟨b, o, k⟩ := ad; rfl
  rw [e0] at u0 u1
  exact ⟨A0, c0, u0, u1, g0⟩
theorem left1 {a0 a1 a2 : Sl} {w : World} {ad : Addr} (hA : Kd.C kR w (some ad) 3 (lsR a0 a1 a2)) : ∃ A0 c0, w.cell? ⟨ad.block, ad.off + 2, none⟩ = some (.slice A0 1 c0) ∧ w.cell? ⟨ad.block, ad.off + 2 + 1, none⟩ = some (.slice a1.1 a1.2.1 a1.2.2) ∧ Kd.C k42 w A0 1 [v2] := by
  obtain ⟨ad', A0, c0, e1, u0, u1, _, g0⟩ := at_R hA 1 (by decide) (by decide)
  cases e1
  have e0 : ad.add ((1 : Int).toNat * 2) = ⟨ad.block, ad.off + 2, none⟩ := by obtain ⟨b, o, k⟩ := ad; rfl
  rw [e0] at u0 u1
  exact ⟨A0, c0, u0, u1, g0⟩
def noDefer (ops : Array Oper) : Bool := ops.all fun o => match o.op with | .defer _ => false | _ => true
theorem noDefer_of {ops : Array Oper} (h : noDefer ops = true) : ∀ (i : Nat) (o : Oper), ops[i]? = some o → ∀ c, o.op ≠ .defer c := fun i o ho c hc => by
  have hm : o ∈ ops := Array.mem_of_getElem? ho
  have h2 := Array.all_eq_true_iff_forall_mem.1 h o hm
  rw [hc] at h2
  cases h2
end Go.Proofs.YtcpngmclhicciaaGreatDoor
