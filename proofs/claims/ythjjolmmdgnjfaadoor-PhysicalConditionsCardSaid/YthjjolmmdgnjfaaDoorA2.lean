/- The reference's equality of trees ('lineageref26.Equal') is equality. -/
import Derived.Test.YthjjolmmdgnjfaaDoorA1
import Derived.Deep.RegionHeld3
namespace Go.Proofs.YthjjolmmdgnjfaaDoor
open Go.RowKit Go.Proofs.YthjjolmmdgnjfaaDoorW.PrintWords PPhysicalConditions
set_option linter.unusedVariables false
attribute [local go_sem high] eqA23
def ReqOk (n : Nat) : Prop := ∀ (x y : S26) (A B : Option Addr) (c d : Nat) (w : World), sz x ≤ n → x.f4.length ≤ c → y.f4.length ≤ d → k26.C w A x.f4.length x.f4 → k26.C w B y.f4.length y.f4 →
  Calls Tryd.prog 11 #[Ag x A c, Ag y B d] w fun e w' => e = .returned (.bool (eqS x y)) ∧ Below w.heap.size w w'
set_option maxRecDepth 100000 in
theorem requal_step (n : Nat) (ih : ReqOk n) : ReqOk (n + 1) := by
  intro x y A B c d w hn hc hd hA hB
  have hF := eqS_fields x y
  have HN := Aside0.mk hn
  clear hn
  have hm : x.f4.length ≤ 9223372036854775807 := hA.2.1
  cases h0 : (x.f0 == y.f0)
  case false =>
    have h0' : (x.f0 != y.f0) = true := by simpa using h0
    have HV := Aside0.mk (show false = eqS x y by rw [hF, h0]; rfl)
    clear hF
    go_enter Tryd.func11, Tryd.ntmps11
    go_wp2
    go_ret
    exact ⟨ret_b HV.out, below_alloc (below_alloc (Below.refl _ _) _) _⟩
  have h0' : (x.f0 != y.f0) = false := by simpa using h0
  cases h1 : (x.f1 == y.f1)
  case false =>
    have h1' : (x.f1 != y.f1) = true := by simpa using h1
    have HV := Aside0.mk (show false = eqS x y by rw [hF, h0, h1]; rfl)
    clear hF
    go_enter Tryd.func11, Tryd.ntmps11
    go_wp2
    go_ret
    exact ⟨ret_b HV.out, below_alloc (below_alloc (Below.refl _ _) _) _⟩
  have h1' : (x.f1 != y.f1) = false := by simpa using h1
  cases h2 : (x.f2.f0 == y.f2.f0 && (x.f2.f1 == y.f2.f1 && (x.f2.f2.toList == y.f2.f2.toList)))
  case false =>
    have HV := Aside0.mk (show false = eqS x y by rw [hF, h0, h1, h2]; rfl)
    clear hF
    go_enter Tryd.func11, Tryd.ntmps11
    go_wp2
    go_ret
    exact ⟨ret_b HV.out, below_alloc (below_alloc (Below.refl _ _) _) _⟩
  cases h3 : (x.f3 == y.f3)
  case false =>
    have h3' : (x.f3 != y.f3) = true := by simpa using h3
    have HV := Aside0.mk (show false = eqS x y by rw [hF, h0, h1, h2, h3]; rfl)
    clear hF
    go_enter Tryd.func11, Tryd.ntmps11
    go_wp2
    go_ret
    exact ⟨ret_b HV.out, below_alloc (below_alloc (Below.refl _ _) _) _⟩
  have h3' : (x.f3 != y.f3) = false := by simpa using h3
  by_cases hl : x.f4.length = y.f4.length
  case neg =>
    have h4' : ((x.f4.length : Int) != (y.f4.length : Int)) = true := by simp; omega
    have h4 : eqL x.f4 y.f4 = false := eqL_false.2 (fun h => hl (by rw [h]))
    clear hl
    have HV := Aside0.mk (show false = eqS x y by rw [hF, h0, h1, h2, h3, h4]; rfl)
    clear hF h4
    go_enter Tryd.func11, Tryd.ntmps11
    go_wp2
    go_ret
    exact ⟨ret_b HV.out, below_alloc (below_alloc (Below.refl _ _) _) _⟩
  have h4' : ((x.f4.length : Int) != (y.f4.length : Int)) = false := by simp; omega
  have HL := Aside0.mk hl
  clear hl
  have HV := Aside0.mk (show eqL x.f4 y.f4 = eqS x y by rw [hF, h0, h1, h2, h3]; simp)
  clear hF
  go_enter Tryd.func11, Tryd.ntmps11
  go_wp2
  obtain ⟨W0, hW0⟩ : ∃ W0 : World, W0 = (w.alloc (.cells (Cs x A c) 26)).alloc (.cells (Cs y B d) 26) := ⟨_, rfl⟩
  have HX := Aside0.mk (show W0.heap[w.heap.size]? = some (.cells (Cs x A c) 26 (0, 0)) by rw [hW0]; exact blk_alloc (blk_new _ _) _)
  have HY := Aside0.mk (show W0.heap[w.heap.size + 1]? = some (.cells (Cs y B d) 26 (0, 0)) by
    rw [hW0]
    have := blk_new (w.alloc (.cells (Cs x A c) 26)) (.cells (Cs y B d) 26)
    rwa [World.size_alloc] at this)
  have HB0 := Aside0.mk (show Below w.heap.size w W0 by rw [hW0]; exact below_alloc (below_alloc (Below.refl _ _) _) _)
  rw [← hW0]
  clear hW0
  go_loopg [5] (x.f4.length + 1) (fun kq v5 wr => ∃ i : Int, v5 = .int .i64 i ∧ Aside0 (0 ≤ i ∧ i ≤ x.f4.length ∧ kq = x.f4.length + 1 - i.toNat ∧ x.f4.take i.toNat = y.f4.take i.toNat) ∧ Aside0 (Below w.heap.size w wr) ∧ Aside0 (wr.heap[w.heap.size]? = some (.cells (Cs x A c) 26 (0, 0))) ∧ Aside0 (wr.heap[w.heap.size + 1]? = some (.cells (Cs y B d) 26 (0, 0))))
  case atStart => exact ⟨0, rfl, ⟨by omega, by omega, by omega, rfl⟩, HB0, HX, HY⟩
  case round =>
    clear HX HY HB0
    obtain ⟨i, rfl, HI, HB, HX, HY⟩ := hrel
    obtain ⟨i0, i1, i2, i3⟩ := HI.out
    obtain ⟨a0, a1, a2, a3, a4, a5, a6⟩ := box7 HX.out
    obtain ⟨b0, b1, b2, b3, b4, b5, b6⟩ := box7 HY.out
    by_cases hlt : i < x.f4.length
    · have hb0 : decide (i < (x.f4.length : Int)) = true := decide_eq_true hlt
      have hlt2 : i < y.f4.length := by have := HL.out; omega
      obtain ⟨ad, A6, c6, e, x0, x1, x2, x3, x4, x5, x6, l6, g6⟩ := at26 HB.out hA i i0 hlt
      obtain ⟨bd, B6, d6, f, y0, y1, y2, y3, y4, y5, y6, m6, k6⟩ := at26 HB.out hB i i0 hlt2
      subst e
      subst f
      have HM := Aside0.mk (And.intro (rd_mem i0 hlt) (And.intro hA hB))
      have HT := Aside0.mk (And.intro (take_rd i0 hlt) (take_rd i0 hlt2))
      have HK := Aside0.mk (And.intro l6 (And.intro g6 (And.intro m6 k6)))
      clear l6 g6 m6 k6 i1 i2 i3 hA hB
      replace hlt := eq_true hlt
      replace hlt2 := eq_true hlt2
      replace i0 := eq_true i0
      cases hq : eqS (rd_T26 x.f4 i) (rd_T26 y.f4 i)
      · go_wp2_with fail
        go_region_held3 (fun w' => w'.cell? ⟨w.heap.size, 6, none⟩ = some (.slice (some ad) x.f4.length c) ∧ w'.cell? ⟨w.heap.size + 1, 6, none⟩ = some (.slice (some bd) y.f4.length d) ∧ w'.cell? (ad.add (i.toNat * 7)) = some (.int .i64 (rd_T26 x.f4 i).f0) ∧ w'.cell? ⟨(ad.add (i.toNat * 7)).block, (ad.add (i.toNat * 7)).off + 1, none⟩ = some (.int .i64 (rd_T26 x.f4 i).f1) ∧ w'.cell? ⟨(ad.add (i.toNat * 7)).block, (ad.add (i.toNat * 7)).off + 2, none⟩ = some (.int .i64 (rd_T26 x.f4 i).f2.f0) ∧ w'.cell? ⟨(ad.add (i.toNat * 7)).block, (ad.add (i.toNat * 7)).off + 3, none⟩ = some (.int .i64 (rd_T26 x.f4 i).f2.f1) ∧ w'.cell? ⟨(ad.add (i.toNat * 7)).block, (ad.add (i.toNat * 7)).off + 4, none⟩ = some (.string (rd_T26 x.f4 i).f2.f2) ∧ w'.cell? ⟨(ad.add (i.toNat * 7)).block, (ad.add (i.toNat * 7)).off + 5, none⟩ = some (.int .i64 (rd_T26 x.f4 i).f3) ∧ w'.cell? ⟨(ad.add (i.toNat * 7)).block, (ad.add (i.toNat * 7)).off + 6, none⟩ = some (.slice A6 (rd_T26 x.f4 i).f4.length c6) ∧ w'.cell? (bd.add (i.toNat * 7)) = some (.int .i64 (rd_T26 y.f4 i).f0) ∧ w'.cell? ⟨(bd.add (i.toNat * 7)).block, (bd.add (i.toNat * 7)).off + 1, none⟩ = some (.int .i64 (rd_T26 y.f4 i).f1) ∧ w'.cell? ⟨(bd.add (i.toNat * 7)).block, (bd.add (i.toNat * 7)).off + 2, none⟩ = some (.int .i64 (rd_T26 y.f4 i).f2.f0) ∧ w'.cell? ⟨(bd.add (i.toNat * 7)).block, (bd.add (i.toNat * 7)).off + 3, none⟩ = some (.int .i64 (rd_T26 y.f4 i).f2.f1) ∧ w'.cell? ⟨(bd.add (i.toNat * 7)).block, (bd.add (i.toNat * 7)).off + 4, none⟩ = some (.string (rd_T26 y.f4 i).f2.f2) ∧ w'.cell? ⟨(bd.add (i.toNat * 7)).block, (bd.add (i.toNat * 7)).off + 5, none⟩ = some (.int .i64 (rd_T26 y.f4 i).f3) ∧ w'.cell? ⟨(bd.add (i.toNat * 7)).block, (bd.add (i.toNat * 7)).off + 6, none⟩ = some (.slice B6 (rd_T26 y.f4 i).f4.length d6)) (first | exact ⟨a6, b6, x0, x1, x2, x3, x4, x5, x6, y0, y1, y2, y3, y4, y5, y6⟩ | exact ⟨cell_later hb a6, cell_later hb b6, cell_later hb x0, cell_later hb x1, cell_later hb x2, cell_later hb x3, cell_later hb x4, cell_later hb x5, cell_later hb x6, cell_later hb y0, cell_later hb y1, cell_later hb y2, cell_later hb y3, cell_later hb y4, cell_later hb y5, cell_later hb y6⟩) ((go_at_call 11; refine (ih (rd_T26 x.f4 i) (rd_T26 y.f4 i) A6 B6 c6 d6 _ (by have := sz_mem HM.out.1; have := HN.out; omega) HK.out.1 HK.out.2.2.1 (Kd.C_below HK.out.2.1 (below_drew HB.out)) (Kd.C_below HK.out.2.2.2 (below_drew HB.out))).mono ?_; rintro e w' ⟨rfl, hb⟩))
        have HB2 := Aside0.mk (below_then (below_drew HB.out) (below_drew HB.out).size hb)
        have HW := Aside0.mk (show false = eqS x y by
          rw [← HV.out]
          exact (eqL_false.2 (fun h => eqS_false.1 hq (by rw [h]))).symm)
        clear hb
        go_wp2
        go_ret
        exact ⟨ret_b HW.out, HB2.out⟩
      · go_wp2_with fail
        go_region_held3 (fun w' => w'.cell? ⟨w.heap.size, 6, none⟩ = some (.slice (some ad) x.f4.length c) ∧ w'.cell? ⟨w.heap.size + 1, 6, none⟩ = some (.slice (some bd) y.f4.length d) ∧ w'.cell? (ad.add (i.toNat * 7)) = some (.int .i64 (rd_T26 x.f4 i).f0) ∧ w'.cell? ⟨(ad.add (i.toNat * 7)).block, (ad.add (i.toNat * 7)).off + 1, none⟩ = some (.int .i64 (rd_T26 x.f4 i).f1) ∧ w'.cell? ⟨(ad.add (i.toNat * 7)).block, (ad.add (i.toNat * 7)).off + 2, none⟩ = some (.int .i64 (rd_T26 x.f4 i).f2.f0) ∧ w'.cell? ⟨(ad.add (i.toNat * 7)).block, (ad.add (i.toNat * 7)).off + 3, none⟩ = some (.int .i64 (rd_T26 x.f4 i).f2.f1) ∧ w'.cell? ⟨(ad.add (i.toNat * 7)).block, (ad.add (i.toNat * 7)).off + 4, none⟩ = some (.string (rd_T26 x.f4 i).f2.f2) ∧ w'.cell? ⟨(ad.add (i.toNat * 7)).block, (ad.add (i.toNat * 7)).off + 5, none⟩ = some (.int .i64 (rd_T26 x.f4 i).f3) ∧ w'.cell? ⟨(ad.add (i.toNat * 7)).block, (ad.add (i.toNat * 7)).off + 6, none⟩ = some (.slice A6 (rd_T26 x.f4 i).f4.length c6) ∧ w'.cell? (bd.add (i.toNat * 7)) = some (.int .i64 (rd_T26 y.f4 i).f0) ∧ w'.cell? ⟨(bd.add (i.toNat * 7)).block, (bd.add (i.toNat * 7)).off + 1, none⟩ = some (.int .i64 (rd_T26 y.f4 i).f1) ∧ w'.cell? ⟨(bd.add (i.toNat * 7)).block, (bd.add (i.toNat * 7)).off + 2, none⟩ = some (.int .i64 (rd_T26 y.f4 i).f2.f0) ∧ w'.cell? ⟨(bd.add (i.toNat * 7)).block, (bd.add (i.toNat * 7)).off + 3, none⟩ = some (.int .i64 (rd_T26 y.f4 i).f2.f1) ∧ w'.cell? ⟨(bd.add (i.toNat * 7)).block, (bd.add (i.toNat * 7)).off + 4, none⟩ = some (.string (rd_T26 y.f4 i).f2.f2) ∧ w'.cell? ⟨(bd.add (i.toNat * 7)).block, (bd.add (i.toNat * 7)).off + 5, none⟩ = some (.int .i64 (rd_T26 y.f4 i).f3) ∧ w'.cell? ⟨(bd.add (i.toNat * 7)).block, (bd.add (i.toNat * 7)).off + 6, none⟩ = some (.slice B6 (rd_T26 y.f4 i).f4.length d6)) (first | exact ⟨a6, b6, x0, x1, x2, x3, x4, x5, x6, y0, y1, y2, y3, y4, y5, y6⟩ | exact ⟨cell_later hb a6, cell_later hb b6, cell_later hb x0, cell_later hb x1, cell_later hb x2, cell_later hb x3, cell_later hb x4, cell_later hb x5, cell_later hb x6, cell_later hb y0, cell_later hb y1, cell_later hb y2, cell_later hb y3, cell_later hb y4, cell_later hb y5, cell_later hb y6⟩) ((go_at_call 11; refine (ih (rd_T26 x.f4 i) (rd_T26 y.f4 i) A6 B6 c6 d6 _ (by have := sz_mem HM.out.1; have := HN.out; omega) HK.out.1 HK.out.2.2.1 (Kd.C_below HK.out.2.1 (below_drew HB.out)) (Kd.C_below HK.out.2.2.2 (below_drew HB.out))).mono ?_; rintro e w' ⟨rfl, hb⟩))
        have HB2 := Aside0.mk (below_then (below_drew HB.out) (below_drew HB.out).size hb)
        have HQ := Aside0.mk (eqS_true.1 hq)
        have HX2 := Aside0.mk (blk_below (w := wr.drew) HX.out hb)
        have HY2 := Aside0.mk (blk_below (w := wr.drew) HY.out hb)
        clear hb hq
        go_wp2
        have h0' := of_eq_true i0
        have hlt' := of_eq_true hlt
        go_roundg (x.f4.length + 1 - (i + 1).toNat)
        case measure => have := HI.out.2.2.1; omega
        case rel => exact ⟨i + 1, congrArg (Value.int .i64) (wrap_succ h0' hlt' hm), ⟨by omega, by omega, rfl, by rw [succ_toNat h0', HT.out.1, HT.out.2, HI.out.2.2.2, HQ.out]⟩, HB2, HX2, HY2⟩
    · have hb0 : decide (i < (x.f4.length : Int)) = false := decide_eq_false hlt
      have HW := Aside0.mk (show true = eqS x y by
        rw [← HV.out]
        refine (eqL_true.2 ?_).symm
        have e : i.toNat = x.f4.length := by omega
        rw [e, List.take_length] at i3
        rw [i3, HL.out, List.take_length])
      clear i0 i1 i2 i3 hlt
      go_wp2
      go_ret
      exact ⟨ret_b HW.out, HB.out⟩
theorem requal_calls : ∀ n, ReqOk n
  | 0 => fun x y A B c d w hn => by have := sz_len x; omega
  | n + 1 => requal_step n (requal_calls n)
end Go.Proofs.YthjjolmmdgnjfaaDoor
