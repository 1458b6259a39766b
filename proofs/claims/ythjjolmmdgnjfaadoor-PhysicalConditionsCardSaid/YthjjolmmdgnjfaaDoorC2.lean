/- The reference's 'first'. -/
import Derived.Test.YthjjolmmdgnjfaaDoorC0
import Derived.Test.YthjjolmmdgnjfaaDoorC1
namespace Go.Proofs.YthjjolmmdgnjfaaDoor
open Go.RowKit Go.Proofs.YthjjolmmdgnjfaaDoorW.PrintWords PPhysicalConditions
set_option linter.unusedVariables false
def isFst (col op orr : Int) (q : S55) : Bool := q.f0 == col && (q.f1 == op || q.f1 == orr)
def firstF (cs : List S26) (col op orr : Int) : Option S23 := ((cs.filterMap limF).find? (isFst col op orr)).map (·.f2)
def FirstPost (o : Option S23) (w : World) (e : Ending) (w' : World) : Prop := ∃ (v : S23) (b : Bool), e = .returned (.tuple #[Ag23 v, .bool b]) ∧ b = o.isSome ∧ (∀ r, o = some r → r = v) ∧ Below w.heap.size w w'
theorem firstPost_none {o : Option S23} {w w' : World} (h : o = none) (hb : Below w.heap.size w w') : FirstPost o w (.returned (.tuple #[.agg #[.int .i64 0, .int .i64 0, .string ⟨#[]⟩], .bool false])) w' :=
  ⟨z23, false, rfl, by rw [h]; rfl, (fun r hr => by rw [h] at hr; cases hr), hb⟩
theorem firstPost_some {o : Option S23} {q : S23} {w w' : World} (h : o = some q) (hb : Below w.heap.size w w') : FirstPost o w (.returned (.tuple #[Ag23 q, .bool true])) w' :=
  ⟨q, true, rfl, by rw [h]; rfl, (fun r hr => by rw [h] at hr; cases hr; rfl), hb⟩
theorem lim_none {cs : List S26} {y : S26} {p : S55 → Bool} (hn : (cs.filterMap limF).find? p = none) (h : limF y = none) : ((cs ++ [y]).filterMap limF).find? p = none := by
  rw [List.filterMap_append, List.find?_append, hn]
  simp [h]
theorem lim_miss {cs : List S26} {y : S26} {q : S55} {p : S55 → Bool} (hn : (cs.filterMap limF).find? p = none) (h : limF y = some q) (hp : p q = false) : ((cs ++ [y]).filterMap limF).find? p = none := by
  rw [List.filterMap_append, List.find?_append, hn]
  simp [h, List.find?, hp]
theorem lim_hit {cs : List S26} {y : S26} {q : S55} {p : S55 → Bool} (zs : List S26) (hn : (cs.filterMap limF).find? p = none) (h : limF y = some q) (hp : p q = true) : (((cs ++ [y]) ++ zs).filterMap limF).find? p = some q := by
  rw [List.filterMap_append, List.filterMap_append, List.find?_append, List.find?_append, hn]
  simp [h, hp]
set_option maxRecDepth 100000 in
set_option maxHeartbeats 4000000 in
theorem first_calls (cs : List S26) (col op orr : Int) (A : Option Addr) (c : Nat) (P : Nat → Prop) (w : World) (hF : Kd.F k26 w P A cs.length cs) :
    Calls Tryd.prog 30 #[.slice A cs.length c, .int .i64 col, .int .i64 op, .int .i64 orr] w (FirstPost (firstF cs col op orr) w) := by
  have hm : cs.length ≤ 9223372036854775807 := (Kd.F_now hF).2.1
  have HB0 := Aside0.mk (below_alloc (Below.refl w.heap.size w) (.cells Z23 23))
  have HX0 := Aside0.mk (blk_new w (.cells Z23 23))
  have HF0 := Aside0.mk (Kd.F_alloc hF (.cells Z23 23))
  clear hF
  go_enter Tryd.func30, Tryd.ntmps30
  go_upto_region 1 with (fail)
  obtain ⟨W0, hW0⟩ : ∃ W0 : World, w.alloc (.cells Z23 23) = W0 := ⟨_, rfl⟩
  rw [hW0] at HB0 HX0 HF0 ⊢
  clear hW0
  have HL0 := Aside0.mk (lt_of_block HX0.out)
  go_wp2
  go_loopg [10] (cs.length + 1) (fun kq v10 wr => ∃ i : Int, v10 = .int .i64 i ∧ Aside0 (0 ≤ i ∧ i ≤ cs.length ∧ kq = cs.length + 1 - i.toNat) ∧ Aside0 (((cs.take i.toNat).filterMap limF).find? (isFst col op orr) = none) ∧ Aside0 (Below W0.heap.size W0 wr))
  case atStart => exact ⟨0, rfl, ⟨by omega, by omega, by omega⟩, ⟨rfl⟩, ⟨Below.refl _ _⟩⟩
  case round =>
    obtain ⟨i, rfl, HI, HN, HW⟩ := hrel
    obtain ⟨i0, i1, i2⟩ := HI.out
    by_cases hlt : i < cs.length
    · have hb0 : decide (i < (cs.length : Int)) = true := decide_eq_true hlt
      obtain ⟨ad, A6, c6, e, ⟨x0, x1, x2, x3, x4, x5, x6⟩, l6, g6, p6⟩ := at7F (Kd.F_below HF0.out HW.out) i i0 hlt
      subst e
      have HK := Aside0.mk (And.intro l6 g6)
      have HR := Aside0.mk (take_rd i0 hlt)
      clear l6 g6 i1 i2 p6
      obtain ⟨y, hy⟩ : ∃ y, rd_T26 cs i = y := ⟨_, rfl⟩
      rw [hy] at x0 x1 x2 x3 x4 x5 x6 HK HR
      clear hy
      replace hlt := eq_true hlt
      replace i0 := eq_true i0
      go_upto_region 5 with (first | (go_at_call 39; refine (limit_calls y A6 c6 _ _ HK.out.1 HK.out.2).mono ?_; rintro e w2 ⟨q, b, rfl, hb, hr, hbl⟩; have HBK := Aside0.mk (And.intro hb hr); clear hb hr) | fail)
      clear x0 x1 x2 x3 x4 x5 x6
      have HW2 := Aside0.mk (below_alloc (below_then HW.out HW.out.size hbl) (.cells (Cs23 q.f2) 23))
      have HZ2 := Aside0.mk (blk_new w2 (.cells (Cs23 q.f2) 23))
      obtain ⟨W2, hW2⟩ : ∃ W2 : World, w2.alloc (.cells (Cs23 q.f2) 23) = W2 := ⟨_, rfl⟩
      rw [hW2] at HW2 HZ2 ⊢
      clear hW2 hbl
      cases b
      case false =>
        have HQ := Aside0.mk (show limF y = none by
          have h1 := HBK.out.1
          cases h : limF y with
          | none => rfl
          | some r => rw [h] at h1; cases h1)
        clear HBK
        go_wp2
        have i0' := of_eq_true i0
        have hlt' := of_eq_true hlt
        go_roundg (cs.length + 1 - (i + 1).toNat)
        case measure => have := HI.out; omega
        case rel => exact ⟨i + 1, congrArg (Value.int .i64) (wrap_succ i0' hlt' hm), ⟨by omega, by omega, rfl⟩, ⟨by rw [succ_toNat i0', HR.out]; exact lim_none HN.out HQ.out⟩, HW2⟩
      case true =>
        have HQ := Aside0.mk (show limF y = some q by
          obtain ⟨h1, h2⟩ := HBK.out
          obtain ⟨r, hr⟩ := Option.isSome_iff_exists.1 h1.symm
          rw [hr, h2 r hr])
        clear HBK
        cases k0 : (q.f0 == col)
        case false =>
          have HM := Aside0.mk (show isFst col op orr q = false by simp [isFst, k0])
          go_wp2
          have i0' := of_eq_true i0
          have hlt' := of_eq_true hlt
          go_roundg (cs.length + 1 - (i + 1).toNat)
          case measure => have := HI.out; omega
          case rel => exact ⟨i + 1, congrArg (Value.int .i64) (wrap_succ i0' hlt' hm), ⟨by omega, by omega, rfl⟩, ⟨by rw [succ_toNat i0', HR.out]; exact lim_miss HN.out HQ.out HM.out⟩, HW2⟩
        cases k1 : (q.f1 == op)
        case true =>
          have HM := Aside0.mk (show firstF cs col op orr = some q.f2 by
            have h := lim_hit (p := isFst col op orr) (cs.drop (i.toNat + 1)) HN.out HQ.out (by simp [isFst, k0, k1])
            rw [← HR.out, List.take_append_drop] at h
            simp [firstF, h])
          obtain ⟨z0, z1, z2⟩ := box3 HZ2.out
          go_wp2_with (first | (refine put3_event (g := w.heap.size) rfl rfl rfl (blk_below HX0.out HW2.out) rfl rfl rfl ?_; intro W9 hx9 hp9; obtain ⟨y0, y1, y2⟩ := box3 hx9) | fail)
          refine bodyPost_ret (v := .tuple #[Ag23 q.f2, .bool true]) (by simp [results, Tryd.results30, go_sem, y0, y1, y2]) rfl ?_
          exact firstPost_some HM.out (hp9.below (below_then HB0.out HB0.out.size HW2.out) (Nat.le_refl _))
        cases k2 : (q.f1 == orr)
        case true =>
          have HM := Aside0.mk (show firstF cs col op orr = some q.f2 by
            have h := lim_hit (p := isFst col op orr) (cs.drop (i.toNat + 1)) HN.out HQ.out (by simp [isFst, k0, k1, k2])
            rw [← HR.out, List.take_append_drop] at h
            simp [firstF, h])
          obtain ⟨z0, z1, z2⟩ := box3 HZ2.out
          go_wp2_with (first | (refine put3_event (g := w.heap.size) rfl rfl rfl (blk_below HX0.out HW2.out) rfl rfl rfl ?_; intro W9 hx9 hp9; obtain ⟨y0, y1, y2⟩ := box3 hx9) | fail)
          refine bodyPost_ret (v := .tuple #[Ag23 q.f2, .bool true]) (by simp [results, Tryd.results30, go_sem, y0, y1, y2]) rfl ?_
          exact firstPost_some HM.out (hp9.below (below_then HB0.out HB0.out.size HW2.out) (Nat.le_refl _))
        have HM := Aside0.mk (show isFst col op orr q = false by simp [isFst, k0, k1, k2])
        go_wp2
        have i0' := of_eq_true i0
        have hlt' := of_eq_true hlt
        go_roundg (cs.length + 1 - (i + 1).toNat)
        case measure => have := HI.out; omega
        case rel => exact ⟨i + 1, congrArg (Value.int .i64) (wrap_succ i0' hlt' hm), ⟨by omega, by omega, rfl⟩, ⟨by rw [succ_toNat i0', HR.out]; exact lim_miss HN.out HQ.out HM.out⟩, HW2⟩
    · have hb0 : decide (i < (cs.length : Int)) = false := decide_eq_false hlt
      have HV := Aside0.mk (show firstF cs col op orr = none by
        have e : cs.take i.toNat = cs := List.take_of_length_le (by omega)
        have := HN.out
        rw [e] at this
        simp [firstF, this])
      clear i0 i1 i2 hlt HI
      go_wp2_with (first | (refine put3_event (g := w.heap.size) rfl rfl rfl (blk_below HX0.out HW.out) rfl rfl rfl ?_; intro W9 hx9 hp9; obtain ⟨y0, y1, y2⟩ := box3 hx9) | fail)
      refine bodyPost_ret (v := .tuple #[.agg #[.int .i64 0, .int .i64 0, .string ⟨#[]⟩], .bool false]) (by simp [results, Tryd.results30, go_sem, y0, y1, y2]) rfl ?_
      exact firstPost_none HV.out (hp9.below (below_then HB0.out HB0.out.size HW.out) (Nat.le_refl _))
end Go.Proofs.YthjjolmmdgnjfaaDoor
