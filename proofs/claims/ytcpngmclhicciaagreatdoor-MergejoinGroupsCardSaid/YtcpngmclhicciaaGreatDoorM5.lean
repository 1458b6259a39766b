/- Join at the rows of the examples returns four rows. -/
import Derived.Test.YtcpngmclhicciaaGreatDoorM4
import Derived.Sort.CutIn
import Derived.Sort.LoopGhostIn
/- 'Join' at the rows of the examples. -/
namespace Go.Proofs.YtcpngmclhicciaaGreatDoor
open Go.RowKit Go.Proofs.YtcpngmclhicciaaGreatDoorW.PrintWords PMergejoinGroups
set_option linter.unusedVariables false
set_option linter.unusedSimpArgs false
attribute [local go_sem] Oper.semAt_some
def AxJ (p0 p1 p2 p3 p4 p5 p6 gO gA g1 : Nat) (ad bd : Addr) (KA KB : Option Addr) (c d e f : Nat) (x : Int × Int) (a' : Act) (W : World) : Prop :=
  ∃ Bx, gA < Bx ∧ W.heap[Bx]? = some (.cells #[.int .i64 x.1, .int .i64 x.2] 54 (0, 0)) ∧ a' = { tmps := #[.slice (some ad) 3 (c + 3), .slice (some bd) 3 (d + 3), .slice KA 1 e, .slice KB 1 f, (.agg #[.int .i64 0, .int .i64 0, .int .i64 2, .int .i64 1, .string ⟨#[]⟩, .int .i64 0, .slice none 0 0]), .pointer (some ⟨p0, 0, none⟩), .pointer (some ⟨p1, 0, none⟩), .pointer (some ⟨p2, 0, none⟩), .pointer (some ⟨p3, 0, none⟩), .pointer (some ⟨p4, 0, none⟩), .pointer (some ⟨p5, 0, none⟩), .pointer (some ⟨p6, 0, none⟩), .pointer (some ⟨gO, 0, none⟩), .pointer (some ⟨gA, 0, none⟩), .pointer (some ⟨Bx, 0, none⟩), undef, undef, undef, undef, .slice KA 1 e, .int .i64 1, .slice KB 1 f, .int .i64 1, .bool false, .bool false, .slice (some ad) 3 (c + 3), .slice KA 1 e, .bool true, .bool false, .bool false, .bool false, .slice (some bd) 3 (d + 3), .slice KB 1 f, .bool true, .bool false, .bool false, .bool false, (.agg #[.int .i64 0, .int .i64 0, .int .i64 2, .int .i64 1, .string ⟨#[]⟩, .int .i64 0, .slice none 0 0]), .bool true, .bool false, .bool false, .slice (some ad) 3 (c + 3), .slice KA 1 e, .func (.func 28) #[] #[.pointer (some ⟨g1, 0, none⟩), .pointer (some ⟨g1 + 1, 0, none⟩)], .agg #[.int .i64 x.1, .int .i64 x.2], undef, undef, undef, undef, undef, undef, undef, undef, undef, undef, undef, undef, undef, undef, undef, undef, undef, undef, undef, undef, undef, undef, undef, undef, undef, undef, undef, undef, undef, undef, undef, undef, undef, undef, undef, undef, undef, undef, undef, undef, undef, undef, undef, undef, undef, undef, undef, undef, undef, undef, undef, undef], defers := [] }
set_option maxRecDepth 100000 in
set_option maxHeartbeats 4000000 in
theorem Join_in (n : Nat) (hn : 3 ≤ n) (a0 a1 a2 b0 b1 b2 : Sl) (ad bd : Addr) (KA KB : Option Addr) (c d e f : Nat) (w : World) (hJ : JArgs w (lsR a0 a1 a2) (rsR b0 b1 b2) (some ad) (some bd) KA KB) :
    CallsIn Fence.wide n Tryz.prog 17 #[.slice (some ad) 3 (c + 3), .slice (some bd) 3 (d + 3), .slice KA 1 e, .slice KB 1 f, (.agg #[.int .i64 0, .int .i64 0, .int .i64 2, .int .i64 1, .string ⟨#[]⟩, .int .i64 0, .slice none 0 0])] w (LenOkPost 4 w) := by
  have hro : Fence.wide.round = none := rfl
  have h1 : 1 ≤ n := by omega
  have HA := Aside0.mk (And.intro hJ trivial)
  clear hJ
  refine callsIn_of_wp_marks Tryz.func17 rfl trivial ?_ hro
  simp only [Tryz.ntmps17, List.size_toArray, List.length_cons, List.length_nil, Nat.reduceAdd, Nat.reduceSub, Array.replicate_succ, Array.replicate_zero, List.push_toArray, List.append_toArray, List.nil_append, List.cons_append]
  obtain ⟨W0, hW0, k0, k1, k2, k3, k4, k5, k6, ks, kb⟩ := seven w (.cells #[.slice (some ad) 3 (c + 3)] 22) (.cells #[.slice (some bd) 3 (d + 3)] 22) (.cells #[.slice KA 1 e] 23) (.cells #[.slice KB 1 f] 23) (.cells (#[.int .i64 0, .int .i64 0, .int .i64 2, .int .i64 1, .string ⟨#[]⟩, .int .i64 0, .slice none 0 0]) 45) (.cells #[.slice none 0 0] 22) (.cells #[.int .i64 0] 46)
  gi_upto_region 1 with (fail)

  clear hW0
  have HB0 := Aside0.mk kb
  obtain ⟨p0, hp0⟩ : ∃ p, w.heap.size = p := ⟨_, rfl⟩
  have HP0 := Aside0.mk hp0
  rw [hp0] at k0 k1 k2 k3 k4 k5 k6 ks ⊢
  clear hp0 kb
  obtain ⟨p1, hp1⟩ : ∃ p, p0 + 1 = p := ⟨_, rfl⟩
  rw [hp1] at k1 k2 k3 k4 k5 k6 ⊢
  obtain ⟨p2, hp2⟩ : ∃ p, p1 + 1 = p := ⟨_, rfl⟩
  rw [hp2] at k2 k3 k4 k5 k6 ⊢
  obtain ⟨p3, hp3⟩ : ∃ p, p2 + 1 = p := ⟨_, rfl⟩
  rw [hp3] at k3 k4 k5 k6 ⊢
  obtain ⟨p4, hp4⟩ : ∃ p, p3 + 1 = p := ⟨_, rfl⟩
  rw [hp4] at k4 k5 k6 ⊢
  obtain ⟨p5, hp5⟩ : ∃ p, p4 + 1 = p := ⟨_, rfl⟩
  rw [hp5] at k5 k6 ⊢
  obtain ⟨p6, hp6⟩ : ∃ p, p5 + 1 = p := ⟨_, rfl⟩
  rw [hp6] at k6 ⊢
  have HPS := Aside0.mk (And.intro hp1 (And.intro hp2 (And.intro hp3 (And.intro hp4 (And.intro hp5 (And.intro hp6 ks))))))
  have HK := Aside0.mk (And.intro k0 (And.intro k1 (And.intro k2 (And.intro k3 (And.intro k4 (And.intro k5 k6))))))
  have c0 := box1 k0
  have c1 := box1 k1
  have c2 := box1 k2
  have c3 := box1 k3
  obtain ⟨q0, q1, q2, q3, q4, q5, q6⟩ := box7 k4
  clear k0 k1 k2 k3 k4 k5 k6 ks hp1 hp2 hp3 hp4 hp5 hp6
  gi_upto_region 3 with (first | (refine ⟨trivial, ?_⟩; gi_at_call 5; (with_reducible refine (callsIn_wide.2 (sorted3 _ rfl (sorted_ls a0 a1 a2) (some ad) KA (c + 3) e _ (Kd.C_below HA.out.1.l HB0.out) (Kd.C_below HA.out.1.kl HB0.out))).mono ?_); rintro e' w1 ⟨rfl, hb1⟩; have HB1 := Aside0.mk (below_then HB0.out HB0.out.size hb1); have HD1 := Aside0.mk hb1; replace c0 := cell_later hb1 c0; replace c1 := cell_later hb1 c1; replace c2 := cell_later hb1 c2; replace c3 := cell_later hb1 c3; replace q0 := cell_later hb1 q0; replace q1 := cell_later hb1 q1; replace q2 := cell_later hb1 q2; replace q3 := cell_later hb1 q3; replace q4 := cell_later hb1 q4; replace q5 := cell_later hb1 q5; replace q6 := cell_later hb1 q6; clear hb1) | (refine ⟨trivial, ?_⟩; gi_at_call 5; (with_reducible refine (callsIn_wide.2 (sorted3 _ rfl (sorted_rs b0 b1 b2) (some bd) KB (d + 3) f _ (Kd.C_below HA.out.1.r HB1.out) (Kd.C_below HA.out.1.kr HB1.out))).mono ?_); rintro e' w2 ⟨rfl, hb2⟩; have HB2 := Aside0.mk (below_then HB1.out HB1.out.size hb2); have HD2 := Aside0.mk (below_then HD1.out HD1.out.size hb2); replace c0 := cell_later hb2 c0; replace c1 := cell_later hb2 c1; replace c2 := cell_later hb2 c2; replace c3 := cell_later hb2 c3; replace q0 := cell_later hb2 q0; replace q1 := cell_later hb2 q1; replace q2 := cell_later hb2 q2; replace q3 := cell_later hb2 q3; replace q4 := cell_later hb2 q4; replace q5 := cell_later hb2 q5; replace q6 := cell_later hb2 q6; clear hb2) | (refine ⟨trivial, ?_⟩; gi_at_call 25; (with_reducible refine (callsIn_wide.2 (valid_true _)).mono ?_); rintro e' w3 ⟨rfl, hb3⟩; have HB3 := Aside0.mk (below_then HB2.out HB2.out.size hb3); have HD3 := Aside0.mk (below_then HD2.out HD2.out.size hb3); replace c0 := cell_later hb3 c0; replace c1 := cell_later hb3 c1; replace c2 := cell_later hb3 c2; replace c3 := cell_later hb3 c3; replace q0 := cell_later hb3 q0; replace q1 := cell_later hb3 q1; replace q2 := cell_later hb3 q2; replace q3 := cell_later hb3 q3; replace q4 := cell_later hb3 q4; replace q5 := cell_later hb3 q5; replace q6 := cell_later hb3 q6; clear hb3) | fail)
  have HS3 := Aside0.mk (show p6 < w3.heap.size by have := HD3.out.size; have := HPS.out; omega)
  have hx0 := blk_new w3 (.cells #[.slice none 0 0] 22)
  have hz0 : (w3.alloc (.cells #[.slice none 0 0] 22)).heap.size = w3.heap.size + 1 := World.size_alloc _ _
  have hx1 := blk_new (w3.alloc (.cells #[.slice none 0 0] 22)) (.cells #[.int .i64 0] 3)
  have hx2 := blk_alloc hx0 (.cells #[.int .i64 0] 3)
  have hz1 : ((w3.alloc (.cells #[.slice none 0 0] 22)).alloc (.cells #[.int .i64 0] 3)).heap.size = w3.heap.size + 1 + 1 := by rw [World.size_alloc, hz0]
  have hb4 := below_alloc (below_alloc (Below.refl w3.heap.size w3) (.cells #[.slice none 0 0] 22)) (.cells #[.int .i64 0] 3)
  rw [hz0] at hx1
  gi_upto_region 5 with (fail)
  obtain ⟨gO, hgO⟩ : ∃ g, w3.heap.size = g := ⟨_, rfl⟩
  have HGO := Aside0.mk (show p6 < gO from hgO ▸ HS3.out)
  obtain ⟨W4, hW4⟩ : ∃ W4 : World, (w3.alloc (.cells #[.slice none 0 0] 22)).alloc (.cells #[.int .i64 0] 3) = W4 := ⟨_, rfl⟩
  rw [hW4] at hx1 hx2 hz1 hb4 ⊢
  replace c0 := cell_later hb4 c0
  replace c2 := cell_later hb4 c2
  have HB4 := Aside0.mk (below_then HB3.out HB3.out.size hb4)
  have HD4 := Aside0.mk (below_then HD3.out HD3.out.size hb4)
  rw [hgO] at hx1 hx2 hz1 ⊢
  clear hx0 hW4 hgO hb4 c1 c3 q0 q1 q2 q3 q4 q5 q6 hz0
  obtain ⟨gA, hgA⟩ : ∃ g, gO + 1 = g := ⟨_, rfl⟩
  rw [hgA] at hx1 hz1 ⊢
  have HX := Aside0.mk (And.intro hx2 (And.intro hx1 (And.intro hgA hz1)))
  clear hx1 hx2 hgA hz1
  gi_wp2_with (first | (refine ⟨trivial, ?_⟩; gi_at_call 19; (with_reducible refine (callsIn_wide.2 (groups_calls (some ad) KA 3 1 (c + 3) e _)).mono ?_); rintro e' w5 ⟨rfl, rfl⟩) | fail)
  have hg0 := blk_new W4 (.cells #[.slice (some ad) 3 (c + 3)] 22)
  have hz0 : (W4.alloc (.cells #[.slice (some ad) 3 (c + 3)] 22)).heap.size = W4.heap.size + 1 := World.size_alloc _ _
  have hg1 := blk_new (W4.alloc (.cells #[.slice (some ad) 3 (c + 3)] 22)) (.cells #[.slice KA 1 e] 23)
  have hg2 := blk_alloc hg0 (.cells #[.slice KA 1 e] 23)
  have hz1 : ((W4.alloc (.cells #[.slice (some ad) 3 (c + 3)] 22)).alloc (.cells #[.slice KA 1 e] 23)).heap.size = W4.heap.size + 1 + 1 := by rw [World.size_alloc, hz0]
  have hb5 := below_alloc (below_alloc (Below.refl W4.heap.size W4) (.cells #[.slice (some ad) 3 (c + 3)] 22)) (.cells #[.slice KA 1 e] 23)
  rw [hz0] at hg1
  obtain ⟨W5, hW5⟩ : ∃ W5 : World, (W4.alloc (.cells #[.slice (some ad) 3 (c + 3)] 22)).alloc (.cells #[.slice KA 1 e] 23) = W5 := ⟨_, rfl⟩
  rw [hW5] at hg1 hg2 hz1 hb5 ⊢
  obtain ⟨g1, hge⟩ : ∃ g, W4.heap.size = g := ⟨_, rfl⟩
  rw [hge] at hg1 hg2 hz1 ⊢
  have HB5 := Aside0.mk (below_then HB4.out HB4.out.size hb5)
  have hps := HPS.out
  have hgo := HGO.out
  have hxx := HX.out
  have hp0 := HP0.out
  have HORD := Aside0.mk (show w.heap.size ≤ p0 ∧ (p0 < p1 ∧ p1 < p2 ∧ p2 < p3 ∧ p3 < p4 ∧ p4 < p5 ∧ p5 < p6 ∧ p6 < gO ∧ gO < gA ∧ gA < g1) by
    refine ⟨by omega, by omega, by omega, by omega, by omega, by omega, by omega, by omega, ?_, ?_⟩
    · have := hxx.2.2.1; omega
    · have := hxx.2.2.2; omega)
  have hD5 := below_then HD4.out HD4.out.size hb5
  have HJ0 := Aside0.mk (show JI w p0 p1 p2 p3 p4 p5 p6 gO gA g1 (some ad) (some bd) KA KB (c + 3) (d + 3) e f [] W5 from ⟨HB5.out, blk_below HK.out.1 hD5, blk_below HK.out.2.1 hD5, blk_below HK.out.2.2.1 hD5, blk_below HK.out.2.2.2.1 hD5, blk_below HK.out.2.2.2.2.1 hD5, blk_below HK.out.2.2.2.2.2.1 hD5, blk_below HK.out.2.2.2.2.2.2 hD5, hg2, hg1, .inl ⟨blk_below hxx.1 hb5, blk_below hxx.2.1 hb5, by simp⟩⟩)
  have hst := groups_stopsP (lsR a0 a1 a2) [0] (some ad) KA (c + 3) e g1 (g1 + 1) (n - 1) w W5 HB5.out hg2 hg1 (by decide) (keyedB_ok (show keyedB (lsR a0 a1 a2) [0] = true by rfl)) HA.out.1.l HA.out.1.kl
  have HZ := Aside0.mk hz1
  clear hg0 hz0 hg1 hg2 hb5 hW5 hge c0 c2 hps hgo hxx hp0 hD5 hz1
  refine wpIn_rangeFunc_ownH hro h1 (gf := 28) (lb := #[.pointer (some ⟨g1, 0, none⟩), .pointer (some ⟨g1 + 1, 0, none⟩)]) rfl trivial (enters_of Tryz.func28 (by kernel_rfl) rfl)
    hst KpG.trans (kpG_b HB5.out.size (by have := HZ.out; omega) (by have := HZ.out; omega)) (Below.refl _ _) (fun _ => rfl)
    (fun (pre : List (Gr (lsR a0 a1 a2) [0])) W => JI w p0 p1 p2 p3 p4 p5 p6 gO gA g1 (some ad) (some bd) KA KB (c + 3) (d + 3) e f (pre.map Subtype.val) W)
    (fun _ _ _ => False)
    (fun pre X Y row hs hg hr => hs.own hg (fun r e => ⟨Nat.le_trans HB5.out.size (hr r e).1, (hr r e).2⟩))
    (fun _ _ _ _ _ hs _ _ => hs)
    HJ0.out
    (fun x => AxJ p0 p1 p2 p3 p4 p5 p6 gO gA g1 ad bd KA KB c d e f x.val)
    (fun x a' _ X Y row hs hg hr => by obtain ⟨Bx, h1, h2, h3⟩ := hs; exact ⟨Bx, h1, cells_own h2 hg (fun r e => (hr r e).2), h3⟩)
    ?assign ?body ?done ?stop
  case assign =>
    rintro l pre x W K hJ hK
    gi_wp2
    have hsw := lt_of_heap hJ.m2
    have ho := HORD.out.2
    exact hK _ _ ((KeepsOthers.alloc _ _).from _) ⟨(Below.refl _ W).alloc (by have := hJ.b.size; omega) _, Below.heap_alloc W _ g1 (lt_of_heap hJ.m1), Below.heap_alloc W _ (g1 + 1) (lt_of_heap hJ.m2)⟩ (hJ.own (World.grownBy_alloc W _ none) (fun r e => by cases e)) ⟨W.heap.size, by omega, blk_new W _, rfl⟩
  case body =>
    rintro l pre x a' W hl ⟨r, hr⟩ hJ ⟨Bx, hBx, bX, rfl⟩ hlt
    obtain ⟨⟨x1, x2⟩, hxm⟩ := x
    have hx2 : (x1, x2) ∈ [((0 : Int), (1 : Int)), (1, 3)] := by rw [← grps_ls a0 a1 a2]; exact hxm
    have HJ := Aside0.mk hJ
    dsimp only at bX
    obtain ⟨oA, oN, oC, hcs⟩ := rc_cases a0 a1 a2 b0 b1 b2 ad bd KA KB c d w W HA.out.1 gO gA (pre.map Subtype.val) (x1, x2) hx2 hJ.st
    clear hx2
    rcases hcs with ⟨he, hR⟩ | ⟨he, hR⟩ | ⟨he, hR⟩ | ⟨he, hR⟩
    · cases he
      have HR := Aside0.mk hR
      have HBX := Aside0.mk (And.intro bX (And.intro hBx (And.intro hlt hl)))
      have z0 := (box2 bX).1
      have c0 := box1 HJ.out.k0
      have c2 := box1 HJ.out.k2
      obtain ⟨A0, k0, u0, u1, g0⟩ := left0 (HA.out.1.later HJ.out.b).l
      have HG := Aside0.mk (And.intro g0 (HA.out.1.later HJ.out.b).kl)
      have hba := Aside0.mk (below_drew (Below.refl W.heap.size W))
      clear g0 hR bX hBx hlt hl hJ hr
      dsimp only
      gi_upto_region 7 with (fail)
      refine wpIn_region_held_drew (S := (fun w' => w'.cell? ⟨p0, 0, none⟩ = some (.slice (some ad) 3 (c + 3)) ∧ w'.cell? ⟨p2, 0, none⟩ = some (.slice KA 1 e) ∧ w'.cell? ⟨Bx, 0, none⟩ = some (.int .i64 0) ∧ w'.cell? ad = some (.slice A0 1 k0) ∧ w'.cell? ⟨ad.block, ad.off + 1, none⟩ = some (.slice a0.1 a0.2.1 a0.2.2))) (by kernel_rfl) (noDefer_of (by kernel_rfl)) (fun ⟨_, _, h⟩ => h) (by first | (refine ⟨(by repeat (first | (with_reducible refine cell_dr ?_) | (with_reducible refine cell_al ?_ _) | with_reducible exact c0 | with_reducible exact cell_later hc1 c0)), (by repeat (first | (with_reducible refine cell_dr ?_) | (with_reducible refine cell_al ?_ _) | with_reducible exact c2 | with_reducible exact cell_later hc1 c2)), (by repeat (first | (with_reducible refine cell_dr ?_) | (with_reducible refine cell_al ?_ _) | with_reducible exact z0 | with_reducible exact cell_later hc1 z0)), (by repeat (first | (with_reducible refine cell_dr ?_) | (with_reducible refine cell_al ?_ _) | with_reducible exact u0 | with_reducible exact cell_later hc1 u0)), (by repeat (first | (with_reducible refine cell_dr ?_) | (with_reducible refine cell_al ?_ _) | with_reducible exact u1 | with_reducible exact cell_later hc1 u1))⟩) | fail) (fun hHeld => ?_)
      refine wpAnyH_take (i := 0) (v := ?_) (by (simp only [List.getElem?_toArray, List.getElem?_cons_zero, List.getElem?_cons_succ]); rfl) (by kernel_rfl) (by kernel_rfl) (by kernel_rfl) (by exact fun _ _ _ h => h) (Or.inl ⟨by rfl, by (intro w hSw; (try dsimp only at hSw); go_simp; (try with_reducible rfl))⟩) (by assumption) ?_
      try simp only [Act.put, List.setIfInBounds_toArray, List.set_cons_zero, List.set_cons_succ]
      refine wpAnyH_take (i := 1) (v := ?_) (by (simp only [List.getElem?_toArray, List.getElem?_cons_zero, List.getElem?_cons_succ]); rfl) (by kernel_rfl) (by kernel_rfl) (by kernel_rfl) (by exact fun _ _ _ h => h) (Or.inl ⟨by rfl, by (intro w hSw; (try dsimp only at hSw); go_simp; (try with_reducible rfl))⟩) (by assumption) ?_
      try simp only [Act.put, List.setIfInBounds_toArray, List.set_cons_zero, List.set_cons_succ]
      refine wpAnyH_take (i := 2) (v := ?_) (by (simp only [List.getElem?_toArray, List.getElem?_cons_zero, List.getElem?_cons_succ]); rfl) (by kernel_rfl) (by kernel_rfl) (by kernel_rfl) (by exact fun _ _ _ h => h) (Or.inl ⟨by rfl, by (intro w hSw; (try dsimp only at hSw); go_simp; (try with_reducible rfl))⟩) (by assumption) ?_
      try simp only [Act.put, List.setIfInBounds_toArray, List.set_cons_zero, List.set_cons_succ]
      refine wpAnyH_take (i := 3) (v := ?_) (by (simp only [List.getElem?_toArray, List.getElem?_cons_zero, List.getElem?_cons_succ]); rfl) (by kernel_rfl) (by kernel_rfl) (by kernel_rfl) (by exact fun _ _ _ h => h) (Or.inl ⟨by rfl, by (intro w hSw; (try dsimp only at hSw); go_simp; (try with_reducible rfl))⟩) (by assumption) ?_
      try simp only [Act.put, List.setIfInBounds_toArray, List.set_cons_zero, List.set_cons_succ]
      refine wpAnyH_take (i := 4) (v := ?_) (by (simp only [List.getElem?_toArray, List.getElem?_cons_zero, List.getElem?_cons_succ]); rfl) (by kernel_rfl) (by kernel_rfl) (by kernel_rfl) (by exact fun _ _ _ h => h) (Or.inl ⟨by rfl, by (intro w hSw; (try dsimp only at hSw); go_simp; (try with_reducible rfl))⟩) (by assumption) ?_
      try simp only [Act.put, List.setIfInBounds_toArray, List.set_cons_zero, List.set_cons_succ]
      refine wpAnyH_take (i := 5) (v := ?_) (by (simp only [List.getElem?_toArray, List.getElem?_cons_zero, List.getElem?_cons_succ]); rfl) (by kernel_rfl) (by kernel_rfl) (by kernel_rfl) (by exact fun _ _ _ h => h) (Or.inl ⟨by rfl, by (intro w hSw; (try dsimp only at hSw); go_simp; (try with_reducible rfl))⟩) (by assumption) ?_
      try simp only [Act.put, List.setIfInBounds_toArray, List.set_cons_zero, List.set_cons_succ]
      refine wpAnyH_ready (rs := [6]) (by kernel_rfl) (by simp) ?_
      refine AllReadyH.cons (by (simp only [List.getElem?_toArray, List.getElem?_cons_zero, List.getElem?_cons_succ]); rfl) (fun K hK => ?_) AllReadyH.nil
      go_simp
      go_at_call 24; (with_reducible refine (key1_calls v1 a0 A0 KA k0 e _ (Kd.C_below HG.out.1 hba.out) (Kd.C_below HG.out.2 hba.out)).mono ?_); rintro e' w1 ⟨AK, ck, rfl, hk1, hb1⟩; have hc1 := below_then hba.out hba.out.size hb1
      refine hK.out _ _ (by first | (refine ⟨(by repeat (first | (with_reducible refine cell_dr ?_) | (with_reducible refine cell_al ?_ _) | with_reducible exact c0 | with_reducible exact cell_later hc1 c0)), (by repeat (first | (with_reducible refine cell_dr ?_) | (with_reducible refine cell_al ?_ _) | with_reducible exact c2 | with_reducible exact cell_later hc1 c2)), (by repeat (first | (with_reducible refine cell_dr ?_) | (with_reducible refine cell_al ?_ _) | with_reducible exact z0 | with_reducible exact cell_later hc1 z0)), (by repeat (first | (with_reducible refine cell_dr ?_) | (with_reducible refine cell_al ?_ _) | with_reducible exact u0 | with_reducible exact cell_later hc1 u0)), (by repeat (first | (with_reducible refine cell_dr ?_) | (with_reducible refine cell_al ?_ _) | with_reducible exact u1 | with_reducible exact cell_later hc1 u1))⟩) | fail) (fun hHeld2 => ?_)
      clear hK K hHeld
      have hHeld := hHeld2
      clear hHeld2
      try simp only [Act.put, List.setIfInBounds_toArray, List.set_cons_zero, List.set_cons_succ]
      refine wpAnyH_take (i := 7) (v := ?_) (by (simp only [List.getElem?_toArray, List.getElem?_cons_zero, List.getElem?_cons_succ]); rfl) (by kernel_rfl) (by kernel_rfl) (by kernel_rfl) (by exact fun _ _ _ h => h) (Or.inl ⟨by rfl, by (intro w hSw; (try dsimp only at hSw); go_simp; (try with_reducible rfl))⟩) (by assumption) ?_
      try simp only [Act.put, List.setIfInBounds_toArray, List.set_cons_zero, List.set_cons_succ]
      refine wpAnyH_done (by kernel_rfl) ?_ _
      have HC1 := Aside0.mk hc1
      have HK1 := Aside0.mk hk1
      have HB1 := Aside0.mk (below_then HJ.out.b HJ.out.b.size hc1)
      have HJ1 := Aside0.mk (HA.out.1.later HB1.out)
      have c1 := cell_later hc1 (box1 HJ.out.k1)
      have c3 := cell_later hc1 (box1 HJ.out.k3)
      have qa := cell_later hc1 (box1 HR.out.ha)
      clear c0 c2 z0 u0 u1 hc1 hk1 hb1 hba HG
      try clear hHeld
      gi_upto_region 9 with (first | (refine ⟨trivial, (fun h => by cases h), ?_⟩; gi_at_call 22; (with_reducible refine (((callsIn_wide (n := _)).2 (adv1_calls (rsR b0 b1 b2) rfl (keyed_rs b0 b1 b2) v1 0 (by decide) (by decide) HR.out.adv (some bd) KB AK (d + 3) f ck _ HJ1.out.r HJ1.out.kr (Kd.F_now HK1.out))).inRound l).mono ?_); rintro e' w2 ⟨rfl, hb2⟩; have HBq := Aside0.mk hb2; have qb := cell_later hb2 qa; have fz := blk_frozen (blk_below (blk_below HR.out.ha HC1.out) hb2) 0; clear hb2) | fail)
      have hord := HORD.out.2
      have hA3 := blk_set (blk_below (blk_below HR.out.ha HC1.out) HBq.out) 0 (.int .i64 0)
      have hK3 := ((KpO.of_below (gO := gO) (gA := gA) HC1.out).below HBq.out).set (.inr rfl) 0 (.int .i64 0)
      have hF3 : Kd.F k42 (w2.setCell ⟨gA, 0, none⟩ (.int .i64 0)) (fun k => W.heap.size ≤ k) AK 1 [v1] := Kd.F_step (Kd.F_below HK1.out HBq.out) (fun k hk _ => Below.heap_setCell w2 ⟨gA, 0, none⟩ _ k (show k ≠ gA by have := lt_of_heap HR.out.ha; omega))
      obtain ⟨W3, hW3⟩ : ∃ W3, w2.setCell ⟨gA, 0, none⟩ (.int .i64 0) = W3 := ⟨_, rfl⟩
      rw [hW3] at hA3 hK3 hF3 ⊢
      have HA3 := Aside0.mk hA3
      have HK3 := Aside0.mk hK3
      have HF3 := Aside0.mk hF3
      have hp00 := HORD.out.1
      have HB3 := Aside0.mk (hK3.far HJ.out.b HJ.out.b.size (by omega) (by omega))
      have go : ∀ {k : Nat} {o : Obj}, W.heap[k]? = some o → k ≠ gO → k ≠ gA → W3.heap[k]? = some o := fun hx n1 n2 => (hK3.block _ (lt_of_heap hx) n1 n2).trans hx
      have HP3 := Aside0.mk (And.intro (go HJ.out.k0 (by omega) (by omega)) (And.intro (go HJ.out.k1 (by omega) (by omega)) (And.intro (go HJ.out.k3 (by omega) (by omega)) (And.intro (go HJ.out.k4 (by omega) (by omega)) (go HBX.out.1 (by have := HBX.out.2.1; omega) (by have := HBX.out.2.1; omega))))))
      have HO3 := Aside0.mk (show W3.heap[gO]? = some (.cells #[.slice oA oN oC] 22 (0, 0)) by
        rw [← hW3]
        exact blk_far (p := ⟨gA, 0, none⟩) (blk_below (blk_below HR.out.ho HC1.out) HBq.out) (show gO ≠ gA by omega) (.int .i64 0))
      have q3 := box1 hA3
      clear hA3 hK3 hF3 hW3 go c1 c3 qa qb fz hord hp00
      gi_wp2
      clear q3
      gi_loopg [16] 3 (fun kq v16 wr => ∃ i : Int, v16 = .int .i64 i ∧ Aside0 (0 ≤ i ∧ i ≤ 0 ∧ kq = (3 - i).toNat) ∧ Aside0 (Below W3.heap.size W3 wr))
      case atStart => exact ⟨0, rfl, ⟨by decide, by decide, rfl⟩, ⟨Below.refl _ _⟩⟩
      case round =>
        obtain ⟨i, rfl, HI, HV⟩ := hrel
        obtain ⟨wo, rfl⟩ : ∃ wo : World, wo = wr := ⟨_, rfl⟩
        obtain ⟨i0, i1, i2⟩ := HI.out
        have h0i : 0 ≤ i := by omega
        have h3i : i < 3 := by omega
        obtain ⟨v, b, hrow, hcmp⟩ := HR.out.rows i i0 h3i
        have hJo := HA.out.1.later (below_then HB3.out HB3.out.size HV.out)
        obtain ⟨bd', B0, d0, e9, y0, y1, _, g0⟩ := at_R hJo.r i h0i h3i
        cases e9
        rw [hrow] at y0 y1 g0
        dsimp only at y0 y1 g0
        have HG := Aside0.mk (And.intro (show Kd.C k42 wo B0 1 [v] from g0) hJo.kr)
        change wo.cell? (bd.add (i.toNat * 2)) = some (.slice B0 1 d0) at y0
        have hb3 : decide (i < (3 : Int)) = true := decide_eq_true h3i
        have c1 := cell_later HV.out (box1 HP3.out.2.1)
        have c3 := cell_later HV.out (box1 HP3.out.2.2.1)
        have hba := Aside0.mk (below_drew (Below.refl wo.heap.size wo))
        have HF4 := Aside0.mk (Kd.F_now (Kd.F_below HF3.out HV.out))
        clear g0 hJo hrow i2
        have hIs := Aside0.mk (And.intro i0 (And.intro i1 (And.intro h0i h3i)))
        replace h0i := eq_true h0i
        replace h3i := eq_true h3i
        by_cases hi : i < 0
        · have hz : decide (cmpR [v] [v1] = 0) = true := hcmp.trans (decide_eq_true hi)
          have hz0 : cmpR [v] [v1] = 0 := of_decide_eq_true hz
          have hz1 : (cmpR [v] [v1] == 0) = true := beq_iff_eq.2 hz0
          clear hcmp i0 i1
          gi_wp2
          refine wpIn_region_held_drew (S := (fun w' => w'.cell? ⟨p1, 0, none⟩ = some (.slice (some bd) 3 (d + 3)) ∧ w'.cell? ⟨p3, 0, none⟩ = some (.slice KB 1 f) ∧ w'.cell? (bd.add (i.toNat * 2)) = some (.slice B0 1 d0) ∧ w'.cell? ⟨(bd.add (i.toNat * 2)).block, (bd.add (i.toNat * 2)).off + 1, none⟩ = some (.slice b.1 b.2.1 b.2.2))) (by kernel_rfl) (noDefer_of (by kernel_rfl)) (fun ⟨_, _, h⟩ => h) (by first | (refine ⟨(by repeat (first | (with_reducible refine cell_dr ?_) | (with_reducible refine cell_al ?_ _) | with_reducible exact c1 | with_reducible exact cell_later hd1 c1 | with_reducible exact cell_later hd2 c1)), (by repeat (first | (with_reducible refine cell_dr ?_) | (with_reducible refine cell_al ?_ _) | with_reducible exact c3 | with_reducible exact cell_later hd1 c3 | with_reducible exact cell_later hd2 c3)), (by repeat (first | (with_reducible refine cell_dr ?_) | (with_reducible refine cell_al ?_ _) | with_reducible exact y0 | with_reducible exact cell_later hd1 y0 | with_reducible exact cell_later hd2 y0)), (by repeat (first | (with_reducible refine cell_dr ?_) | (with_reducible refine cell_al ?_ _) | with_reducible exact y1 | with_reducible exact cell_later hd1 y1 | with_reducible exact cell_later hd2 y1))⟩) | fail) (fun hHeld => ?_)
          refine wpAnyH_take (i := 0) (v := ?_) (by (simp only [List.getElem?_toArray, List.getElem?_cons_zero, List.getElem?_cons_succ]); rfl) (by kernel_rfl) (by kernel_rfl) (by kernel_rfl) (by exact fun _ _ _ h => h) (Or.inl ⟨by rfl, by (intro w hSw; (try dsimp only at hSw); go_simp; (try with_reducible rfl))⟩) (by assumption) ?_
          try simp only [Act.put, List.setIfInBounds_toArray, List.set_cons_zero, List.set_cons_succ]
          refine wpAnyH_take (i := 1) (v := ?_) (by (simp only [List.getElem?_toArray, List.getElem?_cons_zero, List.getElem?_cons_succ]); rfl) (by kernel_rfl) (by kernel_rfl) (by kernel_rfl) (by exact fun _ _ _ h => h) (Or.inl ⟨by rfl, by (intro w hSw; (try dsimp only at hSw); go_simp; (try with_reducible rfl))⟩) (by assumption) ?_
          try simp only [Act.put, List.setIfInBounds_toArray, List.set_cons_zero, List.set_cons_succ]
          refine wpAnyH_take (i := 2) (v := ?_) (by (simp only [List.getElem?_toArray, List.getElem?_cons_zero, List.getElem?_cons_succ]); rfl) (by kernel_rfl) (by kernel_rfl) (by kernel_rfl) (by exact fun _ _ _ h => h) (Or.inl ⟨by rfl, by (intro w hSw; (try dsimp only at hSw); go_simp; (try with_reducible rfl))⟩) (by assumption) ?_
          try simp only [Act.put, List.setIfInBounds_toArray, List.set_cons_zero, List.set_cons_succ]
          refine wpAnyH_take (i := 3) (v := ?_) (by (simp only [List.getElem?_toArray, List.getElem?_cons_zero, List.getElem?_cons_succ]); rfl) (by kernel_rfl) (by kernel_rfl) (by kernel_rfl) (by exact fun _ _ _ h => h) (Or.inl ⟨by rfl, by (intro w hSw; (try dsimp only at hSw); go_simp; (try with_reducible rfl))⟩) (by assumption) ?_
          try simp only [Act.put, List.setIfInBounds_toArray, List.set_cons_zero, List.set_cons_succ]
          refine wpAnyH_take (i := 4) (v := ?_) (by (simp only [List.getElem?_toArray, List.getElem?_cons_zero, List.getElem?_cons_succ]); rfl) (by kernel_rfl) (by kernel_rfl) (by kernel_rfl) (by exact fun _ _ _ h => h) (Or.inl ⟨by rfl, by (intro w hSw; (try dsimp only at hSw); go_simp; (try with_reducible rfl))⟩) (by assumption) ?_
          try simp only [Act.put, List.setIfInBounds_toArray, List.set_cons_zero, List.set_cons_succ]
          refine wpAnyH_take (i := 5) (v := ?_) (by (simp only [List.getElem?_toArray, List.getElem?_cons_zero, List.getElem?_cons_succ]); rfl) (by kernel_rfl) (by kernel_rfl) (by kernel_rfl) (by exact fun _ _ _ h => h) (Or.inl ⟨by rfl, by (intro w hSw; (try dsimp only at hSw); go_simp; (try with_reducible rfl))⟩) (by assumption) ?_
          try simp only [Act.put, List.setIfInBounds_toArray, List.set_cons_zero, List.set_cons_succ]
          refine wpAnyH_take (i := 6) (v := ?_) (by (simp only [List.getElem?_toArray, List.getElem?_cons_zero, List.getElem?_cons_succ]); rfl) (by kernel_rfl) (by kernel_rfl) (by kernel_rfl) (by exact fun _ _ _ h => h) (Or.inl ⟨by rfl, by (intro w hSw; (try dsimp only at hSw); go_simp; (try with_reducible rfl))⟩) (by assumption) ?_
          try simp only [Act.put, List.setIfInBounds_toArray, List.set_cons_zero, List.set_cons_succ]
          refine wpAnyH_take (i := 7) (v := ?_) (by (simp only [List.getElem?_toArray, List.getElem?_cons_zero, List.getElem?_cons_succ]); rfl) (by kernel_rfl) (by kernel_rfl) (by kernel_rfl) (by exact fun _ _ _ h => h) (Or.inl ⟨by rfl, by (intro w hSw; (try dsimp only at hSw); go_simp; (try with_reducible rfl))⟩) (by assumption) ?_
          try simp only [Act.put, List.setIfInBounds_toArray, List.set_cons_zero, List.set_cons_succ]
          refine wpAnyH_take (i := 8) (v := ?_) (by (simp only [List.getElem?_toArray, List.getElem?_cons_zero, List.getElem?_cons_succ]); rfl) (by kernel_rfl) (by kernel_rfl) (by kernel_rfl) (by exact fun _ _ _ h => h) (Or.inl ⟨by rfl, by (intro w hSw; (try dsimp only at hSw); go_simp; (try with_reducible rfl))⟩) (by assumption) ?_
          try simp only [Act.put, List.setIfInBounds_toArray, List.set_cons_zero, List.set_cons_succ]
          refine wpAnyH_take (i := 9) (v := ?_) (by (simp only [List.getElem?_toArray, List.getElem?_cons_zero, List.getElem?_cons_succ]); rfl) (by kernel_rfl) (by kernel_rfl) (by kernel_rfl) (by exact fun _ _ _ h => h) (Or.inl ⟨by rfl, by (intro w hSw; (try dsimp only at hSw); go_simp; (try with_reducible rfl))⟩) (by assumption) ?_
          try simp only [Act.put, List.setIfInBounds_toArray, List.set_cons_zero, List.set_cons_succ]
          refine wpAnyH_take (i := 11) (v := ?_) (by (simp only [List.getElem?_toArray, List.getElem?_cons_zero, List.getElem?_cons_succ]); rfl) (by kernel_rfl) (by kernel_rfl) (by kernel_rfl) (by exact fun _ _ _ h => h) (Or.inl ⟨by rfl, by (intro w hSw; (try dsimp only at hSw); go_simp; (try with_reducible rfl))⟩) (by assumption) ?_
          try simp only [Act.put, List.setIfInBounds_toArray, List.set_cons_zero, List.set_cons_succ]
          refine wpAnyH_ready (rs := [10]) (by kernel_rfl) (by simp) ?_
          refine AllReadyH.cons (by (simp only [List.getElem?_toArray, List.getElem?_cons_zero, List.getElem?_cons_succ]); rfl) (fun K hK => ?_) AllReadyH.nil
          go_simp
          go_at_call 24; (with_reducible refine (key1_calls v b B0 KB d0 f _ (Kd.C_below HG.out.1 hba.out) (Kd.C_below HG.out.2 hba.out)).mono ?_); rintro e' w4 ⟨A4, k4, rfl, hk4, hb4⟩; have hd1 := below_then hba.out hba.out.size hb4
          refine hK.out _ _ (by first | (refine ⟨(by repeat (first | (with_reducible refine cell_dr ?_) | (with_reducible refine cell_al ?_ _) | with_reducible exact c1 | with_reducible exact cell_later hd1 c1 | with_reducible exact cell_later hd2 c1)), (by repeat (first | (with_reducible refine cell_dr ?_) | (with_reducible refine cell_al ?_ _) | with_reducible exact c3 | with_reducible exact cell_later hd1 c3 | with_reducible exact cell_later hd2 c3)), (by repeat (first | (with_reducible refine cell_dr ?_) | (with_reducible refine cell_al ?_ _) | with_reducible exact y0 | with_reducible exact cell_later hd1 y0 | with_reducible exact cell_later hd2 y0)), (by repeat (first | (with_reducible refine cell_dr ?_) | (with_reducible refine cell_al ?_ _) | with_reducible exact y1 | with_reducible exact cell_later hd1 y1 | with_reducible exact cell_later hd2 y1))⟩) | fail) (fun hHeld2 => ?_)
          clear hK K hHeld
          have hHeld := hHeld2
          clear hHeld2
          try simp only [Act.put, List.setIfInBounds_toArray, List.set_cons_zero, List.set_cons_succ]
          refine wpAnyH_ready (rs := [12]) (by kernel_rfl) (by simp) ?_
          refine AllReadyH.cons (by (simp only [List.getElem?_toArray, List.getElem?_cons_zero, List.getElem?_cons_succ]); rfl) (fun K hK => ?_) AllReadyH.nil
          go_simp
          go_at_call 9; (with_reducible refine (cmp1_calls v v1 A4 AK k4 ck _ (Kd.F_now hk4) (Kd.C_below HF4.out hd1)).mono ?_); rintro e' w5 ⟨rfl, hb5⟩; have hd2 := below_then hd1 hd1.size hb5
          refine hK.out _ _ (by first | (refine ⟨(by repeat (first | (with_reducible refine cell_dr ?_) | (with_reducible refine cell_al ?_ _) | with_reducible exact c1 | with_reducible exact cell_later hd1 c1 | with_reducible exact cell_later hd2 c1)), (by repeat (first | (with_reducible refine cell_dr ?_) | (with_reducible refine cell_al ?_ _) | with_reducible exact c3 | with_reducible exact cell_later hd1 c3 | with_reducible exact cell_later hd2 c3)), (by repeat (first | (with_reducible refine cell_dr ?_) | (with_reducible refine cell_al ?_ _) | with_reducible exact y0 | with_reducible exact cell_later hd1 y0 | with_reducible exact cell_later hd2 y0)), (by repeat (first | (with_reducible refine cell_dr ?_) | (with_reducible refine cell_al ?_ _) | with_reducible exact y1 | with_reducible exact cell_later hd1 y1 | with_reducible exact cell_later hd2 y1))⟩) | fail) (fun hHeld2 => ?_)
          clear hK K hHeld
          have hHeld := hHeld2
          clear hHeld2
          try simp only [Act.put, List.setIfInBounds_toArray, List.set_cons_zero, List.set_cons_succ]
          refine wpAnyH_take (i := 13) (v := ?_) (by (simp only [List.getElem?_toArray, List.getElem?_cons_zero, List.getElem?_cons_succ]); rfl) (by kernel_rfl) (by kernel_rfl) (by kernel_rfl) (by exact fun _ _ _ h => h) (Or.inl ⟨by rfl, by (intro w hSw; (try dsimp only at hSw); go_simp; (try with_reducible rfl))⟩) (by assumption) ?_
          try simp only [Act.put, List.setIfInBounds_toArray, List.set_cons_zero, List.set_cons_succ]
          refine wpAnyH_take (i := 14) (v := ?_) (by (simp only [List.getElem?_toArray, List.getElem?_cons_zero, List.getElem?_cons_succ]); rfl) (by kernel_rfl) (by kernel_rfl) (by kernel_rfl) (by exact fun _ _ _ h => h) (Or.inl ⟨by rfl, by (intro w hSw; (try dsimp only at hSw); go_simp; (try with_reducible rfl))⟩) (by assumption) ?_
          try simp only [Act.put, List.setIfInBounds_toArray, List.set_cons_zero, List.set_cons_succ]
          refine wpAnyH_done (by kernel_rfl) ?_ _
          have HV5 := Aside0.mk (below_then HV.out HV.out.size hd2)
          clear c1 c3 y0 y1 hd1 hd2 hb4 hb5 hk4 hba
          try clear hHeld
          have hw : wrap64 (i + 1) = i + 1 := IntWalk.wrap64_in _ (by have := hIs.out.2.2; omega)
          gi_wp2
          gi_roundg (3 - (i + 1)).toNat
          case measure => have := HI.out.2.2; have := hIs.out.2.2; omega
          case rel => exact ⟨i + 1, congrArg (Value.int .i64) hw, ⟨by have := hIs.out; omega, by omega, rfl⟩, HV5⟩
        · have hz : decide (cmpR [v] [v1] = 0) = false := hcmp.trans (decide_eq_false hi)
          have hz0 : ¬ (cmpR [v] [v1] = 0) := of_decide_eq_false hz
          have hz1 : (cmpR [v] [v1] == 0) = false := beq_eq_false_iff_ne.2 hz0
          have hie : i = 0 := by omega
          have HIE := Aside0.mk hie
          clear hcmp i0 i1 hie
          gi_wp2
          refine wpIn_region_held_drew (S := (fun w' => w'.cell? ⟨p1, 0, none⟩ = some (.slice (some bd) 3 (d + 3)) ∧ w'.cell? ⟨p3, 0, none⟩ = some (.slice KB 1 f) ∧ w'.cell? (bd.add (i.toNat * 2)) = some (.slice B0 1 d0) ∧ w'.cell? ⟨(bd.add (i.toNat * 2)).block, (bd.add (i.toNat * 2)).off + 1, none⟩ = some (.slice b.1 b.2.1 b.2.2))) (by kernel_rfl) (noDefer_of (by kernel_rfl)) (fun ⟨_, _, h⟩ => h) (by first | (refine ⟨(by repeat (first | (with_reducible refine cell_dr ?_) | (with_reducible refine cell_al ?_ _) | with_reducible exact c1 | with_reducible exact cell_later hd1 c1 | with_reducible exact cell_later hd2 c1)), (by repeat (first | (with_reducible refine cell_dr ?_) | (with_reducible refine cell_al ?_ _) | with_reducible exact c3 | with_reducible exact cell_later hd1 c3 | with_reducible exact cell_later hd2 c3)), (by repeat (first | (with_reducible refine cell_dr ?_) | (with_reducible refine cell_al ?_ _) | with_reducible exact y0 | with_reducible exact cell_later hd1 y0 | with_reducible exact cell_later hd2 y0)), (by repeat (first | (with_reducible refine cell_dr ?_) | (with_reducible refine cell_al ?_ _) | with_reducible exact y1 | with_reducible exact cell_later hd1 y1 | with_reducible exact cell_later hd2 y1))⟩) | fail) (fun hHeld => ?_)
          refine wpAnyH_take (i := 0) (v := ?_) (by (simp only [List.getElem?_toArray, List.getElem?_cons_zero, List.getElem?_cons_succ]); rfl) (by kernel_rfl) (by kernel_rfl) (by kernel_rfl) (by exact fun _ _ _ h => h) (Or.inl ⟨by rfl, by (intro w hSw; (try dsimp only at hSw); go_simp; (try with_reducible rfl))⟩) (by assumption) ?_
          try simp only [Act.put, List.setIfInBounds_toArray, List.set_cons_zero, List.set_cons_succ]
          refine wpAnyH_take (i := 1) (v := ?_) (by (simp only [List.getElem?_toArray, List.getElem?_cons_zero, List.getElem?_cons_succ]); rfl) (by kernel_rfl) (by kernel_rfl) (by kernel_rfl) (by exact fun _ _ _ h => h) (Or.inl ⟨by rfl, by (intro w hSw; (try dsimp only at hSw); go_simp; (try with_reducible rfl))⟩) (by assumption) ?_
          try simp only [Act.put, List.setIfInBounds_toArray, List.set_cons_zero, List.set_cons_succ]
          refine wpAnyH_take (i := 2) (v := ?_) (by (simp only [List.getElem?_toArray, List.getElem?_cons_zero, List.getElem?_cons_succ]); rfl) (by kernel_rfl) (by kernel_rfl) (by kernel_rfl) (by exact fun _ _ _ h => h) (Or.inl ⟨by rfl, by (intro w hSw; (try dsimp only at hSw); go_simp; (try with_reducible rfl))⟩) (by assumption) ?_
          try simp only [Act.put, List.setIfInBounds_toArray, List.set_cons_zero, List.set_cons_succ]
          refine wpAnyH_take (i := 3) (v := ?_) (by (simp only [List.getElem?_toArray, List.getElem?_cons_zero, List.getElem?_cons_succ]); rfl) (by kernel_rfl) (by kernel_rfl) (by kernel_rfl) (by exact fun _ _ _ h => h) (Or.inl ⟨by rfl, by (intro w hSw; (try dsimp only at hSw); go_simp; (try with_reducible rfl))⟩) (by assumption) ?_
          try simp only [Act.put, List.setIfInBounds_toArray, List.set_cons_zero, List.set_cons_succ]
          refine wpAnyH_take (i := 4) (v := ?_) (by (simp only [List.getElem?_toArray, List.getElem?_cons_zero, List.getElem?_cons_succ]); rfl) (by kernel_rfl) (by kernel_rfl) (by kernel_rfl) (by exact fun _ _ _ h => h) (Or.inl ⟨by rfl, by (intro w hSw; (try dsimp only at hSw); go_simp; (try with_reducible rfl))⟩) (by assumption) ?_
          try simp only [Act.put, List.setIfInBounds_toArray, List.set_cons_zero, List.set_cons_succ]
          refine wpAnyH_take (i := 5) (v := ?_) (by (simp only [List.getElem?_toArray, List.getElem?_cons_zero, List.getElem?_cons_succ]); rfl) (by kernel_rfl) (by kernel_rfl) (by kernel_rfl) (by exact fun _ _ _ h => h) (Or.inl ⟨by rfl, by (intro w hSw; (try dsimp only at hSw); go_simp; (try with_reducible rfl))⟩) (by assumption) ?_
          try simp only [Act.put, List.setIfInBounds_toArray, List.set_cons_zero, List.set_cons_succ]
          refine wpAnyH_take (i := 6) (v := ?_) (by (simp only [List.getElem?_toArray, List.getElem?_cons_zero, List.getElem?_cons_succ]); rfl) (by kernel_rfl) (by kernel_rfl) (by kernel_rfl) (by exact fun _ _ _ h => h) (Or.inl ⟨by rfl, by (intro w hSw; (try dsimp only at hSw); go_simp; (try with_reducible rfl))⟩) (by assumption) ?_
          try simp only [Act.put, List.setIfInBounds_toArray, List.set_cons_zero, List.set_cons_succ]
          refine wpAnyH_take (i := 7) (v := ?_) (by (simp only [List.getElem?_toArray, List.getElem?_cons_zero, List.getElem?_cons_succ]); rfl) (by kernel_rfl) (by kernel_rfl) (by kernel_rfl) (by exact fun _ _ _ h => h) (Or.inl ⟨by rfl, by (intro w hSw; (try dsimp only at hSw); go_simp; (try with_reducible rfl))⟩) (by assumption) ?_
          try simp only [Act.put, List.setIfInBounds_toArray, List.set_cons_zero, List.set_cons_succ]
          refine wpAnyH_take (i := 8) (v := ?_) (by (simp only [List.getElem?_toArray, List.getElem?_cons_zero, List.getElem?_cons_succ]); rfl) (by kernel_rfl) (by kernel_rfl) (by kernel_rfl) (by exact fun _ _ _ h => h) (Or.inl ⟨by rfl, by (intro w hSw; (try dsimp only at hSw); go_simp; (try with_reducible rfl))⟩) (by assumption) ?_
          try simp only [Act.put, List.setIfInBounds_toArray, List.set_cons_zero, List.set_cons_succ]
          refine wpAnyH_take (i := 9) (v := ?_) (by (simp only [List.getElem?_toArray, List.getElem?_cons_zero, List.getElem?_cons_succ]); rfl) (by kernel_rfl) (by kernel_rfl) (by kernel_rfl) (by exact fun _ _ _ h => h) (Or.inl ⟨by rfl, by (intro w hSw; (try dsimp only at hSw); go_simp; (try with_reducible rfl))⟩) (by assumption) ?_
          try simp only [Act.put, List.setIfInBounds_toArray, List.set_cons_zero, List.set_cons_succ]
          refine wpAnyH_take (i := 11) (v := ?_) (by (simp only [List.getElem?_toArray, List.getElem?_cons_zero, List.getElem?_cons_succ]); rfl) (by kernel_rfl) (by kernel_rfl) (by kernel_rfl) (by exact fun _ _ _ h => h) (Or.inl ⟨by rfl, by (intro w hSw; (try dsimp only at hSw); go_simp; (try with_reducible rfl))⟩) (by assumption) ?_
          try simp only [Act.put, List.setIfInBounds_toArray, List.set_cons_zero, List.set_cons_succ]
          refine wpAnyH_ready (rs := [10]) (by kernel_rfl) (by simp) ?_
          refine AllReadyH.cons (by (simp only [List.getElem?_toArray, List.getElem?_cons_zero, List.getElem?_cons_succ]); rfl) (fun K hK => ?_) AllReadyH.nil
          go_simp
          go_at_call 24; (with_reducible refine (key1_calls v b B0 KB d0 f _ (Kd.C_below HG.out.1 hba.out) (Kd.C_below HG.out.2 hba.out)).mono ?_); rintro e' w4 ⟨A4, k4, rfl, hk4, hb4⟩; have hd1 := below_then hba.out hba.out.size hb4
          refine hK.out _ _ (by first | (refine ⟨(by repeat (first | (with_reducible refine cell_dr ?_) | (with_reducible refine cell_al ?_ _) | with_reducible exact c1 | with_reducible exact cell_later hd1 c1 | with_reducible exact cell_later hd2 c1)), (by repeat (first | (with_reducible refine cell_dr ?_) | (with_reducible refine cell_al ?_ _) | with_reducible exact c3 | with_reducible exact cell_later hd1 c3 | with_reducible exact cell_later hd2 c3)), (by repeat (first | (with_reducible refine cell_dr ?_) | (with_reducible refine cell_al ?_ _) | with_reducible exact y0 | with_reducible exact cell_later hd1 y0 | with_reducible exact cell_later hd2 y0)), (by repeat (first | (with_reducible refine cell_dr ?_) | (with_reducible refine cell_al ?_ _) | with_reducible exact y1 | with_reducible exact cell_later hd1 y1 | with_reducible exact cell_later hd2 y1))⟩) | fail) (fun hHeld2 => ?_)
          clear hK K hHeld
          have hHeld := hHeld2
          clear hHeld2
          try simp only [Act.put, List.setIfInBounds_toArray, List.set_cons_zero, List.set_cons_succ]
          refine wpAnyH_ready (rs := [12]) (by kernel_rfl) (by simp) ?_
          refine AllReadyH.cons (by (simp only [List.getElem?_toArray, List.getElem?_cons_zero, List.getElem?_cons_succ]); rfl) (fun K hK => ?_) AllReadyH.nil
          go_simp
          go_at_call 9; (with_reducible refine (cmp1_calls v v1 A4 AK k4 ck _ (Kd.F_now hk4) (Kd.C_below HF4.out hd1)).mono ?_); rintro e' w5 ⟨rfl, hb5⟩; have hd2 := below_then hd1 hd1.size hb5
          refine hK.out _ _ (by first | (refine ⟨(by repeat (first | (with_reducible refine cell_dr ?_) | (with_reducible refine cell_al ?_ _) | with_reducible exact c1 | with_reducible exact cell_later hd1 c1 | with_reducible exact cell_later hd2 c1)), (by repeat (first | (with_reducible refine cell_dr ?_) | (with_reducible refine cell_al ?_ _) | with_reducible exact c3 | with_reducible exact cell_later hd1 c3 | with_reducible exact cell_later hd2 c3)), (by repeat (first | (with_reducible refine cell_dr ?_) | (with_reducible refine cell_al ?_ _) | with_reducible exact y0 | with_reducible exact cell_later hd1 y0 | with_reducible exact cell_later hd2 y0)), (by repeat (first | (with_reducible refine cell_dr ?_) | (with_reducible refine cell_al ?_ _) | with_reducible exact y1 | with_reducible exact cell_later hd1 y1 | with_reducible exact cell_later hd2 y1))⟩) | fail) (fun hHeld2 => ?_)
          clear hK K hHeld
          have hHeld := hHeld2
          clear hHeld2
          try simp only [Act.put, List.setIfInBounds_toArray, List.set_cons_zero, List.set_cons_succ]
          refine wpAnyH_take (i := 13) (v := ?_) (by (simp only [List.getElem?_toArray, List.getElem?_cons_zero, List.getElem?_cons_succ]); rfl) (by kernel_rfl) (by kernel_rfl) (by kernel_rfl) (by exact fun _ _ _ h => h) (Or.inl ⟨by rfl, by (intro w hSw; (try dsimp only at hSw); go_simp; (try with_reducible rfl))⟩) (by assumption) ?_
          try simp only [Act.put, List.setIfInBounds_toArray, List.set_cons_zero, List.set_cons_succ]
          refine wpAnyH_take (i := 14) (v := ?_) (by (simp only [List.getElem?_toArray, List.getElem?_cons_zero, List.getElem?_cons_succ]); rfl) (by kernel_rfl) (by kernel_rfl) (by kernel_rfl) (by exact fun _ _ _ h => h) (Or.inl ⟨by rfl, by (intro w hSw; (try dsimp only at hSw); go_simp; (try with_reducible rfl))⟩) (by assumption) ?_
          try simp only [Act.put, List.setIfInBounds_toArray, List.set_cons_zero, List.set_cons_succ]
          refine wpAnyH_done (by kernel_rfl) ?_ _
          obtain rfl := HIE.out
          have HV5 := Aside0.mk (below_then HV.out HV.out.size hd2)
          clear c1 c3 y0 y1 hd1 hd2 hb4 hb5 hk4 hba hz hz0 hz1
          try clear hHeld
          gi_upto_region 12 with (fail)
          have o0 := cell_later HV5.out (box1 HO3.out)
          have ca := cell_later HV5.out (box1 HA3.out)
          have c0 := cell_later HV5.out (box1 HP3.out.1)
          have c1 := cell_later HV5.out (box1 HP3.out.2.1)
          obtain ⟨q0, q1, q2, q3, q4, q5, q6⟩ := box7 (blk_below HP3.out.2.2.2.1 HV5.out)
          obtain ⟨z0, z1⟩ := box2 (blk_below HP3.out.2.2.2.2 HV5.out)
          have HBD := Aside0.mk (below_drew (below_then HB3.out HB3.out.size HV5.out))
          have hba := Aside0.mk (below_drew (Below.refl w5.heap.size w5))
          have hs1 : (1 : Int) ≤ (c : Int) + 3 := by omega
          have hs2 : (0 : Int) ≤ (d : Int) + 3 := by omega
          refine wpIn_region_held_drew (S := (fun w' => w'.cell? ⟨gO, 0, none⟩ = some (.slice oA oN oC) ∧ w'.cell? ⟨p0, 0, none⟩ = some (.slice (some ad) 3 (c + 3)) ∧ w'.cell? ⟨Bx, 0, none⟩ = some (.int .i64 0) ∧ w'.cell? ⟨Bx, 1, none⟩ = some (.int .i64 1) ∧ w'.cell? ⟨p1, 0, none⟩ = some (.slice (some bd) 3 (d + 3)) ∧ w'.cell? ⟨gA, 0, none⟩ = some (.int .i64 0) ∧ w'.cell? ⟨p4, 0, none⟩ = some (.int .i64 0) ∧ w'.cell? ⟨p4, 1, none⟩ = some (.int .i64 0) ∧ w'.cell? ⟨p4, 2, none⟩ = some (.int .i64 2) ∧ w'.cell? ⟨p4, 3, none⟩ = some (.int .i64 1) ∧ w'.cell? ⟨p4, 4, none⟩ = some (.string ⟨#[]⟩) ∧ w'.cell? ⟨p4, 5, none⟩ = some (.int .i64 0) ∧ w'.cell? ⟨p4, 6, none⟩ = some (.slice none 0 0))) (by kernel_rfl) (noDefer_of (by kernel_rfl)) (fun ⟨_, _, h⟩ => h) (by first | (refine ⟨(by repeat (first | (with_reducible refine cell_dr ?_) | (with_reducible refine cell_al ?_ _) | with_reducible exact o0 | with_reducible exact cell_later hd3 o0)), (by repeat (first | (with_reducible refine cell_dr ?_) | (with_reducible refine cell_al ?_ _) | with_reducible exact c0 | with_reducible exact cell_later hd3 c0)), (by repeat (first | (with_reducible refine cell_dr ?_) | (with_reducible refine cell_al ?_ _) | with_reducible exact z0 | with_reducible exact cell_later hd3 z0)), (by repeat (first | (with_reducible refine cell_dr ?_) | (with_reducible refine cell_al ?_ _) | with_reducible exact z1 | with_reducible exact cell_later hd3 z1)), (by repeat (first | (with_reducible refine cell_dr ?_) | (with_reducible refine cell_al ?_ _) | with_reducible exact c1 | with_reducible exact cell_later hd3 c1)), (by repeat (first | (with_reducible refine cell_dr ?_) | (with_reducible refine cell_al ?_ _) | with_reducible exact ca | with_reducible exact cell_later hd3 ca)), (by repeat (first | (with_reducible refine cell_dr ?_) | (with_reducible refine cell_al ?_ _) | with_reducible exact q0 | with_reducible exact cell_later hd3 q0)), (by repeat (first | (with_reducible refine cell_dr ?_) | (with_reducible refine cell_al ?_ _) | with_reducible exact q1 | with_reducible exact cell_later hd3 q1)), (by repeat (first | (with_reducible refine cell_dr ?_) | (with_reducible refine cell_al ?_ _) | with_reducible exact q2 | with_reducible exact cell_later hd3 q2)), (by repeat (first | (with_reducible refine cell_dr ?_) | (with_reducible refine cell_al ?_ _) | with_reducible exact q3 | with_reducible exact cell_later hd3 q3)), (by repeat (first | (with_reducible refine cell_dr ?_) | (with_reducible refine cell_al ?_ _) | with_reducible exact q4 | with_reducible exact cell_later hd3 q4)), (by repeat (first | (with_reducible refine cell_dr ?_) | (with_reducible refine cell_al ?_ _) | with_reducible exact q5 | with_reducible exact cell_later hd3 q5)), (by repeat (first | (with_reducible refine cell_dr ?_) | (with_reducible refine cell_al ?_ _) | with_reducible exact q6 | with_reducible exact cell_later hd3 q6))⟩) | fail) (fun hHeld => ?_)
          refine wpAnyH_take (i := 0) (v := ?_) (by (simp only [List.getElem?_toArray, List.getElem?_cons_zero, List.getElem?_cons_succ]); rfl) (by kernel_rfl) (by kernel_rfl) (by kernel_rfl) (by exact fun _ _ _ h => h) (Or.inl ⟨by rfl, by (intro w hSw; (try dsimp only at hSw); go_simp; (try with_reducible rfl))⟩) (by assumption) ?_
          try simp only [Act.put, List.setIfInBounds_toArray, List.set_cons_zero, List.set_cons_succ]
          refine wpAnyH_take (i := 1) (v := ?_) (by (simp only [List.getElem?_toArray, List.getElem?_cons_zero, List.getElem?_cons_succ]); rfl) (by kernel_rfl) (by kernel_rfl) (by kernel_rfl) (by exact fun _ _ _ h => h) (Or.inl ⟨by rfl, by (intro w hSw; (try dsimp only at hSw); go_simp; (try with_reducible rfl))⟩) (by assumption) ?_
          try simp only [Act.put, List.setIfInBounds_toArray, List.set_cons_zero, List.set_cons_succ]
          refine wpAnyH_take (i := 2) (v := ?_) (by (simp only [List.getElem?_toArray, List.getElem?_cons_zero, List.getElem?_cons_succ]); rfl) (by kernel_rfl) (by kernel_rfl) (by kernel_rfl) (by exact fun _ _ _ h => h) (Or.inl ⟨by rfl, by (intro w hSw; (try dsimp only at hSw); go_simp; (try with_reducible rfl))⟩) (by assumption) ?_
          try simp only [Act.put, List.setIfInBounds_toArray, List.set_cons_zero, List.set_cons_succ]
          refine wpAnyH_take (i := 3) (v := ?_) (by (simp only [List.getElem?_toArray, List.getElem?_cons_zero, List.getElem?_cons_succ]); rfl) (by kernel_rfl) (by kernel_rfl) (by kernel_rfl) (by exact fun _ _ _ h => h) (Or.inl ⟨by rfl, by (intro w hSw; (try dsimp only at hSw); go_simp; (try with_reducible rfl))⟩) (by assumption) ?_
          try simp only [Act.put, List.setIfInBounds_toArray, List.set_cons_zero, List.set_cons_succ]
          refine wpAnyH_take (i := 4) (v := ?_) (by (simp only [List.getElem?_toArray, List.getElem?_cons_zero, List.getElem?_cons_succ]); rfl) (by kernel_rfl) (by kernel_rfl) (by kernel_rfl) (by exact fun _ _ _ h => h) (Or.inl ⟨by rfl, by (intro w hSw; (try dsimp only at hSw); go_simp; (try with_reducible rfl))⟩) (by assumption) ?_
          try simp only [Act.put, List.setIfInBounds_toArray, List.set_cons_zero, List.set_cons_succ]
          refine wpAnyH_take (i := 5) (v := ?_) (by (simp only [List.getElem?_toArray, List.getElem?_cons_zero, List.getElem?_cons_succ]); rfl) (by kernel_rfl) (by kernel_rfl) (by kernel_rfl) (by exact fun _ _ _ h => h) (Or.inl ⟨by rfl, by (intro w hSw; (try dsimp only at hSw); go_simp; (try with_reducible rfl))⟩) (by assumption) ?_
          try simp only [Act.put, List.setIfInBounds_toArray, List.set_cons_zero, List.set_cons_succ]
          refine wpAnyH_take (i := 6) (v := ?_) (by (simp only [List.getElem?_toArray, List.getElem?_cons_zero, List.getElem?_cons_succ]); rfl) (by kernel_rfl) (by kernel_rfl) (by kernel_rfl) (by exact fun _ _ _ h => h) (Or.inl ⟨by rfl, by (intro w hSw; (try dsimp only at hSw); go_simp; (try with_reducible rfl))⟩) (by assumption) ?_
          try simp only [Act.put, List.setIfInBounds_toArray, List.set_cons_zero, List.set_cons_succ]
          refine wpAnyH_take (i := 7) (v := ?_) (by (simp only [List.getElem?_toArray, List.getElem?_cons_zero, List.getElem?_cons_succ]); rfl) (by kernel_rfl) (by kernel_rfl) (by kernel_rfl) (by exact fun _ _ _ h => h) (Or.inl ⟨by rfl, by (intro w hSw; (try dsimp only at hSw); go_simp; (try with_reducible rfl))⟩) (by assumption) ?_
          try simp only [Act.put, List.setIfInBounds_toArray, List.set_cons_zero, List.set_cons_succ]
          refine wpAnyH_take (i := 8) (v := ?_) (by (simp only [List.getElem?_toArray, List.getElem?_cons_zero, List.getElem?_cons_succ]); rfl) (by kernel_rfl) (by kernel_rfl) (by kernel_rfl) (by exact fun _ _ _ h => h) (Or.inl ⟨by rfl, by (intro w hSw; (try dsimp only at hSw); go_simp; (try with_reducible rfl))⟩) (by assumption) ?_
          try simp only [Act.put, List.setIfInBounds_toArray, List.set_cons_zero, List.set_cons_succ]
          refine wpAnyH_take (i := 9) (v := ?_) (by (simp only [List.getElem?_toArray, List.getElem?_cons_zero, List.getElem?_cons_succ]); rfl) (by kernel_rfl) (by kernel_rfl) (by kernel_rfl) (by exact fun _ _ _ h => h) (Or.inl ⟨by rfl, by (intro w hSw; (try dsimp only at hSw); go_simp; (try with_reducible rfl))⟩) (by assumption) ?_
          try simp only [Act.put, List.setIfInBounds_toArray, List.set_cons_zero, List.set_cons_succ]
          refine wpAnyH_take (i := 10) (v := ?_) (by (simp only [List.getElem?_toArray, List.getElem?_cons_zero, List.getElem?_cons_succ]); rfl) (by kernel_rfl) (by kernel_rfl) (by kernel_rfl) (by exact fun _ _ _ h => h) (Or.inl ⟨by rfl, by (intro w hSw; (try dsimp only at hSw); go_simp; (try with_reducible rfl))⟩) (by assumption) ?_
          try simp only [Act.put, List.setIfInBounds_toArray, List.set_cons_zero, List.set_cons_succ]
          refine wpAnyH_take (i := 11) (v := ?_) (by (simp only [List.getElem?_toArray, List.getElem?_cons_zero, List.getElem?_cons_succ]); rfl) (by kernel_rfl) (by kernel_rfl) (by kernel_rfl) (by exact fun _ _ _ h => h) (Or.inl ⟨by rfl, by (intro w hSw; (try dsimp only at hSw); go_simp; (try with_reducible rfl))⟩) (by assumption) ?_
          try simp only [Act.put, List.setIfInBounds_toArray, List.set_cons_zero, List.set_cons_succ]
          refine wpAnyH_ready (rs := [12]) (by kernel_rfl) (by simp) ?_
          refine AllReadyH.cons (by (simp only [List.getElem?_toArray, List.getElem?_cons_zero, List.getElem?_cons_succ]); rfl) (fun K hK => ?_) AllReadyH.nil
          go_simp
          go_at_call 26; (with_reducible refine (HR.out.pairs _ HBD.out).mono ?_); rintro e' w6 ⟨A6, n6, c6, rfl, hnx, hb6⟩; have hd3 := below_then hba.out hba.out.size hb6
          refine hK.out _ _ (by first | (refine ⟨(by repeat (first | (with_reducible refine cell_dr ?_) | (with_reducible refine cell_al ?_ _) | with_reducible exact o0 | with_reducible exact cell_later hd3 o0)), (by repeat (first | (with_reducible refine cell_dr ?_) | (with_reducible refine cell_al ?_ _) | with_reducible exact c0 | with_reducible exact cell_later hd3 c0)), (by repeat (first | (with_reducible refine cell_dr ?_) | (with_reducible refine cell_al ?_ _) | with_reducible exact z0 | with_reducible exact cell_later hd3 z0)), (by repeat (first | (with_reducible refine cell_dr ?_) | (with_reducible refine cell_al ?_ _) | with_reducible exact z1 | with_reducible exact cell_later hd3 z1)), (by repeat (first | (with_reducible refine cell_dr ?_) | (with_reducible refine cell_al ?_ _) | with_reducible exact c1 | with_reducible exact cell_later hd3 c1)), (by repeat (first | (with_reducible refine cell_dr ?_) | (with_reducible refine cell_al ?_ _) | with_reducible exact ca | with_reducible exact cell_later hd3 ca)), (by repeat (first | (with_reducible refine cell_dr ?_) | (with_reducible refine cell_al ?_ _) | with_reducible exact q0 | with_reducible exact cell_later hd3 q0)), (by repeat (first | (with_reducible refine cell_dr ?_) | (with_reducible refine cell_al ?_ _) | with_reducible exact q1 | with_reducible exact cell_later hd3 q1)), (by repeat (first | (with_reducible refine cell_dr ?_) | (with_reducible refine cell_al ?_ _) | with_reducible exact q2 | with_reducible exact cell_later hd3 q2)), (by repeat (first | (with_reducible refine cell_dr ?_) | (with_reducible refine cell_al ?_ _) | with_reducible exact q3 | with_reducible exact cell_later hd3 q3)), (by repeat (first | (with_reducible refine cell_dr ?_) | (with_reducible refine cell_al ?_ _) | with_reducible exact q4 | with_reducible exact cell_later hd3 q4)), (by repeat (first | (with_reducible refine cell_dr ?_) | (with_reducible refine cell_al ?_ _) | with_reducible exact q5 | with_reducible exact cell_later hd3 q5)), (by repeat (first | (with_reducible refine cell_dr ?_) | (with_reducible refine cell_al ?_ _) | with_reducible exact q6 | with_reducible exact cell_later hd3 q6))⟩) | fail) (fun hHeld2 => ?_)
          clear hK K hHeld
          have hHeld := hHeld2
          clear hHeld2
          try simp only [Act.put, List.setIfInBounds_toArray, List.set_cons_zero, List.set_cons_succ]
          refine wpAnyH_take (i := 13) (v := ?_) (by (simp only [List.getElem?_toArray, List.getElem?_cons_zero, List.getElem?_cons_succ]); rfl) (by kernel_rfl) (by kernel_rfl) (by kernel_rfl) (by exact fun _ _ _ h => h) (Or.inl ⟨by rfl, by (intro w hSw; (try dsimp only at hSw); go_simp; (try with_reducible rfl))⟩) (by assumption) ?_
          try simp only [Act.put, List.setIfInBounds_toArray, List.set_cons_zero, List.set_cons_succ]
          refine wpAnyH_take (i := 14) (v := ?_) (by (simp only [List.getElem?_toArray, List.getElem?_cons_zero, List.getElem?_cons_succ]); rfl) (by kernel_rfl) (by kernel_rfl) (by kernel_rfl) (by exact fun _ _ _ h => h) (Or.inl ⟨by rfl, by (intro w hSw; (try dsimp only at hSw); go_simp; (try with_reducible rfl))⟩) (by assumption) ?_
          try simp only [Act.put, List.setIfInBounds_toArray, List.set_cons_zero, List.set_cons_succ]
          refine wpAnyH_take (i := 15) (v := ?_) (by (simp only [List.getElem?_toArray, List.getElem?_cons_zero, List.getElem?_cons_succ]); rfl) (by kernel_rfl) (by kernel_rfl) (by kernel_rfl) (by exact fun _ _ _ h => h) (Or.inl ⟨by rfl, by (intro w hSw; (try dsimp only at hSw); go_simp; (try with_reducible rfl))⟩) (by assumption) ?_
          try simp only [Act.put, List.setIfInBounds_toArray, List.set_cons_zero, List.set_cons_succ]
          refine wpAnyH_take (i := 16) (v := ?_) (by (simp only [List.getElem?_toArray, List.getElem?_cons_zero, List.getElem?_cons_succ]); rfl) (by kernel_rfl) (by kernel_rfl) (by kernel_rfl) (by exact fun _ _ _ h => h) (Or.inl ⟨by rfl, by (intro w hSw; (try dsimp only at hSw); go_simp; (try with_reducible rfl))⟩) (by assumption) ?_
          try simp only [Act.put, List.setIfInBounds_toArray, List.set_cons_zero, List.set_cons_succ]
          refine wpAnyH_take (i := 17) (v := ?_) (by (simp only [List.getElem?_toArray, List.getElem?_cons_zero, List.getElem?_cons_succ]); rfl) (by kernel_rfl) (by kernel_rfl) (by kernel_rfl) (by exact fun _ _ _ h => h) (Or.inl ⟨by rfl, by (intro w hSw; (try dsimp only at hSw); go_simp; (try with_reducible rfl))⟩) (by assumption) ?_
          try simp only [Act.put, List.setIfInBounds_toArray, List.set_cons_zero, List.set_cons_succ]
          refine wpAnyH_done (by kernel_rfl) ?_ _
          have HV6 := Aside0.mk (below_then HV5.out HV5.out.size hd3)
          have HNX := Aside0.mk hnx
          clear o0 ca c0 c1 q0 q1 q2 q3 q4 q5 q6 z0 z1 hba hd3 hb6 hnx hs1 hs2
          try clear hHeld
          gi_upto_region 15 with (fail)
          have ho6 := blk_below HO3.out HV6.out
          have ha6 := blk_below HA3.out HV6.out
          have o0 := box1 ho6
          have ca := box1 ha6
          have fo := blk_frozen ho6 0
          have fa := blk_frozen ha6 0
          have hord := HORD.out.2
          have hp00 := HORD.out.1
          have hgn : gO < gA := hord.2.2.2.2.2.2.2.1
          have hne : gO ≠ gA := by omega
          have ho7 := blk_far (p := ⟨gA, 0, none⟩) (blk_set ho6 0 (.slice A6 n6 c6)) (show gO ≠ gA by omega) (.int .i64 0)
          have ha7 := blk_set (blk_far (p := ⟨gO, 0, none⟩) ha6 (show gA ≠ gO by omega) (.slice A6 n6 c6)) 0 (.int .i64 0)
          have hK7 := ((HK3.out.below HV6.out).set (.inl rfl) 0 (.slice A6 n6 c6)).set (.inr rfl) 0 (.int .i64 0)
          gi_wp2
          obtain ⟨W7, hW7⟩ : ∃ W7, (w6.setCell ⟨gO, 0, none⟩ (.slice A6 n6 c6)).setCell ⟨gA, 0, none⟩ (.int .i64 0) = W7 := ⟨_, rfl⟩
          rw [hW7] at ho7 ha7 hK7 ⊢
          have hst := HNX.out W7 ho7 ha7
          refine ⟨hK7.keeps HR.out.ho rfl HR.out.ha rfl, hK7.kpG HJ.out.b.size (by omega) (by omega) HJ.out.m1 HJ.out.m2 ⟨by omega, by omega⟩, ?_⟩
          dsimp only
          rw [List.map_append]
          exact HJ.out.kept hK7 hp00 hord hst
    · cases he
      have HR := Aside0.mk hR
      have HBX := Aside0.mk (And.intro bX (And.intro hBx (And.intro hlt hl)))
      have z0 := (box2 bX).1
      have c0 := box1 HJ.out.k0
      have c2 := box1 HJ.out.k2
      obtain ⟨A0, k0, u0, u1, g0⟩ := left0 (HA.out.1.later HJ.out.b).l
      have HG := Aside0.mk (And.intro g0 (HA.out.1.later HJ.out.b).kl)
      have hba := Aside0.mk (below_drew (Below.refl W.heap.size W))
      clear g0 hR bX hBx hlt hl hJ hr
      dsimp only
      gi_upto_region 7 with (fail)
      refine wpIn_region_held_drew (S := (fun w' => w'.cell? ⟨p0, 0, none⟩ = some (.slice (some ad) 3 (c + 3)) ∧ w'.cell? ⟨p2, 0, none⟩ = some (.slice KA 1 e) ∧ w'.cell? ⟨Bx, 0, none⟩ = some (.int .i64 0) ∧ w'.cell? ad = some (.slice A0 1 k0) ∧ w'.cell? ⟨ad.block, ad.off + 1, none⟩ = some (.slice a0.1 a0.2.1 a0.2.2))) (by kernel_rfl) (noDefer_of (by kernel_rfl)) (fun ⟨_, _, h⟩ => h) (by first | (refine ⟨(by repeat (first | (with_reducible refine cell_dr ?_) | (with_reducible refine cell_al ?_ _) | with_reducible exact c0 | with_reducible exact cell_later hc1 c0)), (by repeat (first | (with_reducible refine cell_dr ?_) | (with_reducible refine cell_al ?_ _) | with_reducible exact c2 | with_reducible exact cell_later hc1 c2)), (by repeat (first | (with_reducible refine cell_dr ?_) | (with_reducible refine cell_al ?_ _) | with_reducible exact z0 | with_reducible exact cell_later hc1 z0)), (by repeat (first | (with_reducible refine cell_dr ?_) | (with_reducible refine cell_al ?_ _) | with_reducible exact u0 | with_reducible exact cell_later hc1 u0)), (by repeat (first | (with_reducible refine cell_dr ?_) | (with_reducible refine cell_al ?_ _) | with_reducible exact u1 | with_reducible exact cell_later hc1 u1))⟩) | fail) (fun hHeld => ?_)
      refine wpAnyH_take (i := 0) (v := ?_) (by (simp only [List.getElem?_toArray, List.getElem?_cons_zero, List.getElem?_cons_succ]); rfl) (by kernel_rfl) (by kernel_rfl) (by kernel_rfl) (by exact fun _ _ _ h => h) (Or.inl ⟨by rfl, by (intro w hSw; (try dsimp only at hSw); go_simp; (try with_reducible rfl))⟩) (by assumption) ?_
      try simp only [Act.put, List.setIfInBounds_toArray, List.set_cons_zero, List.set_cons_succ]
      refine wpAnyH_take (i := 1) (v := ?_) (by (simp only [List.getElem?_toArray, List.getElem?_cons_zero, List.getElem?_cons_succ]); rfl) (by kernel_rfl) (by kernel_rfl) (by kernel_rfl) (by exact fun _ _ _ h => h) (Or.inl ⟨by rfl, by (intro w hSw; (try dsimp only at hSw); go_simp; (try with_reducible rfl))⟩) (by assumption) ?_
      try simp only [Act.put, List.setIfInBounds_toArray, List.set_cons_zero, List.set_cons_succ]
      refine wpAnyH_take (i := 2) (v := ?_) (by (simp only [List.getElem?_toArray, List.getElem?_cons_zero, List.getElem?_cons_succ]); rfl) (by kernel_rfl) (by kernel_rfl) (by kernel_rfl) (by exact fun _ _ _ h => h) (Or.inl ⟨by rfl, by (intro w hSw; (try dsimp only at hSw); go_simp; (try with_reducible rfl))⟩) (by assumption) ?_
      try simp only [Act.put, List.setIfInBounds_toArray, List.set_cons_zero, List.set_cons_succ]
      refine wpAnyH_take (i := 3) (v := ?_) (by (simp only [List.getElem?_toArray, List.getElem?_cons_zero, List.getElem?_cons_succ]); rfl) (by kernel_rfl) (by kernel_rfl) (by kernel_rfl) (by exact fun _ _ _ h => h) (Or.inl ⟨by rfl, by (intro w hSw; (try dsimp only at hSw); go_simp; (try with_reducible rfl))⟩) (by assumption) ?_
      try simp only [Act.put, List.setIfInBounds_toArray, List.set_cons_zero, List.set_cons_succ]
      refine wpAnyH_take (i := 4) (v := ?_) (by (simp only [List.getElem?_toArray, List.getElem?_cons_zero, List.getElem?_cons_succ]); rfl) (by kernel_rfl) (by kernel_rfl) (by kernel_rfl) (by exact fun _ _ _ h => h) (Or.inl ⟨by rfl, by (intro w hSw; (try dsimp only at hSw); go_simp; (try with_reducible rfl))⟩) (by assumption) ?_
      try simp only [Act.put, List.setIfInBounds_toArray, List.set_cons_zero, List.set_cons_succ]
      refine wpAnyH_take (i := 5) (v := ?_) (by (simp only [List.getElem?_toArray, List.getElem?_cons_zero, List.getElem?_cons_succ]); rfl) (by kernel_rfl) (by kernel_rfl) (by kernel_rfl) (by exact fun _ _ _ h => h) (Or.inl ⟨by rfl, by (intro w hSw; (try dsimp only at hSw); go_simp; (try with_reducible rfl))⟩) (by assumption) ?_
      try simp only [Act.put, List.setIfInBounds_toArray, List.set_cons_zero, List.set_cons_succ]
      refine wpAnyH_ready (rs := [6]) (by kernel_rfl) (by simp) ?_
      refine AllReadyH.cons (by (simp only [List.getElem?_toArray, List.getElem?_cons_zero, List.getElem?_cons_succ]); rfl) (fun K hK => ?_) AllReadyH.nil
      go_simp
      go_at_call 24; (with_reducible refine (key1_calls v1 a0 A0 KA k0 e _ (Kd.C_below HG.out.1 hba.out) (Kd.C_below HG.out.2 hba.out)).mono ?_); rintro e' w1 ⟨AK, ck, rfl, hk1, hb1⟩; have hc1 := below_then hba.out hba.out.size hb1
      refine hK.out _ _ (by first | (refine ⟨(by repeat (first | (with_reducible refine cell_dr ?_) | (with_reducible refine cell_al ?_ _) | with_reducible exact c0 | with_reducible exact cell_later hc1 c0)), (by repeat (first | (with_reducible refine cell_dr ?_) | (with_reducible refine cell_al ?_ _) | with_reducible exact c2 | with_reducible exact cell_later hc1 c2)), (by repeat (first | (with_reducible refine cell_dr ?_) | (with_reducible refine cell_al ?_ _) | with_reducible exact z0 | with_reducible exact cell_later hc1 z0)), (by repeat (first | (with_reducible refine cell_dr ?_) | (with_reducible refine cell_al ?_ _) | with_reducible exact u0 | with_reducible exact cell_later hc1 u0)), (by repeat (first | (with_reducible refine cell_dr ?_) | (with_reducible refine cell_al ?_ _) | with_reducible exact u1 | with_reducible exact cell_later hc1 u1))⟩) | fail) (fun hHeld2 => ?_)
      clear hK K hHeld
      have hHeld := hHeld2
      clear hHeld2
      try simp only [Act.put, List.setIfInBounds_toArray, List.set_cons_zero, List.set_cons_succ]
      refine wpAnyH_take (i := 7) (v := ?_) (by (simp only [List.getElem?_toArray, List.getElem?_cons_zero, List.getElem?_cons_succ]); rfl) (by kernel_rfl) (by kernel_rfl) (by kernel_rfl) (by exact fun _ _ _ h => h) (Or.inl ⟨by rfl, by (intro w hSw; (try dsimp only at hSw); go_simp; (try with_reducible rfl))⟩) (by assumption) ?_
      try simp only [Act.put, List.setIfInBounds_toArray, List.set_cons_zero, List.set_cons_succ]
      refine wpAnyH_done (by kernel_rfl) ?_ _
      have HC1 := Aside0.mk hc1
      have HK1 := Aside0.mk hk1
      have HB1 := Aside0.mk (below_then HJ.out.b HJ.out.b.size hc1)
      have HJ1 := Aside0.mk (HA.out.1.later HB1.out)
      have c1 := cell_later hc1 (box1 HJ.out.k1)
      have c3 := cell_later hc1 (box1 HJ.out.k3)
      have qa := cell_later hc1 (box1 HR.out.ha)
      clear c0 c2 z0 u0 u1 hc1 hk1 hb1 hba HG
      try clear hHeld
      gi_upto_region 9 with (first | (refine ⟨trivial, (fun h => by cases h), ?_⟩; gi_at_call 22; (with_reducible refine (((callsIn_wide (n := _)).2 (adv1_calls (rsR b0 b1 b2) rfl (keyed_rs b0 b1 b2) v1 2 (by decide) (by decide) HR.out.adv (some bd) KB AK (d + 3) f ck _ HJ1.out.r HJ1.out.kr (Kd.F_now HK1.out))).inRound l).mono ?_); rintro e' w2 ⟨rfl, hb2⟩; have HBq := Aside0.mk hb2; have qb := cell_later hb2 qa; have fz := blk_frozen (blk_below (blk_below HR.out.ha HC1.out) hb2) 0; clear hb2) | fail)
      have hord := HORD.out.2
      have hA3 := blk_set (blk_below (blk_below HR.out.ha HC1.out) HBq.out) 0 (.int .i64 2)
      have hK3 := ((KpO.of_below (gO := gO) (gA := gA) HC1.out).below HBq.out).set (.inr rfl) 0 (.int .i64 2)
      have hF3 : Kd.F k42 (w2.setCell ⟨gA, 0, none⟩ (.int .i64 2)) (fun k => W.heap.size ≤ k) AK 1 [v1] := Kd.F_step (Kd.F_below HK1.out HBq.out) (fun k hk _ => Below.heap_setCell w2 ⟨gA, 0, none⟩ _ k (show k ≠ gA by have := lt_of_heap HR.out.ha; omega))
      obtain ⟨W3, hW3⟩ : ∃ W3, w2.setCell ⟨gA, 0, none⟩ (.int .i64 2) = W3 := ⟨_, rfl⟩
      rw [hW3] at hA3 hK3 hF3 ⊢
      have HA3 := Aside0.mk hA3
      have HK3 := Aside0.mk hK3
      have HF3 := Aside0.mk hF3
      have hp00 := HORD.out.1
      have HB3 := Aside0.mk (hK3.far HJ.out.b HJ.out.b.size (by omega) (by omega))
      have go : ∀ {k : Nat} {o : Obj}, W.heap[k]? = some o → k ≠ gO → k ≠ gA → W3.heap[k]? = some o := fun hx n1 n2 => (hK3.block _ (lt_of_heap hx) n1 n2).trans hx
      have HP3 := Aside0.mk (And.intro (go HJ.out.k0 (by omega) (by omega)) (And.intro (go HJ.out.k1 (by omega) (by omega)) (And.intro (go HJ.out.k3 (by omega) (by omega)) (And.intro (go HJ.out.k4 (by omega) (by omega)) (go HBX.out.1 (by have := HBX.out.2.1; omega) (by have := HBX.out.2.1; omega))))))
      have HO3 := Aside0.mk (show W3.heap[gO]? = some (.cells #[.slice oA oN oC] 22 (0, 0)) by
        rw [← hW3]
        exact blk_far (p := ⟨gA, 0, none⟩) (blk_below (blk_below HR.out.ho HC1.out) HBq.out) (show gO ≠ gA by omega) (.int .i64 2))
      have q3 := box1 hA3
      clear hA3 hK3 hF3 hW3 go c1 c3 qa qb fz hord hp00
      gi_wp2
      clear q3
      gi_loopg [16] 1 (fun kq v16 wr => ∃ i : Int, v16 = .int .i64 i ∧ Aside0 (2 ≤ i ∧ i ≤ 2 ∧ kq = (3 - i).toNat) ∧ Aside0 (Below W3.heap.size W3 wr))
      case atStart => exact ⟨2, rfl, ⟨by decide, by decide, rfl⟩, ⟨Below.refl _ _⟩⟩
      case round =>
        obtain ⟨i, rfl, HI, HV⟩ := hrel
        obtain ⟨wo, rfl⟩ : ∃ wo : World, wo = wr := ⟨_, rfl⟩
        obtain ⟨i0, i1, i2⟩ := HI.out
        have h0i : 0 ≤ i := by omega
        have h3i : i < 3 := by omega
        obtain ⟨v, b, hrow, hcmp⟩ := HR.out.rows i i0 h3i
        have hJo := HA.out.1.later (below_then HB3.out HB3.out.size HV.out)
        obtain ⟨bd', B0, d0, e9, y0, y1, _, g0⟩ := at_R hJo.r i h0i h3i
        cases e9
        rw [hrow] at y0 y1 g0
        dsimp only at y0 y1 g0
        have HG := Aside0.mk (And.intro (show Kd.C k42 wo B0 1 [v] from g0) hJo.kr)
        change wo.cell? (bd.add (i.toNat * 2)) = some (.slice B0 1 d0) at y0
        have hb3 : decide (i < (3 : Int)) = true := decide_eq_true h3i
        have c1 := cell_later HV.out (box1 HP3.out.2.1)
        have c3 := cell_later HV.out (box1 HP3.out.2.2.1)
        have hba := Aside0.mk (below_drew (Below.refl wo.heap.size wo))
        have HF4 := Aside0.mk (Kd.F_now (Kd.F_below HF3.out HV.out))
        clear g0 hJo hrow i2
        have hIs := Aside0.mk (And.intro i0 (And.intro i1 (And.intro h0i h3i)))
        replace h0i := eq_true h0i
        replace h3i := eq_true h3i
        by_cases hi : i < 2
        · have hz : decide (cmpR [v] [v1] = 0) = true := hcmp.trans (decide_eq_true hi)
          have hz0 : cmpR [v] [v1] = 0 := of_decide_eq_true hz
          have hz1 : (cmpR [v] [v1] == 0) = true := beq_iff_eq.2 hz0
          clear hcmp i0 i1
          gi_wp2
          refine wpIn_region_held_drew (S := (fun w' => w'.cell? ⟨p1, 0, none⟩ = some (.slice (some bd) 3 (d + 3)) ∧ w'.cell? ⟨p3, 0, none⟩ = some (.slice KB 1 f) ∧ w'.cell? (bd.add (i.toNat * 2)) = some (.slice B0 1 d0) ∧ w'.cell? ⟨(bd.add (i.toNat * 2)).block, (bd.add (i.toNat * 2)).off + 1, none⟩ = some (.slice b.1 b.2.1 b.2.2))) (by kernel_rfl) (noDefer_of (by kernel_rfl)) (fun ⟨_, _, h⟩ => h) (by first | (refine ⟨(by repeat (first | (with_reducible refine cell_dr ?_) | (with_reducible refine cell_al ?_ _) | with_reducible exact c1 | with_reducible exact cell_later hd1 c1 | with_reducible exact cell_later hd2 c1)), (by repeat (first | (with_reducible refine cell_dr ?_) | (with_reducible refine cell_al ?_ _) | with_reducible exact c3 | with_reducible exact cell_later hd1 c3 | with_reducible exact cell_later hd2 c3)), (by repeat (first | (with_reducible refine cell_dr ?_) | (with_reducible refine cell_al ?_ _) | with_reducible exact y0 | with_reducible exact cell_later hd1 y0 | with_reducible exact cell_later hd2 y0)), (by repeat (first | (with_reducible refine cell_dr ?_) | (with_reducible refine cell_al ?_ _) | with_reducible exact y1 | with_reducible exact cell_later hd1 y1 | with_reducible exact cell_later hd2 y1))⟩) | fail) (fun hHeld => ?_)
          refine wpAnyH_take (i := 0) (v := ?_) (by (simp only [List.getElem?_toArray, List.getElem?_cons_zero, List.getElem?_cons_succ]); rfl) (by kernel_rfl) (by kernel_rfl) (by kernel_rfl) (by exact fun _ _ _ h => h) (Or.inl ⟨by rfl, by (intro w hSw; (try dsimp only at hSw); go_simp; (try with_reducible rfl))⟩) (by assumption) ?_
          try simp only [Act.put, List.setIfInBounds_toArray, List.set_cons_zero, List.set_cons_succ]
          refine wpAnyH_take (i := 1) (v := ?_) (by (simp only [List.getElem?_toArray, List.getElem?_cons_zero, List.getElem?_cons_succ]); rfl) (by kernel_rfl) (by kernel_rfl) (by kernel_rfl) (by exact fun _ _ _ h => h) (Or.inl ⟨by rfl, by (intro w hSw; (try dsimp only at hSw); go_simp; (try with_reducible rfl))⟩) (by assumption) ?_
          try simp only [Act.put, List.setIfInBounds_toArray, List.set_cons_zero, List.set_cons_succ]
          refine wpAnyH_take (i := 2) (v := ?_) (by (simp only [List.getElem?_toArray, List.getElem?_cons_zero, List.getElem?_cons_succ]); rfl) (by kernel_rfl) (by kernel_rfl) (by kernel_rfl) (by exact fun _ _ _ h => h) (Or.inl ⟨by rfl, by (intro w hSw; (try dsimp only at hSw); go_simp; (try with_reducible rfl))⟩) (by assumption) ?_
          try simp only [Act.put, List.setIfInBounds_toArray, List.set_cons_zero, List.set_cons_succ]
          refine wpAnyH_take (i := 3) (v := ?_) (by (simp only [List.getElem?_toArray, List.getElem?_cons_zero, List.getElem?_cons_succ]); rfl) (by kernel_rfl) (by kernel_rfl) (by kernel_rfl) (by exact fun _ _ _ h => h) (Or.inl ⟨by rfl, by (intro w hSw; (try dsimp only at hSw); go_simp; (try with_reducible rfl))⟩) (by assumption) ?_
          try simp only [Act.put, List.setIfInBounds_toArray, List.set_cons_zero, List.set_cons_succ]
          refine wpAnyH_take (i := 4) (v := ?_) (by (simp only [List.getElem?_toArray, List.getElem?_cons_zero, List.getElem?_cons_succ]); rfl) (by kernel_rfl) (by kernel_rfl) (by kernel_rfl) (by exact fun _ _ _ h => h) (Or.inl ⟨by rfl, by (intro w hSw; (try dsimp only at hSw); go_simp; (try with_reducible rfl))⟩) (by assumption) ?_
          try simp only [Act.put, List.setIfInBounds_toArray, List.set_cons_zero, List.set_cons_succ]
          refine wpAnyH_take (i := 5) (v := ?_) (by (simp only [List.getElem?_toArray, List.getElem?_cons_zero, List.getElem?_cons_succ]); rfl) (by kernel_rfl) (by kernel_rfl) (by kernel_rfl) (by exact fun _ _ _ h => h) (Or.inl ⟨by rfl, by (intro w hSw; (try dsimp only at hSw); go_simp; (try with_reducible rfl))⟩) (by assumption) ?_
          try simp only [Act.put, List.setIfInBounds_toArray, List.set_cons_zero, List.set_cons_succ]
          refine wpAnyH_take (i := 6) (v := ?_) (by (simp only [List.getElem?_toArray, List.getElem?_cons_zero, List.getElem?_cons_succ]); rfl) (by kernel_rfl) (by kernel_rfl) (by kernel_rfl) (by exact fun _ _ _ h => h) (Or.inl ⟨by rfl, by (intro w hSw; (try dsimp only at hSw); go_simp; (try with_reducible rfl))⟩) (by assumption) ?_
          try simp only [Act.put, List.setIfInBounds_toArray, List.set_cons_zero, List.set_cons_succ]
          refine wpAnyH_take (i := 7) (v := ?_) (by (simp only [List.getElem?_toArray, List.getElem?_cons_zero, List.getElem?_cons_succ]); rfl) (by kernel_rfl) (by kernel_rfl) (by kernel_rfl) (by exact fun _ _ _ h => h) (Or.inl ⟨by rfl, by (intro w hSw; (try dsimp only at hSw); go_simp; (try with_reducible rfl))⟩) (by assumption) ?_
          try simp only [Act.put, List.setIfInBounds_toArray, List.set_cons_zero, List.set_cons_succ]
          refine wpAnyH_take (i := 8) (v := ?_) (by (simp only [List.getElem?_toArray, List.getElem?_cons_zero, List.getElem?_cons_succ]); rfl) (by kernel_rfl) (by kernel_rfl) (by kernel_rfl) (by exact fun _ _ _ h => h) (Or.inl ⟨by rfl, by (intro w hSw; (try dsimp only at hSw); go_simp; (try with_reducible rfl))⟩) (by assumption) ?_
          try simp only [Act.put, List.setIfInBounds_toArray, List.set_cons_zero, List.set_cons_succ]
          refine wpAnyH_take (i := 9) (v := ?_) (by (simp only [List.getElem?_toArray, List.getElem?_cons_zero, List.getElem?_cons_succ]); rfl) (by kernel_rfl) (by kernel_rfl) (by kernel_rfl) (by exact fun _ _ _ h => h) (Or.inl ⟨by rfl, by (intro w hSw; (try dsimp only at hSw); go_simp; (try with_reducible rfl))⟩) (by assumption) ?_
          try simp only [Act.put, List.setIfInBounds_toArray, List.set_cons_zero, List.set_cons_succ]
          refine wpAnyH_take (i := 11) (v := ?_) (by (simp only [List.getElem?_toArray, List.getElem?_cons_zero, List.getElem?_cons_succ]); rfl) (by kernel_rfl) (by kernel_rfl) (by kernel_rfl) (by exact fun _ _ _ h => h) (Or.inl ⟨by rfl, by (intro w hSw; (try dsimp only at hSw); go_simp; (try with_reducible rfl))⟩) (by assumption) ?_
          try simp only [Act.put, List.setIfInBounds_toArray, List.set_cons_zero, List.set_cons_succ]
          refine wpAnyH_ready (rs := [10]) (by kernel_rfl) (by simp) ?_
          refine AllReadyH.cons (by (simp only [List.getElem?_toArray, List.getElem?_cons_zero, List.getElem?_cons_succ]); rfl) (fun K hK => ?_) AllReadyH.nil
          go_simp
          go_at_call 24; (with_reducible refine (key1_calls v b B0 KB d0 f _ (Kd.C_below HG.out.1 hba.out) (Kd.C_below HG.out.2 hba.out)).mono ?_); rintro e' w4 ⟨A4, k4, rfl, hk4, hb4⟩; have hd1 := below_then hba.out hba.out.size hb4
          refine hK.out _ _ (by first | (refine ⟨(by repeat (first | (with_reducible refine cell_dr ?_) | (with_reducible refine cell_al ?_ _) | with_reducible exact c1 | with_reducible exact cell_later hd1 c1 | with_reducible exact cell_later hd2 c1)), (by repeat (first | (with_reducible refine cell_dr ?_) | (with_reducible refine cell_al ?_ _) | with_reducible exact c3 | with_reducible exact cell_later hd1 c3 | with_reducible exact cell_later hd2 c3)), (by repeat (first | (with_reducible refine cell_dr ?_) | (with_reducible refine cell_al ?_ _) | with_reducible exact y0 | with_reducible exact cell_later hd1 y0 | with_reducible exact cell_later hd2 y0)), (by repeat (first | (with_reducible refine cell_dr ?_) | (with_reducible refine cell_al ?_ _) | with_reducible exact y1 | with_reducible exact cell_later hd1 y1 | with_reducible exact cell_later hd2 y1))⟩) | fail) (fun hHeld2 => ?_)
          clear hK K hHeld
          have hHeld := hHeld2
          clear hHeld2
          try simp only [Act.put, List.setIfInBounds_toArray, List.set_cons_zero, List.set_cons_succ]
          refine wpAnyH_ready (rs := [12]) (by kernel_rfl) (by simp) ?_
          refine AllReadyH.cons (by (simp only [List.getElem?_toArray, List.getElem?_cons_zero, List.getElem?_cons_succ]); rfl) (fun K hK => ?_) AllReadyH.nil
          go_simp
          go_at_call 9; (with_reducible refine (cmp1_calls v v1 A4 AK k4 ck _ (Kd.F_now hk4) (Kd.C_below HF4.out hd1)).mono ?_); rintro e' w5 ⟨rfl, hb5⟩; have hd2 := below_then hd1 hd1.size hb5
          refine hK.out _ _ (by first | (refine ⟨(by repeat (first | (with_reducible refine cell_dr ?_) | (with_reducible refine cell_al ?_ _) | with_reducible exact c1 | with_reducible exact cell_later hd1 c1 | with_reducible exact cell_later hd2 c1)), (by repeat (first | (with_reducible refine cell_dr ?_) | (with_reducible refine cell_al ?_ _) | with_reducible exact c3 | with_reducible exact cell_later hd1 c3 | with_reducible exact cell_later hd2 c3)), (by repeat (first | (with_reducible refine cell_dr ?_) | (with_reducible refine cell_al ?_ _) | with_reducible exact y0 | with_reducible exact cell_later hd1 y0 | with_reducible exact cell_later hd2 y0)), (by repeat (first | (with_reducible refine cell_dr ?_) | (with_reducible refine cell_al ?_ _) | with_reducible exact y1 | with_reducible exact cell_later hd1 y1 | with_reducible exact cell_later hd2 y1))⟩) | fail) (fun hHeld2 => ?_)
          clear hK K hHeld
          have hHeld := hHeld2
          clear hHeld2
          try simp only [Act.put, List.setIfInBounds_toArray, List.set_cons_zero, List.set_cons_succ]
          refine wpAnyH_take (i := 13) (v := ?_) (by (simp only [List.getElem?_toArray, List.getElem?_cons_zero, List.getElem?_cons_succ]); rfl) (by kernel_rfl) (by kernel_rfl) (by kernel_rfl) (by exact fun _ _ _ h => h) (Or.inl ⟨by rfl, by (intro w hSw; (try dsimp only at hSw); go_simp; (try with_reducible rfl))⟩) (by assumption) ?_
          try simp only [Act.put, List.setIfInBounds_toArray, List.set_cons_zero, List.set_cons_succ]
          refine wpAnyH_take (i := 14) (v := ?_) (by (simp only [List.getElem?_toArray, List.getElem?_cons_zero, List.getElem?_cons_succ]); rfl) (by kernel_rfl) (by kernel_rfl) (by kernel_rfl) (by exact fun _ _ _ h => h) (Or.inl ⟨by rfl, by (intro w hSw; (try dsimp only at hSw); go_simp; (try with_reducible rfl))⟩) (by assumption) ?_
          try simp only [Act.put, List.setIfInBounds_toArray, List.set_cons_zero, List.set_cons_succ]
          refine wpAnyH_done (by kernel_rfl) ?_ _
          have HV5 := Aside0.mk (below_then HV.out HV.out.size hd2)
          clear c1 c3 y0 y1 hd1 hd2 hb4 hb5 hk4 hba
          try clear hHeld
          have hw : wrap64 (i + 1) = i + 1 := IntWalk.wrap64_in _ (by have := hIs.out.2.2; omega)
          gi_wp2
          gi_roundg (3 - (i + 1)).toNat
          case measure => have := HI.out.2.2; have := hIs.out.2.2; omega
          case rel => exact ⟨i + 1, congrArg (Value.int .i64) hw, ⟨by have := hIs.out; omega, by omega, rfl⟩, HV5⟩
        · have hz : decide (cmpR [v] [v1] = 0) = false := hcmp.trans (decide_eq_false hi)
          have hz0 : ¬ (cmpR [v] [v1] = 0) := of_decide_eq_false hz
          have hz1 : (cmpR [v] [v1] == 0) = false := beq_eq_false_iff_ne.2 hz0
          have hie : i = 2 := by omega
          have HIE := Aside0.mk hie
          clear hcmp i0 i1 hie
          gi_wp2
          refine wpIn_region_held_drew (S := (fun w' => w'.cell? ⟨p1, 0, none⟩ = some (.slice (some bd) 3 (d + 3)) ∧ w'.cell? ⟨p3, 0, none⟩ = some (.slice KB 1 f) ∧ w'.cell? (bd.add (i.toNat * 2)) = some (.slice B0 1 d0) ∧ w'.cell? ⟨(bd.add (i.toNat * 2)).block, (bd.add (i.toNat * 2)).off + 1, none⟩ = some (.slice b.1 b.2.1 b.2.2))) (by kernel_rfl) (noDefer_of (by kernel_rfl)) (fun ⟨_, _, h⟩ => h) (by first | (refine ⟨(by repeat (first | (with_reducible refine cell_dr ?_) | (with_reducible refine cell_al ?_ _) | with_reducible exact c1 | with_reducible exact cell_later hd1 c1 | with_reducible exact cell_later hd2 c1)), (by repeat (first | (with_reducible refine cell_dr ?_) | (with_reducible refine cell_al ?_ _) | with_reducible exact c3 | with_reducible exact cell_later hd1 c3 | with_reducible exact cell_later hd2 c3)), (by repeat (first | (with_reducible refine cell_dr ?_) | (with_reducible refine cell_al ?_ _) | with_reducible exact y0 | with_reducible exact cell_later hd1 y0 | with_reducible exact cell_later hd2 y0)), (by repeat (first | (with_reducible refine cell_dr ?_) | (with_reducible refine cell_al ?_ _) | with_reducible exact y1 | with_reducible exact cell_later hd1 y1 | with_reducible exact cell_later hd2 y1))⟩) | fail) (fun hHeld => ?_)
          refine wpAnyH_take (i := 0) (v := ?_) (by (simp only [List.getElem?_toArray, List.getElem?_cons_zero, List.getElem?_cons_succ]); rfl) (by kernel_rfl) (by kernel_rfl) (by kernel_rfl) (by exact fun _ _ _ h => h) (Or.inl ⟨by rfl, by (intro w hSw; (try dsimp only at hSw); go_simp; (try with_reducible rfl))⟩) (by assumption) ?_
          try simp only [Act.put, List.setIfInBounds_toArray, List.set_cons_zero, List.set_cons_succ]
          refine wpAnyH_take (i := 1) (v := ?_) (by (simp only [List.getElem?_toArray, List.getElem?_cons_zero, List.getElem?_cons_succ]); rfl) (by kernel_rfl) (by kernel_rfl) (by kernel_rfl) (by exact fun _ _ _ h => h) (Or.inl ⟨by rfl, by (intro w hSw; (try dsimp only at hSw); go_simp; (try with_reducible rfl))⟩) (by assumption) ?_
          try simp only [Act.put, List.setIfInBounds_toArray, List.set_cons_zero, List.set_cons_succ]
          refine wpAnyH_take (i := 2) (v := ?_) (by (simp only [List.getElem?_toArray, List.getElem?_cons_zero, List.getElem?_cons_succ]); rfl) (by kernel_rfl) (by kernel_rfl) (by kernel_rfl) (by exact fun _ _ _ h => h) (Or.inl ⟨by rfl, by (intro w hSw; (try dsimp only at hSw); go_simp; (try with_reducible rfl))⟩) (by assumption) ?_
          try simp only [Act.put, List.setIfInBounds_toArray, List.set_cons_zero, List.set_cons_succ]
          refine wpAnyH_take (i := 3) (v := ?_) (by (simp only [List.getElem?_toArray, List.getElem?_cons_zero, List.getElem?_cons_succ]); rfl) (by kernel_rfl) (by kernel_rfl) (by kernel_rfl) (by exact fun _ _ _ h => h) (Or.inl ⟨by rfl, by (intro w hSw; (try dsimp only at hSw); go_simp; (try with_reducible rfl))⟩) (by assumption) ?_
          try simp only [Act.put, List.setIfInBounds_toArray, List.set_cons_zero, List.set_cons_succ]
          refine wpAnyH_take (i := 4) (v := ?_) (by (simp only [List.getElem?_toArray, List.getElem?_cons_zero, List.getElem?_cons_succ]); rfl) (by kernel_rfl) (by kernel_rfl) (by kernel_rfl) (by exact fun _ _ _ h => h) (Or.inl ⟨by rfl, by (intro w hSw; (try dsimp only at hSw); go_simp; (try with_reducible rfl))⟩) (by assumption) ?_
          try simp only [Act.put, List.setIfInBounds_toArray, List.set_cons_zero, List.set_cons_succ]
          refine wpAnyH_take (i := 5) (v := ?_) (by (simp only [List.getElem?_toArray, List.getElem?_cons_zero, List.getElem?_cons_succ]); rfl) (by kernel_rfl) (by kernel_rfl) (by kernel_rfl) (by exact fun _ _ _ h => h) (Or.inl ⟨by rfl, by (intro w hSw; (try dsimp only at hSw); go_simp; (try with_reducible rfl))⟩) (by assumption) ?_
          try simp only [Act.put, List.setIfInBounds_toArray, List.set_cons_zero, List.set_cons_succ]
          refine wpAnyH_take (i := 6) (v := ?_) (by (simp only [List.getElem?_toArray, List.getElem?_cons_zero, List.getElem?_cons_succ]); rfl) (by kernel_rfl) (by kernel_rfl) (by kernel_rfl) (by exact fun _ _ _ h => h) (Or.inl ⟨by rfl, by (intro w hSw; (try dsimp only at hSw); go_simp; (try with_reducible rfl))⟩) (by assumption) ?_
          try simp only [Act.put, List.setIfInBounds_toArray, List.set_cons_zero, List.set_cons_succ]
          refine wpAnyH_take (i := 7) (v := ?_) (by (simp only [List.getElem?_toArray, List.getElem?_cons_zero, List.getElem?_cons_succ]); rfl) (by kernel_rfl) (by kernel_rfl) (by kernel_rfl) (by exact fun _ _ _ h => h) (Or.inl ⟨by rfl, by (intro w hSw; (try dsimp only at hSw); go_simp; (try with_reducible rfl))⟩) (by assumption) ?_
          try simp only [Act.put, List.setIfInBounds_toArray, List.set_cons_zero, List.set_cons_succ]
          refine wpAnyH_take (i := 8) (v := ?_) (by (simp only [List.getElem?_toArray, List.getElem?_cons_zero, List.getElem?_cons_succ]); rfl) (by kernel_rfl) (by kernel_rfl) (by kernel_rfl) (by exact fun _ _ _ h => h) (Or.inl ⟨by rfl, by (intro w hSw; (try dsimp only at hSw); go_simp; (try with_reducible rfl))⟩) (by assumption) ?_
          try simp only [Act.put, List.setIfInBounds_toArray, List.set_cons_zero, List.set_cons_succ]
          refine wpAnyH_take (i := 9) (v := ?_) (by (simp only [List.getElem?_toArray, List.getElem?_cons_zero, List.getElem?_cons_succ]); rfl) (by kernel_rfl) (by kernel_rfl) (by kernel_rfl) (by exact fun _ _ _ h => h) (Or.inl ⟨by rfl, by (intro w hSw; (try dsimp only at hSw); go_simp; (try with_reducible rfl))⟩) (by assumption) ?_
          try simp only [Act.put, List.setIfInBounds_toArray, List.set_cons_zero, List.set_cons_succ]
          refine wpAnyH_take (i := 11) (v := ?_) (by (simp only [List.getElem?_toArray, List.getElem?_cons_zero, List.getElem?_cons_succ]); rfl) (by kernel_rfl) (by kernel_rfl) (by kernel_rfl) (by exact fun _ _ _ h => h) (Or.inl ⟨by rfl, by (intro w hSw; (try dsimp only at hSw); go_simp; (try with_reducible rfl))⟩) (by assumption) ?_
          try simp only [Act.put, List.setIfInBounds_toArray, List.set_cons_zero, List.set_cons_succ]
          refine wpAnyH_ready (rs := [10]) (by kernel_rfl) (by simp) ?_
          refine AllReadyH.cons (by (simp only [List.getElem?_toArray, List.getElem?_cons_zero, List.getElem?_cons_succ]); rfl) (fun K hK => ?_) AllReadyH.nil
          go_simp
          go_at_call 24; (with_reducible refine (key1_calls v b B0 KB d0 f _ (Kd.C_below HG.out.1 hba.out) (Kd.C_below HG.out.2 hba.out)).mono ?_); rintro e' w4 ⟨A4, k4, rfl, hk4, hb4⟩; have hd1 := below_then hba.out hba.out.size hb4
          refine hK.out _ _ (by first | (refine ⟨(by repeat (first | (with_reducible refine cell_dr ?_) | (with_reducible refine cell_al ?_ _) | with_reducible exact c1 | with_reducible exact cell_later hd1 c1 | with_reducible exact cell_later hd2 c1)), (by repeat (first | (with_reducible refine cell_dr ?_) | (with_reducible refine cell_al ?_ _) | with_reducible exact c3 | with_reducible exact cell_later hd1 c3 | with_reducible exact cell_later hd2 c3)), (by repeat (first | (with_reducible refine cell_dr ?_) | (with_reducible refine cell_al ?_ _) | with_reducible exact y0 | with_reducible exact cell_later hd1 y0 | with_reducible exact cell_later hd2 y0)), (by repeat (first | (with_reducible refine cell_dr ?_) | (with_reducible refine cell_al ?_ _) | with_reducible exact y1 | with_reducible exact cell_later hd1 y1 | with_reducible exact cell_later hd2 y1))⟩) | fail) (fun hHeld2 => ?_)
          clear hK K hHeld
          have hHeld := hHeld2
          clear hHeld2
          try simp only [Act.put, List.setIfInBounds_toArray, List.set_cons_zero, List.set_cons_succ]
          refine wpAnyH_ready (rs := [12]) (by kernel_rfl) (by simp) ?_
          refine AllReadyH.cons (by (simp only [List.getElem?_toArray, List.getElem?_cons_zero, List.getElem?_cons_succ]); rfl) (fun K hK => ?_) AllReadyH.nil
          go_simp
          go_at_call 9; (with_reducible refine (cmp1_calls v v1 A4 AK k4 ck _ (Kd.F_now hk4) (Kd.C_below HF4.out hd1)).mono ?_); rintro e' w5 ⟨rfl, hb5⟩; have hd2 := below_then hd1 hd1.size hb5
          refine hK.out _ _ (by first | (refine ⟨(by repeat (first | (with_reducible refine cell_dr ?_) | (with_reducible refine cell_al ?_ _) | with_reducible exact c1 | with_reducible exact cell_later hd1 c1 | with_reducible exact cell_later hd2 c1)), (by repeat (first | (with_reducible refine cell_dr ?_) | (with_reducible refine cell_al ?_ _) | with_reducible exact c3 | with_reducible exact cell_later hd1 c3 | with_reducible exact cell_later hd2 c3)), (by repeat (first | (with_reducible refine cell_dr ?_) | (with_reducible refine cell_al ?_ _) | with_reducible exact y0 | with_reducible exact cell_later hd1 y0 | with_reducible exact cell_later hd2 y0)), (by repeat (first | (with_reducible refine cell_dr ?_) | (with_reducible refine cell_al ?_ _) | with_reducible exact y1 | with_reducible exact cell_later hd1 y1 | with_reducible exact cell_later hd2 y1))⟩) | fail) (fun hHeld2 => ?_)
          clear hK K hHeld
          have hHeld := hHeld2
          clear hHeld2
          try simp only [Act.put, List.setIfInBounds_toArray, List.set_cons_zero, List.set_cons_succ]
          refine wpAnyH_take (i := 13) (v := ?_) (by (simp only [List.getElem?_toArray, List.getElem?_cons_zero, List.getElem?_cons_succ]); rfl) (by kernel_rfl) (by kernel_rfl) (by kernel_rfl) (by exact fun _ _ _ h => h) (Or.inl ⟨by rfl, by (intro w hSw; (try dsimp only at hSw); go_simp; (try with_reducible rfl))⟩) (by assumption) ?_
          try simp only [Act.put, List.setIfInBounds_toArray, List.set_cons_zero, List.set_cons_succ]
          refine wpAnyH_take (i := 14) (v := ?_) (by (simp only [List.getElem?_toArray, List.getElem?_cons_zero, List.getElem?_cons_succ]); rfl) (by kernel_rfl) (by kernel_rfl) (by kernel_rfl) (by exact fun _ _ _ h => h) (Or.inl ⟨by rfl, by (intro w hSw; (try dsimp only at hSw); go_simp; (try with_reducible rfl))⟩) (by assumption) ?_
          try simp only [Act.put, List.setIfInBounds_toArray, List.set_cons_zero, List.set_cons_succ]
          refine wpAnyH_done (by kernel_rfl) ?_ _
          obtain rfl := HIE.out
          have HV5 := Aside0.mk (below_then HV.out HV.out.size hd2)
          clear c1 c3 y0 y1 hd1 hd2 hb4 hb5 hk4 hba hz hz0 hz1
          try clear hHeld
          gi_upto_region 12 with (fail)
          have o0 := cell_later HV5.out (box1 HO3.out)
          have ca := cell_later HV5.out (box1 HA3.out)
          have c0 := cell_later HV5.out (box1 HP3.out.1)
          have c1 := cell_later HV5.out (box1 HP3.out.2.1)
          obtain ⟨q0, q1, q2, q3, q4, q5, q6⟩ := box7 (blk_below HP3.out.2.2.2.1 HV5.out)
          obtain ⟨z0, z1⟩ := box2 (blk_below HP3.out.2.2.2.2 HV5.out)
          have HBD := Aside0.mk (below_drew (below_then HB3.out HB3.out.size HV5.out))
          have hba := Aside0.mk (below_drew (Below.refl w5.heap.size w5))
          have hs1 : (1 : Int) ≤ (c : Int) + 3 := by omega
          have hs2 : (2 : Int) ≤ (d : Int) + 3 := by omega
          refine wpIn_region_held_drew (S := (fun w' => w'.cell? ⟨gO, 0, none⟩ = some (.slice oA oN oC) ∧ w'.cell? ⟨p0, 0, none⟩ = some (.slice (some ad) 3 (c + 3)) ∧ w'.cell? ⟨Bx, 0, none⟩ = some (.int .i64 0) ∧ w'.cell? ⟨Bx, 1, none⟩ = some (.int .i64 1) ∧ w'.cell? ⟨p1, 0, none⟩ = some (.slice (some bd) 3 (d + 3)) ∧ w'.cell? ⟨gA, 0, none⟩ = some (.int .i64 2) ∧ w'.cell? ⟨p4, 0, none⟩ = some (.int .i64 0) ∧ w'.cell? ⟨p4, 1, none⟩ = some (.int .i64 0) ∧ w'.cell? ⟨p4, 2, none⟩ = some (.int .i64 2) ∧ w'.cell? ⟨p4, 3, none⟩ = some (.int .i64 1) ∧ w'.cell? ⟨p4, 4, none⟩ = some (.string ⟨#[]⟩) ∧ w'.cell? ⟨p4, 5, none⟩ = some (.int .i64 0) ∧ w'.cell? ⟨p4, 6, none⟩ = some (.slice none 0 0))) (by kernel_rfl) (noDefer_of (by kernel_rfl)) (fun ⟨_, _, h⟩ => h) (by first | (refine ⟨(by repeat (first | (with_reducible refine cell_dr ?_) | (with_reducible refine cell_al ?_ _) | with_reducible exact o0 | with_reducible exact cell_later hd3 o0)), (by repeat (first | (with_reducible refine cell_dr ?_) | (with_reducible refine cell_al ?_ _) | with_reducible exact c0 | with_reducible exact cell_later hd3 c0)), (by repeat (first | (with_reducible refine cell_dr ?_) | (with_reducible refine cell_al ?_ _) | with_reducible exact z0 | with_reducible exact cell_later hd3 z0)), (by repeat (first | (with_reducible refine cell_dr ?_) | (with_reducible refine cell_al ?_ _) | with_reducible exact z1 | with_reducible exact cell_later hd3 z1)), (by repeat (first | (with_reducible refine cell_dr ?_) | (with_reducible refine cell_al ?_ _) | with_reducible exact c1 | with_reducible exact cell_later hd3 c1)), (by repeat (first | (with_reducible refine cell_dr ?_) | (with_reducible refine cell_al ?_ _) | with_reducible exact ca | with_reducible exact cell_later hd3 ca)), (by repeat (first | (with_reducible refine cell_dr ?_) | (with_reducible refine cell_al ?_ _) | with_reducible exact q0 | with_reducible exact cell_later hd3 q0)), (by repeat (first | (with_reducible refine cell_dr ?_) | (with_reducible refine cell_al ?_ _) | with_reducible exact q1 | with_reducible exact cell_later hd3 q1)), (by repeat (first | (with_reducible refine cell_dr ?_) | (with_reducible refine cell_al ?_ _) | with_reducible exact q2 | with_reducible exact cell_later hd3 q2)), (by repeat (first | (with_reducible refine cell_dr ?_) | (with_reducible refine cell_al ?_ _) | with_reducible exact q3 | with_reducible exact cell_later hd3 q3)), (by repeat (first | (with_reducible refine cell_dr ?_) | (with_reducible refine cell_al ?_ _) | with_reducible exact q4 | with_reducible exact cell_later hd3 q4)), (by repeat (first | (with_reducible refine cell_dr ?_) | (with_reducible refine cell_al ?_ _) | with_reducible exact q5 | with_reducible exact cell_later hd3 q5)), (by repeat (first | (with_reducible refine cell_dr ?_) | (with_reducible refine cell_al ?_ _) | with_reducible exact q6 | with_reducible exact cell_later hd3 q6))⟩) | fail) (fun hHeld => ?_)
          refine wpAnyH_take (i := 0) (v := ?_) (by (simp only [List.getElem?_toArray, List.getElem?_cons_zero, List.getElem?_cons_succ]); rfl) (by kernel_rfl) (by kernel_rfl) (by kernel_rfl) (by exact fun _ _ _ h => h) (Or.inl ⟨by rfl, by (intro w hSw; (try dsimp only at hSw); go_simp; (try with_reducible rfl))⟩) (by assumption) ?_
          try simp only [Act.put, List.setIfInBounds_toArray, List.set_cons_zero, List.set_cons_succ]
          refine wpAnyH_take (i := 1) (v := ?_) (by (simp only [List.getElem?_toArray, List.getElem?_cons_zero, List.getElem?_cons_succ]); rfl) (by kernel_rfl) (by kernel_rfl) (by kernel_rfl) (by exact fun _ _ _ h => h) (Or.inl ⟨by rfl, by (intro w hSw; (try dsimp only at hSw); go_simp; (try with_reducible rfl))⟩) (by assumption) ?_
          try simp only [Act.put, List.setIfInBounds_toArray, List.set_cons_zero, List.set_cons_succ]
          refine wpAnyH_take (i := 2) (v := ?_) (by (simp only [List.getElem?_toArray, List.getElem?_cons_zero, List.getElem?_cons_succ]); rfl) (by kernel_rfl) (by kernel_rfl) (by kernel_rfl) (by exact fun _ _ _ h => h) (Or.inl ⟨by rfl, by (intro w hSw; (try dsimp only at hSw); go_simp; (try with_reducible rfl))⟩) (by assumption) ?_
          try simp only [Act.put, List.setIfInBounds_toArray, List.set_cons_zero, List.set_cons_succ]
          refine wpAnyH_take (i := 3) (v := ?_) (by (simp only [List.getElem?_toArray, List.getElem?_cons_zero, List.getElem?_cons_succ]); rfl) (by kernel_rfl) (by kernel_rfl) (by kernel_rfl) (by exact fun _ _ _ h => h) (Or.inl ⟨by rfl, by (intro w hSw; (try dsimp only at hSw); go_simp; (try with_reducible rfl))⟩) (by assumption) ?_
          try simp only [Act.put, List.setIfInBounds_toArray, List.set_cons_zero, List.set_cons_succ]
          refine wpAnyH_take (i := 4) (v := ?_) (by (simp only [List.getElem?_toArray, List.getElem?_cons_zero, List.getElem?_cons_succ]); rfl) (by kernel_rfl) (by kernel_rfl) (by kernel_rfl) (by exact fun _ _ _ h => h) (Or.inl ⟨by rfl, by (intro w hSw; (try dsimp only at hSw); go_simp; (try with_reducible rfl))⟩) (by assumption) ?_
          try simp only [Act.put, List.setIfInBounds_toArray, List.set_cons_zero, List.set_cons_succ]
          refine wpAnyH_take (i := 5) (v := ?_) (by (simp only [List.getElem?_toArray, List.getElem?_cons_zero, List.getElem?_cons_succ]); rfl) (by kernel_rfl) (by kernel_rfl) (by kernel_rfl) (by exact fun _ _ _ h => h) (Or.inl ⟨by rfl, by (intro w hSw; (try dsimp only at hSw); go_simp; (try with_reducible rfl))⟩) (by assumption) ?_
          try simp only [Act.put, List.setIfInBounds_toArray, List.set_cons_zero, List.set_cons_succ]
          refine wpAnyH_take (i := 6) (v := ?_) (by (simp only [List.getElem?_toArray, List.getElem?_cons_zero, List.getElem?_cons_succ]); rfl) (by kernel_rfl) (by kernel_rfl) (by kernel_rfl) (by exact fun _ _ _ h => h) (Or.inl ⟨by rfl, by (intro w hSw; (try dsimp only at hSw); go_simp; (try with_reducible rfl))⟩) (by assumption) ?_
          try simp only [Act.put, List.setIfInBounds_toArray, List.set_cons_zero, List.set_cons_succ]
          refine wpAnyH_take (i := 7) (v := ?_) (by (simp only [List.getElem?_toArray, List.getElem?_cons_zero, List.getElem?_cons_succ]); rfl) (by kernel_rfl) (by kernel_rfl) (by kernel_rfl) (by exact fun _ _ _ h => h) (Or.inl ⟨by rfl, by (intro w hSw; (try dsimp only at hSw); go_simp; (try with_reducible rfl))⟩) (by assumption) ?_
          try simp only [Act.put, List.setIfInBounds_toArray, List.set_cons_zero, List.set_cons_succ]
          refine wpAnyH_take (i := 8) (v := ?_) (by (simp only [List.getElem?_toArray, List.getElem?_cons_zero, List.getElem?_cons_succ]); rfl) (by kernel_rfl) (by kernel_rfl) (by kernel_rfl) (by exact fun _ _ _ h => h) (Or.inl ⟨by rfl, by (intro w hSw; (try dsimp only at hSw); go_simp; (try with_reducible rfl))⟩) (by assumption) ?_
          try simp only [Act.put, List.setIfInBounds_toArray, List.set_cons_zero, List.set_cons_succ]
          refine wpAnyH_take (i := 9) (v := ?_) (by (simp only [List.getElem?_toArray, List.getElem?_cons_zero, List.getElem?_cons_succ]); rfl) (by kernel_rfl) (by kernel_rfl) (by kernel_rfl) (by exact fun _ _ _ h => h) (Or.inl ⟨by rfl, by (intro w hSw; (try dsimp only at hSw); go_simp; (try with_reducible rfl))⟩) (by assumption) ?_
          try simp only [Act.put, List.setIfInBounds_toArray, List.set_cons_zero, List.set_cons_succ]
          refine wpAnyH_take (i := 10) (v := ?_) (by (simp only [List.getElem?_toArray, List.getElem?_cons_zero, List.getElem?_cons_succ]); rfl) (by kernel_rfl) (by kernel_rfl) (by kernel_rfl) (by exact fun _ _ _ h => h) (Or.inl ⟨by rfl, by (intro w hSw; (try dsimp only at hSw); go_simp; (try with_reducible rfl))⟩) (by assumption) ?_
          try simp only [Act.put, List.setIfInBounds_toArray, List.set_cons_zero, List.set_cons_succ]
          refine wpAnyH_take (i := 11) (v := ?_) (by (simp only [List.getElem?_toArray, List.getElem?_cons_zero, List.getElem?_cons_succ]); rfl) (by kernel_rfl) (by kernel_rfl) (by kernel_rfl) (by exact fun _ _ _ h => h) (Or.inl ⟨by rfl, by (intro w hSw; (try dsimp only at hSw); go_simp; (try with_reducible rfl))⟩) (by assumption) ?_
          try simp only [Act.put, List.setIfInBounds_toArray, List.set_cons_zero, List.set_cons_succ]
          refine wpAnyH_ready (rs := [12]) (by kernel_rfl) (by simp) ?_
          refine AllReadyH.cons (by (simp only [List.getElem?_toArray, List.getElem?_cons_zero, List.getElem?_cons_succ]); rfl) (fun K hK => ?_) AllReadyH.nil
          go_simp
          go_at_call 26; (with_reducible refine (HR.out.pairs _ HBD.out).mono ?_); rintro e' w6 ⟨A6, n6, c6, rfl, hnx, hb6⟩; have hd3 := below_then hba.out hba.out.size hb6
          refine hK.out _ _ (by first | (refine ⟨(by repeat (first | (with_reducible refine cell_dr ?_) | (with_reducible refine cell_al ?_ _) | with_reducible exact o0 | with_reducible exact cell_later hd3 o0)), (by repeat (first | (with_reducible refine cell_dr ?_) | (with_reducible refine cell_al ?_ _) | with_reducible exact c0 | with_reducible exact cell_later hd3 c0)), (by repeat (first | (with_reducible refine cell_dr ?_) | (with_reducible refine cell_al ?_ _) | with_reducible exact z0 | with_reducible exact cell_later hd3 z0)), (by repeat (first | (with_reducible refine cell_dr ?_) | (with_reducible refine cell_al ?_ _) | with_reducible exact z1 | with_reducible exact cell_later hd3 z1)), (by repeat (first | (with_reducible refine cell_dr ?_) | (with_reducible refine cell_al ?_ _) | with_reducible exact c1 | with_reducible exact cell_later hd3 c1)), (by repeat (first | (with_reducible refine cell_dr ?_) | (with_reducible refine cell_al ?_ _) | with_reducible exact ca | with_reducible exact cell_later hd3 ca)), (by repeat (first | (with_reducible refine cell_dr ?_) | (with_reducible refine cell_al ?_ _) | with_reducible exact q0 | with_reducible exact cell_later hd3 q0)), (by repeat (first | (with_reducible refine cell_dr ?_) | (with_reducible refine cell_al ?_ _) | with_reducible exact q1 | with_reducible exact cell_later hd3 q1)), (by repeat (first | (with_reducible refine cell_dr ?_) | (with_reducible refine cell_al ?_ _) | with_reducible exact q2 | with_reducible exact cell_later hd3 q2)), (by repeat (first | (with_reducible refine cell_dr ?_) | (with_reducible refine cell_al ?_ _) | with_reducible exact q3 | with_reducible exact cell_later hd3 q3)), (by repeat (first | (with_reducible refine cell_dr ?_) | (with_reducible refine cell_al ?_ _) | with_reducible exact q4 | with_reducible exact cell_later hd3 q4)), (by repeat (first | (with_reducible refine cell_dr ?_) | (with_reducible refine cell_al ?_ _) | with_reducible exact q5 | with_reducible exact cell_later hd3 q5)), (by repeat (first | (with_reducible refine cell_dr ?_) | (with_reducible refine cell_al ?_ _) | with_reducible exact q6 | with_reducible exact cell_later hd3 q6))⟩) | fail) (fun hHeld2 => ?_)
          clear hK K hHeld
          have hHeld := hHeld2
          clear hHeld2
          try simp only [Act.put, List.setIfInBounds_toArray, List.set_cons_zero, List.set_cons_succ]
          refine wpAnyH_take (i := 13) (v := ?_) (by (simp only [List.getElem?_toArray, List.getElem?_cons_zero, List.getElem?_cons_succ]); rfl) (by kernel_rfl) (by kernel_rfl) (by kernel_rfl) (by exact fun _ _ _ h => h) (Or.inl ⟨by rfl, by (intro w hSw; (try dsimp only at hSw); go_simp; (try with_reducible rfl))⟩) (by assumption) ?_
          try simp only [Act.put, List.setIfInBounds_toArray, List.set_cons_zero, List.set_cons_succ]
          refine wpAnyH_take (i := 14) (v := ?_) (by (simp only [List.getElem?_toArray, List.getElem?_cons_zero, List.getElem?_cons_succ]); rfl) (by kernel_rfl) (by kernel_rfl) (by kernel_rfl) (by exact fun _ _ _ h => h) (Or.inl ⟨by rfl, by (intro w hSw; (try dsimp only at hSw); go_simp; (try with_reducible rfl))⟩) (by assumption) ?_
          try simp only [Act.put, List.setIfInBounds_toArray, List.set_cons_zero, List.set_cons_succ]
          refine wpAnyH_take (i := 15) (v := ?_) (by (simp only [List.getElem?_toArray, List.getElem?_cons_zero, List.getElem?_cons_succ]); rfl) (by kernel_rfl) (by kernel_rfl) (by kernel_rfl) (by exact fun _ _ _ h => h) (Or.inl ⟨by rfl, by (intro w hSw; (try dsimp only at hSw); go_simp; (try with_reducible rfl))⟩) (by assumption) ?_
          try simp only [Act.put, List.setIfInBounds_toArray, List.set_cons_zero, List.set_cons_succ]
          refine wpAnyH_take (i := 16) (v := ?_) (by (simp only [List.getElem?_toArray, List.getElem?_cons_zero, List.getElem?_cons_succ]); rfl) (by kernel_rfl) (by kernel_rfl) (by kernel_rfl) (by exact fun _ _ _ h => h) (Or.inl ⟨by rfl, by (intro w hSw; (try dsimp only at hSw); go_simp; (try with_reducible rfl))⟩) (by assumption) ?_
          try simp only [Act.put, List.setIfInBounds_toArray, List.set_cons_zero, List.set_cons_succ]
          refine wpAnyH_take (i := 17) (v := ?_) (by (simp only [List.getElem?_toArray, List.getElem?_cons_zero, List.getElem?_cons_succ]); rfl) (by kernel_rfl) (by kernel_rfl) (by kernel_rfl) (by exact fun _ _ _ h => h) (Or.inl ⟨by rfl, by (intro w hSw; (try dsimp only at hSw); go_simp; (try with_reducible rfl))⟩) (by assumption) ?_
          try simp only [Act.put, List.setIfInBounds_toArray, List.set_cons_zero, List.set_cons_succ]
          refine wpAnyH_done (by kernel_rfl) ?_ _
          have HV6 := Aside0.mk (below_then HV5.out HV5.out.size hd3)
          have HNX := Aside0.mk hnx
          clear o0 ca c0 c1 q0 q1 q2 q3 q4 q5 q6 z0 z1 hba hd3 hb6 hnx hs1 hs2
          try clear hHeld
          gi_upto_region 15 with (fail)
          have ho6 := blk_below HO3.out HV6.out
          have ha6 := blk_below HA3.out HV6.out
          have o0 := box1 ho6
          have ca := box1 ha6
          have fo := blk_frozen ho6 0
          have fa := blk_frozen ha6 0
          have hord := HORD.out.2
          have hp00 := HORD.out.1
          have hgn : gO < gA := hord.2.2.2.2.2.2.2.1
          have hne : gO ≠ gA := by omega
          have ho7 := blk_far (p := ⟨gA, 0, none⟩) (blk_set ho6 0 (.slice A6 n6 c6)) (show gO ≠ gA by omega) (.int .i64 2)
          have ha7 := blk_set (blk_far (p := ⟨gO, 0, none⟩) ha6 (show gA ≠ gO by omega) (.slice A6 n6 c6)) 0 (.int .i64 2)
          have hK7 := ((HK3.out.below HV6.out).set (.inl rfl) 0 (.slice A6 n6 c6)).set (.inr rfl) 0 (.int .i64 2)
          gi_wp2
          obtain ⟨W7, hW7⟩ : ∃ W7, (w6.setCell ⟨gO, 0, none⟩ (.slice A6 n6 c6)).setCell ⟨gA, 0, none⟩ (.int .i64 2) = W7 := ⟨_, rfl⟩
          rw [hW7] at ho7 ha7 hK7 ⊢
          have hst := HNX.out W7 ho7 ha7
          refine ⟨hK7.keeps HR.out.ho rfl HR.out.ha rfl, hK7.kpG HJ.out.b.size (by omega) (by omega) HJ.out.m1 HJ.out.m2 ⟨by omega, by omega⟩, ?_⟩
          dsimp only
          rw [List.map_append]
          exact HJ.out.kept hK7 hp00 hord hst
    · cases he
      have HR := Aside0.mk hR
      have HBX := Aside0.mk (And.intro bX (And.intro hBx (And.intro hlt hl)))
      have z0 := (box2 bX).1
      have c0 := box1 HJ.out.k0
      have c2 := box1 HJ.out.k2
      obtain ⟨A0, k0, u0, u1, g0⟩ := left1 (HA.out.1.later HJ.out.b).l
      have HG := Aside0.mk (And.intro g0 (HA.out.1.later HJ.out.b).kl)
      have hba := Aside0.mk (below_drew (Below.refl W.heap.size W))
      clear g0 hR bX hBx hlt hl hJ hr
      dsimp only
      gi_upto_region 7 with (fail)
      refine wpIn_region_held_drew (S := (fun w' => w'.cell? ⟨p0, 0, none⟩ = some (.slice (some ad) 3 (c + 3)) ∧ w'.cell? ⟨p2, 0, none⟩ = some (.slice KA 1 e) ∧ w'.cell? ⟨Bx, 0, none⟩ = some (.int .i64 1) ∧ w'.cell? ⟨ad.block, ad.off + 2, none⟩ = some (.slice A0 1 k0) ∧ w'.cell? ⟨ad.block, ad.off + 2 + 1, none⟩ = some (.slice a1.1 a1.2.1 a1.2.2))) (by kernel_rfl) (noDefer_of (by kernel_rfl)) (fun ⟨_, _, h⟩ => h) (by first | (refine ⟨(by repeat (first | (with_reducible refine cell_dr ?_) | (with_reducible refine cell_al ?_ _) | with_reducible exact c0 | with_reducible exact cell_later hc1 c0)), (by repeat (first | (with_reducible refine cell_dr ?_) | (with_reducible refine cell_al ?_ _) | with_reducible exact c2 | with_reducible exact cell_later hc1 c2)), (by repeat (first | (with_reducible refine cell_dr ?_) | (with_reducible refine cell_al ?_ _) | with_reducible exact z0 | with_reducible exact cell_later hc1 z0)), (by repeat (first | (with_reducible refine cell_dr ?_) | (with_reducible refine cell_al ?_ _) | with_reducible exact u0 | with_reducible exact cell_later hc1 u0)), (by repeat (first | (with_reducible refine cell_dr ?_) | (with_reducible refine cell_al ?_ _) | with_reducible exact u1 | with_reducible exact cell_later hc1 u1))⟩) | fail) (fun hHeld => ?_)
      refine wpAnyH_take (i := 0) (v := ?_) (by (simp only [List.getElem?_toArray, List.getElem?_cons_zero, List.getElem?_cons_succ]); rfl) (by kernel_rfl) (by kernel_rfl) (by kernel_rfl) (by exact fun _ _ _ h => h) (Or.inl ⟨by rfl, by (intro w hSw; (try dsimp only at hSw); go_simp; (try with_reducible rfl))⟩) (by assumption) ?_
      try simp only [Act.put, List.setIfInBounds_toArray, List.set_cons_zero, List.set_cons_succ]
      refine wpAnyH_take (i := 1) (v := ?_) (by (simp only [List.getElem?_toArray, List.getElem?_cons_zero, List.getElem?_cons_succ]); rfl) (by kernel_rfl) (by kernel_rfl) (by kernel_rfl) (by exact fun _ _ _ h => h) (Or.inl ⟨by rfl, by (intro w hSw; (try dsimp only at hSw); go_simp; (try with_reducible rfl))⟩) (by assumption) ?_
      try simp only [Act.put, List.setIfInBounds_toArray, List.set_cons_zero, List.set_cons_succ]
      refine wpAnyH_take (i := 2) (v := ?_) (by (simp only [List.getElem?_toArray, List.getElem?_cons_zero, List.getElem?_cons_succ]); rfl) (by kernel_rfl) (by kernel_rfl) (by kernel_rfl) (by exact fun _ _ _ h => h) (Or.inl ⟨by rfl, by (intro w hSw; (try dsimp only at hSw); go_simp; (try with_reducible rfl))⟩) (by assumption) ?_
      try simp only [Act.put, List.setIfInBounds_toArray, List.set_cons_zero, List.set_cons_succ]
      refine wpAnyH_take (i := 3) (v := ?_) (by (simp only [List.getElem?_toArray, List.getElem?_cons_zero, List.getElem?_cons_succ]); rfl) (by kernel_rfl) (by kernel_rfl) (by kernel_rfl) (by exact fun _ _ _ h => h) (Or.inl ⟨by rfl, by (intro w hSw; (try dsimp only at hSw); go_simp; (try with_reducible rfl))⟩) (by assumption) ?_
      try simp only [Act.put, List.setIfInBounds_toArray, List.set_cons_zero, List.set_cons_succ]
      refine wpAnyH_take (i := 4) (v := ?_) (by (simp only [List.getElem?_toArray, List.getElem?_cons_zero, List.getElem?_cons_succ]); rfl) (by kernel_rfl) (by kernel_rfl) (by kernel_rfl) (by exact fun _ _ _ h => h) (Or.inl ⟨by rfl, by (intro w hSw; (try dsimp only at hSw); go_simp; (try with_reducible rfl))⟩) (by assumption) ?_
      try simp only [Act.put, List.setIfInBounds_toArray, List.set_cons_zero, List.set_cons_succ]
      refine wpAnyH_take (i := 5) (v := ?_) (by (simp only [List.getElem?_toArray, List.getElem?_cons_zero, List.getElem?_cons_succ]); rfl) (by kernel_rfl) (by kernel_rfl) (by kernel_rfl) (by exact fun _ _ _ h => h) (Or.inl ⟨by rfl, by (intro w hSw; (try dsimp only at hSw); go_simp; (try with_reducible rfl))⟩) (by assumption) ?_
      try simp only [Act.put, List.setIfInBounds_toArray, List.set_cons_zero, List.set_cons_succ]
      refine wpAnyH_ready (rs := [6]) (by kernel_rfl) (by simp) ?_
      refine AllReadyH.cons (by (simp only [List.getElem?_toArray, List.getElem?_cons_zero, List.getElem?_cons_succ]); rfl) (fun K hK => ?_) AllReadyH.nil
      go_simp
      go_at_call 24; (with_reducible refine (key1_calls v2 a1 A0 KA k0 e _ (Kd.C_below HG.out.1 hba.out) (Kd.C_below HG.out.2 hba.out)).mono ?_); rintro e' w1 ⟨AK, ck, rfl, hk1, hb1⟩; have hc1 := below_then hba.out hba.out.size hb1
      refine hK.out _ _ (by first | (refine ⟨(by repeat (first | (with_reducible refine cell_dr ?_) | (with_reducible refine cell_al ?_ _) | with_reducible exact c0 | with_reducible exact cell_later hc1 c0)), (by repeat (first | (with_reducible refine cell_dr ?_) | (with_reducible refine cell_al ?_ _) | with_reducible exact c2 | with_reducible exact cell_later hc1 c2)), (by repeat (first | (with_reducible refine cell_dr ?_) | (with_reducible refine cell_al ?_ _) | with_reducible exact z0 | with_reducible exact cell_later hc1 z0)), (by repeat (first | (with_reducible refine cell_dr ?_) | (with_reducible refine cell_al ?_ _) | with_reducible exact u0 | with_reducible exact cell_later hc1 u0)), (by repeat (first | (with_reducible refine cell_dr ?_) | (with_reducible refine cell_al ?_ _) | with_reducible exact u1 | with_reducible exact cell_later hc1 u1))⟩) | fail) (fun hHeld2 => ?_)
      clear hK K hHeld
      have hHeld := hHeld2
      clear hHeld2
      try simp only [Act.put, List.setIfInBounds_toArray, List.set_cons_zero, List.set_cons_succ]
      refine wpAnyH_take (i := 7) (v := ?_) (by (simp only [List.getElem?_toArray, List.getElem?_cons_zero, List.getElem?_cons_succ]); rfl) (by kernel_rfl) (by kernel_rfl) (by kernel_rfl) (by exact fun _ _ _ h => h) (Or.inl ⟨by rfl, by (intro w hSw; (try dsimp only at hSw); go_simp; (try with_reducible rfl))⟩) (by assumption) ?_
      try simp only [Act.put, List.setIfInBounds_toArray, List.set_cons_zero, List.set_cons_succ]
      refine wpAnyH_done (by kernel_rfl) ?_ _
      have HC1 := Aside0.mk hc1
      have HK1 := Aside0.mk hk1
      have HB1 := Aside0.mk (below_then HJ.out.b HJ.out.b.size hc1)
      have HJ1 := Aside0.mk (HA.out.1.later HB1.out)
      have c1 := cell_later hc1 (box1 HJ.out.k1)
      have c3 := cell_later hc1 (box1 HJ.out.k3)
      have qa := cell_later hc1 (box1 HR.out.ha)
      clear c0 c2 z0 u0 u1 hc1 hk1 hb1 hba HG
      try clear hHeld
      gi_upto_region 9 with (first | (refine ⟨trivial, (fun h => by cases h), ?_⟩; gi_at_call 22; (with_reducible refine (((callsIn_wide (n := _)).2 (adv1_calls (rsR b0 b1 b2) rfl (keyed_rs b0 b1 b2) v2 0 (by decide) (by decide) HR.out.adv (some bd) KB AK (d + 3) f ck _ HJ1.out.r HJ1.out.kr (Kd.F_now HK1.out))).inRound l).mono ?_); rintro e' w2 ⟨rfl, hb2⟩; have HBq := Aside0.mk hb2; have qb := cell_later hb2 qa; have fz := blk_frozen (blk_below (blk_below HR.out.ha HC1.out) hb2) 0; clear hb2) | fail)
      have hord := HORD.out.2
      have hA3 := blk_set (blk_below (blk_below HR.out.ha HC1.out) HBq.out) 0 (.int .i64 0)
      have hK3 := ((KpO.of_below (gO := gO) (gA := gA) HC1.out).below HBq.out).set (.inr rfl) 0 (.int .i64 0)
      have hF3 : Kd.F k42 (w2.setCell ⟨gA, 0, none⟩ (.int .i64 0)) (fun k => W.heap.size ≤ k) AK 1 [v2] := Kd.F_step (Kd.F_below HK1.out HBq.out) (fun k hk _ => Below.heap_setCell w2 ⟨gA, 0, none⟩ _ k (show k ≠ gA by have := lt_of_heap HR.out.ha; omega))
      obtain ⟨W3, hW3⟩ : ∃ W3, w2.setCell ⟨gA, 0, none⟩ (.int .i64 0) = W3 := ⟨_, rfl⟩
      rw [hW3] at hA3 hK3 hF3 ⊢
      have HA3 := Aside0.mk hA3
      have HK3 := Aside0.mk hK3
      have HF3 := Aside0.mk hF3
      have hp00 := HORD.out.1
      have HB3 := Aside0.mk (hK3.far HJ.out.b HJ.out.b.size (by omega) (by omega))
      have go : ∀ {k : Nat} {o : Obj}, W.heap[k]? = some o → k ≠ gO → k ≠ gA → W3.heap[k]? = some o := fun hx n1 n2 => (hK3.block _ (lt_of_heap hx) n1 n2).trans hx
      have HP3 := Aside0.mk (And.intro (go HJ.out.k0 (by omega) (by omega)) (And.intro (go HJ.out.k1 (by omega) (by omega)) (And.intro (go HJ.out.k3 (by omega) (by omega)) (And.intro (go HJ.out.k4 (by omega) (by omega)) (go HBX.out.1 (by have := HBX.out.2.1; omega) (by have := HBX.out.2.1; omega))))))
      have HO3 := Aside0.mk (show W3.heap[gO]? = some (.cells #[.slice oA oN oC] 22 (0, 0)) by
        rw [← hW3]
        exact blk_far (p := ⟨gA, 0, none⟩) (blk_below (blk_below HR.out.ho HC1.out) HBq.out) (show gO ≠ gA by omega) (.int .i64 0))
      have q3 := box1 hA3
      clear hA3 hK3 hF3 hW3 go c1 c3 qa qb fz hord hp00
      gi_wp2
      clear q3
      gi_loopg [16] 3 (fun kq v16 wr => ∃ i : Int, v16 = .int .i64 i ∧ Aside0 (0 ≤ i ∧ i ≤ 2 ∧ kq = (3 - i).toNat) ∧ Aside0 (Below W3.heap.size W3 wr))
      case atStart => exact ⟨0, rfl, ⟨by decide, by decide, rfl⟩, ⟨Below.refl _ _⟩⟩
      case round =>
        obtain ⟨i, rfl, HI, HV⟩ := hrel
        obtain ⟨wo, rfl⟩ : ∃ wo : World, wo = wr := ⟨_, rfl⟩
        obtain ⟨i0, i1, i2⟩ := HI.out
        have h0i : 0 ≤ i := by omega
        have h3i : i < 3 := by omega
        obtain ⟨v, b, hrow, hcmp⟩ := HR.out.rows i i0 h3i
        have hJo := HA.out.1.later (below_then HB3.out HB3.out.size HV.out)
        obtain ⟨bd', B0, d0, e9, y0, y1, _, g0⟩ := at_R hJo.r i h0i h3i
        cases e9
        rw [hrow] at y0 y1 g0
        dsimp only at y0 y1 g0
        have HG := Aside0.mk (And.intro (show Kd.C k42 wo B0 1 [v] from g0) hJo.kr)
        change wo.cell? (bd.add (i.toNat * 2)) = some (.slice B0 1 d0) at y0
        have hb3 : decide (i < (3 : Int)) = true := decide_eq_true h3i
        have c1 := cell_later HV.out (box1 HP3.out.2.1)
        have c3 := cell_later HV.out (box1 HP3.out.2.2.1)
        have hba := Aside0.mk (below_drew (Below.refl wo.heap.size wo))
        have HF4 := Aside0.mk (Kd.F_now (Kd.F_below HF3.out HV.out))
        clear g0 hJo hrow i2
        have hIs := Aside0.mk (And.intro i0 (And.intro i1 (And.intro h0i h3i)))
        replace h0i := eq_true h0i
        replace h3i := eq_true h3i
        by_cases hi : i < 2
        · have hz : decide (cmpR [v] [v2] = 0) = true := hcmp.trans (decide_eq_true hi)
          have hz0 : cmpR [v] [v2] = 0 := of_decide_eq_true hz
          have hz1 : (cmpR [v] [v2] == 0) = true := beq_iff_eq.2 hz0
          clear hcmp i0 i1
          gi_wp2
          refine wpIn_region_held_drew (S := (fun w' => w'.cell? ⟨p1, 0, none⟩ = some (.slice (some bd) 3 (d + 3)) ∧ w'.cell? ⟨p3, 0, none⟩ = some (.slice KB 1 f) ∧ w'.cell? (bd.add (i.toNat * 2)) = some (.slice B0 1 d0) ∧ w'.cell? ⟨(bd.add (i.toNat * 2)).block, (bd.add (i.toNat * 2)).off + 1, none⟩ = some (.slice b.1 b.2.1 b.2.2))) (by kernel_rfl) (noDefer_of (by kernel_rfl)) (fun ⟨_, _, h⟩ => h) (by first | (refine ⟨(by repeat (first | (with_reducible refine cell_dr ?_) | (with_reducible refine cell_al ?_ _) | with_reducible exact c1 | with_reducible exact cell_later hd1 c1 | with_reducible exact cell_later hd2 c1)), (by repeat (first | (with_reducible refine cell_dr ?_) | (with_reducible refine cell_al ?_ _) | with_reducible exact c3 | with_reducible exact cell_later hd1 c3 | with_reducible exact cell_later hd2 c3)), (by repeat (first | (with_reducible refine cell_dr ?_) | (with_reducible refine cell_al ?_ _) | with_reducible exact y0 | with_reducible exact cell_later hd1 y0 | with_reducible exact cell_later hd2 y0)), (by repeat (first | (with_reducible refine cell_dr ?_) | (with_reducible refine cell_al ?_ _) | with_reducible exact y1 | with_reducible exact cell_later hd1 y1 | with_reducible exact cell_later hd2 y1))⟩) | fail) (fun hHeld => ?_)
          refine wpAnyH_take (i := 0) (v := ?_) (by (simp only [List.getElem?_toArray, List.getElem?_cons_zero, List.getElem?_cons_succ]); rfl) (by kernel_rfl) (by kernel_rfl) (by kernel_rfl) (by exact fun _ _ _ h => h) (Or.inl ⟨by rfl, by (intro w hSw; (try dsimp only at hSw); go_simp; (try with_reducible rfl))⟩) (by assumption) ?_
          try simp only [Act.put, List.setIfInBounds_toArray, List.set_cons_zero, List.set_cons_succ]
          refine wpAnyH_take (i := 1) (v := ?_) (by (simp only [List.getElem?_toArray, List.getElem?_cons_zero, List.getElem?_cons_succ]); rfl) (by kernel_rfl) (by kernel_rfl) (by kernel_rfl) (by exact fun _ _ _ h => h) (Or.inl ⟨by rfl, by (intro w hSw; (try dsimp only at hSw); go_simp; (try with_reducible rfl))⟩) (by assumption) ?_
          try simp only [Act.put, List.setIfInBounds_toArray, List.set_cons_zero, List.set_cons_succ]
          refine wpAnyH_take (i := 2) (v := ?_) (by (simp only [List.getElem?_toArray, List.getElem?_cons_zero, List.getElem?_cons_succ]); rfl) (by kernel_rfl) (by kernel_rfl) (by kernel_rfl) (by exact fun _ _ _ h => h) (Or.inl ⟨by rfl, by (intro w hSw; (try dsimp only at hSw); go_simp; (try with_reducible rfl))⟩) (by assumption) ?_
          try simp only [Act.put, List.setIfInBounds_toArray, List.set_cons_zero, List.set_cons_succ]
          refine wpAnyH_take (i := 3) (v := ?_) (by (simp only [List.getElem?_toArray, List.getElem?_cons_zero, List.getElem?_cons_succ]); rfl) (by kernel_rfl) (by kernel_rfl) (by kernel_rfl) (by exact fun _ _ _ h => h) (Or.inl ⟨by rfl, by (intro w hSw; (try dsimp only at hSw); go_simp; (try with_reducible rfl))⟩) (by assumption) ?_
          try simp only [Act.put, List.setIfInBounds_toArray, List.set_cons_zero, List.set_cons_succ]
          refine wpAnyH_take (i := 4) (v := ?_) (by (simp only [List.getElem?_toArray, List.getElem?_cons_zero, List.getElem?_cons_succ]); rfl) (by kernel_rfl) (by kernel_rfl) (by kernel_rfl) (by exact fun _ _ _ h => h) (Or.inl ⟨by rfl, by (intro w hSw; (try dsimp only at hSw); go_simp; (try with_reducible rfl))⟩) (by assumption) ?_
          try simp only [Act.put, List.setIfInBounds_toArray, List.set_cons_zero, List.set_cons_succ]
          refine wpAnyH_take (i := 5) (v := ?_) (by (simp only [List.getElem?_toArray, List.getElem?_cons_zero, List.getElem?_cons_succ]); rfl) (by kernel_rfl) (by kernel_rfl) (by kernel_rfl) (by exact fun _ _ _ h => h) (Or.inl ⟨by rfl, by (intro w hSw; (try dsimp only at hSw); go_simp; (try with_reducible rfl))⟩) (by assumption) ?_
          try simp only [Act.put, List.setIfInBounds_toArray, List.set_cons_zero, List.set_cons_succ]
          refine wpAnyH_take (i := 6) (v := ?_) (by (simp only [List.getElem?_toArray, List.getElem?_cons_zero, List.getElem?_cons_succ]); rfl) (by kernel_rfl) (by kernel_rfl) (by kernel_rfl) (by exact fun _ _ _ h => h) (Or.inl ⟨by rfl, by (intro w hSw; (try dsimp only at hSw); go_simp; (try with_reducible rfl))⟩) (by assumption) ?_
          try simp only [Act.put, List.setIfInBounds_toArray, List.set_cons_zero, List.set_cons_succ]
          refine wpAnyH_take (i := 7) (v := ?_) (by (simp only [List.getElem?_toArray, List.getElem?_cons_zero, List.getElem?_cons_succ]); rfl) (by kernel_rfl) (by kernel_rfl) (by kernel_rfl) (by exact fun _ _ _ h => h) (Or.inl ⟨by rfl, by (intro w hSw; (try dsimp only at hSw); go_simp; (try with_reducible rfl))⟩) (by assumption) ?_
          try simp only [Act.put, List.setIfInBounds_toArray, List.set_cons_zero, List.set_cons_succ]
          refine wpAnyH_take (i := 8) (v := ?_) (by (simp only [List.getElem?_toArray, List.getElem?_cons_zero, List.getElem?_cons_succ]); rfl) (by kernel_rfl) (by kernel_rfl) (by kernel_rfl) (by exact fun _ _ _ h => h) (Or.inl ⟨by rfl, by (intro w hSw; (try dsimp only at hSw); go_simp; (try with_reducible rfl))⟩) (by assumption) ?_
          try simp only [Act.put, List.setIfInBounds_toArray, List.set_cons_zero, List.set_cons_succ]
          refine wpAnyH_take (i := 9) (v := ?_) (by (simp only [List.getElem?_toArray, List.getElem?_cons_zero, List.getElem?_cons_succ]); rfl) (by kernel_rfl) (by kernel_rfl) (by kernel_rfl) (by exact fun _ _ _ h => h) (Or.inl ⟨by rfl, by (intro w hSw; (try dsimp only at hSw); go_simp; (try with_reducible rfl))⟩) (by assumption) ?_
          try simp only [Act.put, List.setIfInBounds_toArray, List.set_cons_zero, List.set_cons_succ]
          refine wpAnyH_take (i := 11) (v := ?_) (by (simp only [List.getElem?_toArray, List.getElem?_cons_zero, List.getElem?_cons_succ]); rfl) (by kernel_rfl) (by kernel_rfl) (by kernel_rfl) (by exact fun _ _ _ h => h) (Or.inl ⟨by rfl, by (intro w hSw; (try dsimp only at hSw); go_simp; (try with_reducible rfl))⟩) (by assumption) ?_
          try simp only [Act.put, List.setIfInBounds_toArray, List.set_cons_zero, List.set_cons_succ]
          refine wpAnyH_ready (rs := [10]) (by kernel_rfl) (by simp) ?_
          refine AllReadyH.cons (by (simp only [List.getElem?_toArray, List.getElem?_cons_zero, List.getElem?_cons_succ]); rfl) (fun K hK => ?_) AllReadyH.nil
          go_simp
          go_at_call 24; (with_reducible refine (key1_calls v b B0 KB d0 f _ (Kd.C_below HG.out.1 hba.out) (Kd.C_below HG.out.2 hba.out)).mono ?_); rintro e' w4 ⟨A4, k4, rfl, hk4, hb4⟩; have hd1 := below_then hba.out hba.out.size hb4
          refine hK.out _ _ (by first | (refine ⟨(by repeat (first | (with_reducible refine cell_dr ?_) | (with_reducible refine cell_al ?_ _) | with_reducible exact c1 | with_reducible exact cell_later hd1 c1 | with_reducible exact cell_later hd2 c1)), (by repeat (first | (with_reducible refine cell_dr ?_) | (with_reducible refine cell_al ?_ _) | with_reducible exact c3 | with_reducible exact cell_later hd1 c3 | with_reducible exact cell_later hd2 c3)), (by repeat (first | (with_reducible refine cell_dr ?_) | (with_reducible refine cell_al ?_ _) | with_reducible exact y0 | with_reducible exact cell_later hd1 y0 | with_reducible exact cell_later hd2 y0)), (by repeat (first | (with_reducible refine cell_dr ?_) | (with_reducible refine cell_al ?_ _) | with_reducible exact y1 | with_reducible exact cell_later hd1 y1 | with_reducible exact cell_later hd2 y1))⟩) | fail) (fun hHeld2 => ?_)
          clear hK K hHeld
          have hHeld := hHeld2
          clear hHeld2
          try simp only [Act.put, List.setIfInBounds_toArray, List.set_cons_zero, List.set_cons_succ]
          refine wpAnyH_ready (rs := [12]) (by kernel_rfl) (by simp) ?_
          refine AllReadyH.cons (by (simp only [List.getElem?_toArray, List.getElem?_cons_zero, List.getElem?_cons_succ]); rfl) (fun K hK => ?_) AllReadyH.nil
          go_simp
          go_at_call 9; (with_reducible refine (cmp1_calls v v2 A4 AK k4 ck _ (Kd.F_now hk4) (Kd.C_below HF4.out hd1)).mono ?_); rintro e' w5 ⟨rfl, hb5⟩; have hd2 := below_then hd1 hd1.size hb5
          refine hK.out _ _ (by first | (refine ⟨(by repeat (first | (with_reducible refine cell_dr ?_) | (with_reducible refine cell_al ?_ _) | with_reducible exact c1 | with_reducible exact cell_later hd1 c1 | with_reducible exact cell_later hd2 c1)), (by repeat (first | (with_reducible refine cell_dr ?_) | (with_reducible refine cell_al ?_ _) | with_reducible exact c3 | with_reducible exact cell_later hd1 c3 | with_reducible exact cell_later hd2 c3)), (by repeat (first | (with_reducible refine cell_dr ?_) | (with_reducible refine cell_al ?_ _) | with_reducible exact y0 | with_reducible exact cell_later hd1 y0 | with_reducible exact cell_later hd2 y0)), (by repeat (first | (with_reducible refine cell_dr ?_) | (with_reducible refine cell_al ?_ _) | with_reducible exact y1 | with_reducible exact cell_later hd1 y1 | with_reducible exact cell_later hd2 y1))⟩) | fail) (fun hHeld2 => ?_)
          clear hK K hHeld
          have hHeld := hHeld2
          clear hHeld2
          try simp only [Act.put, List.setIfInBounds_toArray, List.set_cons_zero, List.set_cons_succ]
          refine wpAnyH_take (i := 13) (v := ?_) (by (simp only [List.getElem?_toArray, List.getElem?_cons_zero, List.getElem?_cons_succ]); rfl) (by kernel_rfl) (by kernel_rfl) (by kernel_rfl) (by exact fun _ _ _ h => h) (Or.inl ⟨by rfl, by (intro w hSw; (try dsimp only at hSw); go_simp; (try with_reducible rfl))⟩) (by assumption) ?_
          try simp only [Act.put, List.setIfInBounds_toArray, List.set_cons_zero, List.set_cons_succ]
          refine wpAnyH_take (i := 14) (v := ?_) (by (simp only [List.getElem?_toArray, List.getElem?_cons_zero, List.getElem?_cons_succ]); rfl) (by kernel_rfl) (by kernel_rfl) (by kernel_rfl) (by exact fun _ _ _ h => h) (Or.inl ⟨by rfl, by (intro w hSw; (try dsimp only at hSw); go_simp; (try with_reducible rfl))⟩) (by assumption) ?_
          try simp only [Act.put, List.setIfInBounds_toArray, List.set_cons_zero, List.set_cons_succ]
          refine wpAnyH_done (by kernel_rfl) ?_ _
          have HV5 := Aside0.mk (below_then HV.out HV.out.size hd2)
          clear c1 c3 y0 y1 hd1 hd2 hb4 hb5 hk4 hba
          try clear hHeld
          have hw : wrap64 (i + 1) = i + 1 := IntWalk.wrap64_in _ (by have := hIs.out.2.2; omega)
          gi_wp2
          gi_roundg (3 - (i + 1)).toNat
          case measure => have := HI.out.2.2; have := hIs.out.2.2; omega
          case rel => exact ⟨i + 1, congrArg (Value.int .i64) hw, ⟨by have := hIs.out; omega, by omega, rfl⟩, HV5⟩
        · have hz : decide (cmpR [v] [v2] = 0) = false := hcmp.trans (decide_eq_false hi)
          have hz0 : ¬ (cmpR [v] [v2] = 0) := of_decide_eq_false hz
          have hz1 : (cmpR [v] [v2] == 0) = false := beq_eq_false_iff_ne.2 hz0
          have hie : i = 2 := by omega
          have HIE := Aside0.mk hie
          clear hcmp i0 i1 hie
          gi_wp2
          refine wpIn_region_held_drew (S := (fun w' => w'.cell? ⟨p1, 0, none⟩ = some (.slice (some bd) 3 (d + 3)) ∧ w'.cell? ⟨p3, 0, none⟩ = some (.slice KB 1 f) ∧ w'.cell? (bd.add (i.toNat * 2)) = some (.slice B0 1 d0) ∧ w'.cell? ⟨(bd.add (i.toNat * 2)).block, (bd.add (i.toNat * 2)).off + 1, none⟩ = some (.slice b.1 b.2.1 b.2.2))) (by kernel_rfl) (noDefer_of (by kernel_rfl)) (fun ⟨_, _, h⟩ => h) (by first | (refine ⟨(by repeat (first | (with_reducible refine cell_dr ?_) | (with_reducible refine cell_al ?_ _) | with_reducible exact c1 | with_reducible exact cell_later hd1 c1 | with_reducible exact cell_later hd2 c1)), (by repeat (first | (with_reducible refine cell_dr ?_) | (with_reducible refine cell_al ?_ _) | with_reducible exact c3 | with_reducible exact cell_later hd1 c3 | with_reducible exact cell_later hd2 c3)), (by repeat (first | (with_reducible refine cell_dr ?_) | (with_reducible refine cell_al ?_ _) | with_reducible exact y0 | with_reducible exact cell_later hd1 y0 | with_reducible exact cell_later hd2 y0)), (by repeat (first | (with_reducible refine cell_dr ?_) | (with_reducible refine cell_al ?_ _) | with_reducible exact y1 | with_reducible exact cell_later hd1 y1 | with_reducible exact cell_later hd2 y1))⟩) | fail) (fun hHeld => ?_)
          refine wpAnyH_take (i := 0) (v := ?_) (by (simp only [List.getElem?_toArray, List.getElem?_cons_zero, List.getElem?_cons_succ]); rfl) (by kernel_rfl) (by kernel_rfl) (by kernel_rfl) (by exact fun _ _ _ h => h) (Or.inl ⟨by rfl, by (intro w hSw; (try dsimp only at hSw); go_simp; (try with_reducible rfl))⟩) (by assumption) ?_
          try simp only [Act.put, List.setIfInBounds_toArray, List.set_cons_zero, List.set_cons_succ]
          refine wpAnyH_take (i := 1) (v := ?_) (by (simp only [List.getElem?_toArray, List.getElem?_cons_zero, List.getElem?_cons_succ]); rfl) (by kernel_rfl) (by kernel_rfl) (by kernel_rfl) (by exact fun _ _ _ h => h) (Or.inl ⟨by rfl, by (intro w hSw; (try dsimp only at hSw); go_simp; (try with_reducible rfl))⟩) (by assumption) ?_
          try simp only [Act.put, List.setIfInBounds_toArray, List.set_cons_zero, List.set_cons_succ]
          refine wpAnyH_take (i := 2) (v := ?_) (by (simp only [List.getElem?_toArray, List.getElem?_cons_zero, List.getElem?_cons_succ]); rfl) (by kernel_rfl) (by kernel_rfl) (by kernel_rfl) (by exact fun _ _ _ h => h) (Or.inl ⟨by rfl, by (intro w hSw; (try dsimp only at hSw); go_simp; (try with_reducible rfl))⟩) (by assumption) ?_
          try simp only [Act.put, List.setIfInBounds_toArray, List.set_cons_zero, List.set_cons_succ]
          refine wpAnyH_take (i := 3) (v := ?_) (by (simp only [List.getElem?_toArray, List.getElem?_cons_zero, List.getElem?_cons_succ]); rfl) (by kernel_rfl) (by kernel_rfl) (by kernel_rfl) (by exact fun _ _ _ h => h) (Or.inl ⟨by rfl, by (intro w hSw; (try dsimp only at hSw); go_simp; (try with_reducible rfl))⟩) (by assumption) ?_
          try simp only [Act.put, List.setIfInBounds_toArray, List.set_cons_zero, List.set_cons_succ]
          refine wpAnyH_take (i := 4) (v := ?_) (by (simp only [List.getElem?_toArray, List.getElem?_cons_zero, List.getElem?_cons_succ]); rfl) (by kernel_rfl) (by kernel_rfl) (by kernel_rfl) (by exact fun _ _ _ h => h) (Or.inl ⟨by rfl, by (intro w hSw; (try dsimp only at hSw); go_simp; (try with_reducible rfl))⟩) (by assumption) ?_
          try simp only [Act.put, List.setIfInBounds_toArray, List.set_cons_zero, List.set_cons_succ]
          refine wpAnyH_take (i := 5) (v := ?_) (by (simp only [List.getElem?_toArray, List.getElem?_cons_zero, List.getElem?_cons_succ]); rfl) (by kernel_rfl) (by kernel_rfl) (by kernel_rfl) (by exact fun _ _ _ h => h) (Or.inl ⟨by rfl, by (intro w hSw; (try dsimp only at hSw); go_simp; (try with_reducible rfl))⟩) (by assumption) ?_
          try simp only [Act.put, List.setIfInBounds_toArray, List.set_cons_zero, List.set_cons_succ]
          refine wpAnyH_take (i := 6) (v := ?_) (by (simp only [List.getElem?_toArray, List.getElem?_cons_zero, List.getElem?_cons_succ]); rfl) (by kernel_rfl) (by kernel_rfl) (by kernel_rfl) (by exact fun _ _ _ h => h) (Or.inl ⟨by rfl, by (intro w hSw; (try dsimp only at hSw); go_simp; (try with_reducible rfl))⟩) (by assumption) ?_
          try simp only [Act.put, List.setIfInBounds_toArray, List.set_cons_zero, List.set_cons_succ]
          refine wpAnyH_take (i := 7) (v := ?_) (by (simp only [List.getElem?_toArray, List.getElem?_cons_zero, List.getElem?_cons_succ]); rfl) (by kernel_rfl) (by kernel_rfl) (by kernel_rfl) (by exact fun _ _ _ h => h) (Or.inl ⟨by rfl, by (intro w hSw; (try dsimp only at hSw); go_simp; (try with_reducible rfl))⟩) (by assumption) ?_
          try simp only [Act.put, List.setIfInBounds_toArray, List.set_cons_zero, List.set_cons_succ]
          refine wpAnyH_take (i := 8) (v := ?_) (by (simp only [List.getElem?_toArray, List.getElem?_cons_zero, List.getElem?_cons_succ]); rfl) (by kernel_rfl) (by kernel_rfl) (by kernel_rfl) (by exact fun _ _ _ h => h) (Or.inl ⟨by rfl, by (intro w hSw; (try dsimp only at hSw); go_simp; (try with_reducible rfl))⟩) (by assumption) ?_
          try simp only [Act.put, List.setIfInBounds_toArray, List.set_cons_zero, List.set_cons_succ]
          refine wpAnyH_take (i := 9) (v := ?_) (by (simp only [List.getElem?_toArray, List.getElem?_cons_zero, List.getElem?_cons_succ]); rfl) (by kernel_rfl) (by kernel_rfl) (by kernel_rfl) (by exact fun _ _ _ h => h) (Or.inl ⟨by rfl, by (intro w hSw; (try dsimp only at hSw); go_simp; (try with_reducible rfl))⟩) (by assumption) ?_
          try simp only [Act.put, List.setIfInBounds_toArray, List.set_cons_zero, List.set_cons_succ]
          refine wpAnyH_take (i := 11) (v := ?_) (by (simp only [List.getElem?_toArray, List.getElem?_cons_zero, List.getElem?_cons_succ]); rfl) (by kernel_rfl) (by kernel_rfl) (by kernel_rfl) (by exact fun _ _ _ h => h) (Or.inl ⟨by rfl, by (intro w hSw; (try dsimp only at hSw); go_simp; (try with_reducible rfl))⟩) (by assumption) ?_
          try simp only [Act.put, List.setIfInBounds_toArray, List.set_cons_zero, List.set_cons_succ]
          refine wpAnyH_ready (rs := [10]) (by kernel_rfl) (by simp) ?_
          refine AllReadyH.cons (by (simp only [List.getElem?_toArray, List.getElem?_cons_zero, List.getElem?_cons_succ]); rfl) (fun K hK => ?_) AllReadyH.nil
          go_simp
          go_at_call 24; (with_reducible refine (key1_calls v b B0 KB d0 f _ (Kd.C_below HG.out.1 hba.out) (Kd.C_below HG.out.2 hba.out)).mono ?_); rintro e' w4 ⟨A4, k4, rfl, hk4, hb4⟩; have hd1 := below_then hba.out hba.out.size hb4
          refine hK.out _ _ (by first | (refine ⟨(by repeat (first | (with_reducible refine cell_dr ?_) | (with_reducible refine cell_al ?_ _) | with_reducible exact c1 | with_reducible exact cell_later hd1 c1 | with_reducible exact cell_later hd2 c1)), (by repeat (first | (with_reducible refine cell_dr ?_) | (with_reducible refine cell_al ?_ _) | with_reducible exact c3 | with_reducible exact cell_later hd1 c3 | with_reducible exact cell_later hd2 c3)), (by repeat (first | (with_reducible refine cell_dr ?_) | (with_reducible refine cell_al ?_ _) | with_reducible exact y0 | with_reducible exact cell_later hd1 y0 | with_reducible exact cell_later hd2 y0)), (by repeat (first | (with_reducible refine cell_dr ?_) | (with_reducible refine cell_al ?_ _) | with_reducible exact y1 | with_reducible exact cell_later hd1 y1 | with_reducible exact cell_later hd2 y1))⟩) | fail) (fun hHeld2 => ?_)
          clear hK K hHeld
          have hHeld := hHeld2
          clear hHeld2
          try simp only [Act.put, List.setIfInBounds_toArray, List.set_cons_zero, List.set_cons_succ]
          refine wpAnyH_ready (rs := [12]) (by kernel_rfl) (by simp) ?_
          refine AllReadyH.cons (by (simp only [List.getElem?_toArray, List.getElem?_cons_zero, List.getElem?_cons_succ]); rfl) (fun K hK => ?_) AllReadyH.nil
          go_simp
          go_at_call 9; (with_reducible refine (cmp1_calls v v2 A4 AK k4 ck _ (Kd.F_now hk4) (Kd.C_below HF4.out hd1)).mono ?_); rintro e' w5 ⟨rfl, hb5⟩; have hd2 := below_then hd1 hd1.size hb5
          refine hK.out _ _ (by first | (refine ⟨(by repeat (first | (with_reducible refine cell_dr ?_) | (with_reducible refine cell_al ?_ _) | with_reducible exact c1 | with_reducible exact cell_later hd1 c1 | with_reducible exact cell_later hd2 c1)), (by repeat (first | (with_reducible refine cell_dr ?_) | (with_reducible refine cell_al ?_ _) | with_reducible exact c3 | with_reducible exact cell_later hd1 c3 | with_reducible exact cell_later hd2 c3)), (by repeat (first | (with_reducible refine cell_dr ?_) | (with_reducible refine cell_al ?_ _) | with_reducible exact y0 | with_reducible exact cell_later hd1 y0 | with_reducible exact cell_later hd2 y0)), (by repeat (first | (with_reducible refine cell_dr ?_) | (with_reducible refine cell_al ?_ _) | with_reducible exact y1 | with_reducible exact cell_later hd1 y1 | with_reducible exact cell_later hd2 y1))⟩) | fail) (fun hHeld2 => ?_)
          clear hK K hHeld
          have hHeld := hHeld2
          clear hHeld2
          try simp only [Act.put, List.setIfInBounds_toArray, List.set_cons_zero, List.set_cons_succ]
          refine wpAnyH_take (i := 13) (v := ?_) (by (simp only [List.getElem?_toArray, List.getElem?_cons_zero, List.getElem?_cons_succ]); rfl) (by kernel_rfl) (by kernel_rfl) (by kernel_rfl) (by exact fun _ _ _ h => h) (Or.inl ⟨by rfl, by (intro w hSw; (try dsimp only at hSw); go_simp; (try with_reducible rfl))⟩) (by assumption) ?_
          try simp only [Act.put, List.setIfInBounds_toArray, List.set_cons_zero, List.set_cons_succ]
          refine wpAnyH_take (i := 14) (v := ?_) (by (simp only [List.getElem?_toArray, List.getElem?_cons_zero, List.getElem?_cons_succ]); rfl) (by kernel_rfl) (by kernel_rfl) (by kernel_rfl) (by exact fun _ _ _ h => h) (Or.inl ⟨by rfl, by (intro w hSw; (try dsimp only at hSw); go_simp; (try with_reducible rfl))⟩) (by assumption) ?_
          try simp only [Act.put, List.setIfInBounds_toArray, List.set_cons_zero, List.set_cons_succ]
          refine wpAnyH_done (by kernel_rfl) ?_ _
          obtain rfl := HIE.out
          have HV5 := Aside0.mk (below_then HV.out HV.out.size hd2)
          clear c1 c3 y0 y1 hd1 hd2 hb4 hb5 hk4 hba hz hz0 hz1
          try clear hHeld
          gi_upto_region 12 with (fail)
          have o0 := cell_later HV5.out (box1 HO3.out)
          have ca := cell_later HV5.out (box1 HA3.out)
          have c0 := cell_later HV5.out (box1 HP3.out.1)
          have c1 := cell_later HV5.out (box1 HP3.out.2.1)
          obtain ⟨q0, q1, q2, q3, q4, q5, q6⟩ := box7 (blk_below HP3.out.2.2.2.1 HV5.out)
          obtain ⟨z0, z1⟩ := box2 (blk_below HP3.out.2.2.2.2 HV5.out)
          have HBD := Aside0.mk (below_drew (below_then HB3.out HB3.out.size HV5.out))
          have hba := Aside0.mk (below_drew (Below.refl w5.heap.size w5))
          have hs1 : (3 : Int) ≤ (c : Int) + 3 := by omega
          have hs2 : (2 : Int) ≤ (d : Int) + 3 := by omega
          refine wpIn_region_held_drew (S := (fun w' => w'.cell? ⟨gO, 0, none⟩ = some (.slice oA oN oC) ∧ w'.cell? ⟨p0, 0, none⟩ = some (.slice (some ad) 3 (c + 3)) ∧ w'.cell? ⟨Bx, 0, none⟩ = some (.int .i64 1) ∧ w'.cell? ⟨Bx, 1, none⟩ = some (.int .i64 3) ∧ w'.cell? ⟨p1, 0, none⟩ = some (.slice (some bd) 3 (d + 3)) ∧ w'.cell? ⟨gA, 0, none⟩ = some (.int .i64 0) ∧ w'.cell? ⟨p4, 0, none⟩ = some (.int .i64 0) ∧ w'.cell? ⟨p4, 1, none⟩ = some (.int .i64 0) ∧ w'.cell? ⟨p4, 2, none⟩ = some (.int .i64 2) ∧ w'.cell? ⟨p4, 3, none⟩ = some (.int .i64 1) ∧ w'.cell? ⟨p4, 4, none⟩ = some (.string ⟨#[]⟩) ∧ w'.cell? ⟨p4, 5, none⟩ = some (.int .i64 0) ∧ w'.cell? ⟨p4, 6, none⟩ = some (.slice none 0 0))) (by kernel_rfl) (noDefer_of (by kernel_rfl)) (fun ⟨_, _, h⟩ => h) (by first | (refine ⟨(by repeat (first | (with_reducible refine cell_dr ?_) | (with_reducible refine cell_al ?_ _) | with_reducible exact o0 | with_reducible exact cell_later hd3 o0)), (by repeat (first | (with_reducible refine cell_dr ?_) | (with_reducible refine cell_al ?_ _) | with_reducible exact c0 | with_reducible exact cell_later hd3 c0)), (by repeat (first | (with_reducible refine cell_dr ?_) | (with_reducible refine cell_al ?_ _) | with_reducible exact z0 | with_reducible exact cell_later hd3 z0)), (by repeat (first | (with_reducible refine cell_dr ?_) | (with_reducible refine cell_al ?_ _) | with_reducible exact z1 | with_reducible exact cell_later hd3 z1)), (by repeat (first | (with_reducible refine cell_dr ?_) | (with_reducible refine cell_al ?_ _) | with_reducible exact c1 | with_reducible exact cell_later hd3 c1)), (by repeat (first | (with_reducible refine cell_dr ?_) | (with_reducible refine cell_al ?_ _) | with_reducible exact ca | with_reducible exact cell_later hd3 ca)), (by repeat (first | (with_reducible refine cell_dr ?_) | (with_reducible refine cell_al ?_ _) | with_reducible exact q0 | with_reducible exact cell_later hd3 q0)), (by repeat (first | (with_reducible refine cell_dr ?_) | (with_reducible refine cell_al ?_ _) | with_reducible exact q1 | with_reducible exact cell_later hd3 q1)), (by repeat (first | (with_reducible refine cell_dr ?_) | (with_reducible refine cell_al ?_ _) | with_reducible exact q2 | with_reducible exact cell_later hd3 q2)), (by repeat (first | (with_reducible refine cell_dr ?_) | (with_reducible refine cell_al ?_ _) | with_reducible exact q3 | with_reducible exact cell_later hd3 q3)), (by repeat (first | (with_reducible refine cell_dr ?_) | (with_reducible refine cell_al ?_ _) | with_reducible exact q4 | with_reducible exact cell_later hd3 q4)), (by repeat (first | (with_reducible refine cell_dr ?_) | (with_reducible refine cell_al ?_ _) | with_reducible exact q5 | with_reducible exact cell_later hd3 q5)), (by repeat (first | (with_reducible refine cell_dr ?_) | (with_reducible refine cell_al ?_ _) | with_reducible exact q6 | with_reducible exact cell_later hd3 q6))⟩) | fail) (fun hHeld => ?_)
          refine wpAnyH_take (i := 0) (v := ?_) (by (simp only [List.getElem?_toArray, List.getElem?_cons_zero, List.getElem?_cons_succ]); rfl) (by kernel_rfl) (by kernel_rfl) (by kernel_rfl) (by exact fun _ _ _ h => h) (Or.inl ⟨by rfl, by (intro w hSw; (try dsimp only at hSw); go_simp; (try with_reducible rfl))⟩) (by assumption) ?_
          try simp only [Act.put, List.setIfInBounds_toArray, List.set_cons_zero, List.set_cons_succ]
          refine wpAnyH_take (i := 1) (v := ?_) (by (simp only [List.getElem?_toArray, List.getElem?_cons_zero, List.getElem?_cons_succ]); rfl) (by kernel_rfl) (by kernel_rfl) (by kernel_rfl) (by exact fun _ _ _ h => h) (Or.inl ⟨by rfl, by (intro w hSw; (try dsimp only at hSw); go_simp; (try with_reducible rfl))⟩) (by assumption) ?_
          try simp only [Act.put, List.setIfInBounds_toArray, List.set_cons_zero, List.set_cons_succ]
          refine wpAnyH_take (i := 2) (v := ?_) (by (simp only [List.getElem?_toArray, List.getElem?_cons_zero, List.getElem?_cons_succ]); rfl) (by kernel_rfl) (by kernel_rfl) (by kernel_rfl) (by exact fun _ _ _ h => h) (Or.inl ⟨by rfl, by (intro w hSw; (try dsimp only at hSw); go_simp; (try with_reducible rfl))⟩) (by assumption) ?_
          try simp only [Act.put, List.setIfInBounds_toArray, List.set_cons_zero, List.set_cons_succ]
          refine wpAnyH_take (i := 3) (v := ?_) (by (simp only [List.getElem?_toArray, List.getElem?_cons_zero, List.getElem?_cons_succ]); rfl) (by kernel_rfl) (by kernel_rfl) (by kernel_rfl) (by exact fun _ _ _ h => h) (Or.inl ⟨by rfl, by (intro w hSw; (try dsimp only at hSw); go_simp; (try with_reducible rfl))⟩) (by assumption) ?_
          try simp only [Act.put, List.setIfInBounds_toArray, List.set_cons_zero, List.set_cons_succ]
          refine wpAnyH_take (i := 4) (v := ?_) (by (simp only [List.getElem?_toArray, List.getElem?_cons_zero, List.getElem?_cons_succ]); rfl) (by kernel_rfl) (by kernel_rfl) (by kernel_rfl) (by exact fun _ _ _ h => h) (Or.inl ⟨by rfl, by (intro w hSw; (try dsimp only at hSw); go_simp; (try with_reducible rfl))⟩) (by assumption) ?_
          try simp only [Act.put, List.setIfInBounds_toArray, List.set_cons_zero, List.set_cons_succ]
          refine wpAnyH_take (i := 5) (v := ?_) (by (simp only [List.getElem?_toArray, List.getElem?_cons_zero, List.getElem?_cons_succ]); rfl) (by kernel_rfl) (by kernel_rfl) (by kernel_rfl) (by exact fun _ _ _ h => h) (Or.inl ⟨by rfl, by (intro w hSw; (try dsimp only at hSw); go_simp; (try with_reducible rfl))⟩) (by assumption) ?_
          try simp only [Act.put, List.setIfInBounds_toArray, List.set_cons_zero, List.set_cons_succ]
          refine wpAnyH_take (i := 6) (v := ?_) (by (simp only [List.getElem?_toArray, List.getElem?_cons_zero, List.getElem?_cons_succ]); rfl) (by kernel_rfl) (by kernel_rfl) (by kernel_rfl) (by exact fun _ _ _ h => h) (Or.inl ⟨by rfl, by (intro w hSw; (try dsimp only at hSw); go_simp; (try with_reducible rfl))⟩) (by assumption) ?_
          try simp only [Act.put, List.setIfInBounds_toArray, List.set_cons_zero, List.set_cons_succ]
          refine wpAnyH_take (i := 7) (v := ?_) (by (simp only [List.getElem?_toArray, List.getElem?_cons_zero, List.getElem?_cons_succ]); rfl) (by kernel_rfl) (by kernel_rfl) (by kernel_rfl) (by exact fun _ _ _ h => h) (Or.inl ⟨by rfl, by (intro w hSw; (try dsimp only at hSw); go_simp; (try with_reducible rfl))⟩) (by assumption) ?_
          try simp only [Act.put, List.setIfInBounds_toArray, List.set_cons_zero, List.set_cons_succ]
          refine wpAnyH_take (i := 8) (v := ?_) (by (simp only [List.getElem?_toArray, List.getElem?_cons_zero, List.getElem?_cons_succ]); rfl) (by kernel_rfl) (by kernel_rfl) (by kernel_rfl) (by exact fun _ _ _ h => h) (Or.inl ⟨by rfl, by (intro w hSw; (try dsimp only at hSw); go_simp; (try with_reducible rfl))⟩) (by assumption) ?_
          try simp only [Act.put, List.setIfInBounds_toArray, List.set_cons_zero, List.set_cons_succ]
          refine wpAnyH_take (i := 9) (v := ?_) (by (simp only [List.getElem?_toArray, List.getElem?_cons_zero, List.getElem?_cons_succ]); rfl) (by kernel_rfl) (by kernel_rfl) (by kernel_rfl) (by exact fun _ _ _ h => h) (Or.inl ⟨by rfl, by (intro w hSw; (try dsimp only at hSw); go_simp; (try with_reducible rfl))⟩) (by assumption) ?_
          try simp only [Act.put, List.setIfInBounds_toArray, List.set_cons_zero, List.set_cons_succ]
          refine wpAnyH_take (i := 10) (v := ?_) (by (simp only [List.getElem?_toArray, List.getElem?_cons_zero, List.getElem?_cons_succ]); rfl) (by kernel_rfl) (by kernel_rfl) (by kernel_rfl) (by exact fun _ _ _ h => h) (Or.inl ⟨by rfl, by (intro w hSw; (try dsimp only at hSw); go_simp; (try with_reducible rfl))⟩) (by assumption) ?_
          try simp only [Act.put, List.setIfInBounds_toArray, List.set_cons_zero, List.set_cons_succ]
          refine wpAnyH_take (i := 11) (v := ?_) (by (simp only [List.getElem?_toArray, List.getElem?_cons_zero, List.getElem?_cons_succ]); rfl) (by kernel_rfl) (by kernel_rfl) (by kernel_rfl) (by exact fun _ _ _ h => h) (Or.inl ⟨by rfl, by (intro w hSw; (try dsimp only at hSw); go_simp; (try with_reducible rfl))⟩) (by assumption) ?_
          try simp only [Act.put, List.setIfInBounds_toArray, List.set_cons_zero, List.set_cons_succ]
          refine wpAnyH_ready (rs := [12]) (by kernel_rfl) (by simp) ?_
          refine AllReadyH.cons (by (simp only [List.getElem?_toArray, List.getElem?_cons_zero, List.getElem?_cons_succ]); rfl) (fun K hK => ?_) AllReadyH.nil
          go_simp
          go_at_call 26; (with_reducible refine (HR.out.pairs _ HBD.out).mono ?_); rintro e' w6 ⟨A6, n6, c6, rfl, hnx, hb6⟩; have hd3 := below_then hba.out hba.out.size hb6
          refine hK.out _ _ (by first | (refine ⟨(by repeat (first | (with_reducible refine cell_dr ?_) | (with_reducible refine cell_al ?_ _) | with_reducible exact o0 | with_reducible exact cell_later hd3 o0)), (by repeat (first | (with_reducible refine cell_dr ?_) | (with_reducible refine cell_al ?_ _) | with_reducible exact c0 | with_reducible exact cell_later hd3 c0)), (by repeat (first | (with_reducible refine cell_dr ?_) | (with_reducible refine cell_al ?_ _) | with_reducible exact z0 | with_reducible exact cell_later hd3 z0)), (by repeat (first | (with_reducible refine cell_dr ?_) | (with_reducible refine cell_al ?_ _) | with_reducible exact z1 | with_reducible exact cell_later hd3 z1)), (by repeat (first | (with_reducible refine cell_dr ?_) | (with_reducible refine cell_al ?_ _) | with_reducible exact c1 | with_reducible exact cell_later hd3 c1)), (by repeat (first | (with_reducible refine cell_dr ?_) | (with_reducible refine cell_al ?_ _) | with_reducible exact ca | with_reducible exact cell_later hd3 ca)), (by repeat (first | (with_reducible refine cell_dr ?_) | (with_reducible refine cell_al ?_ _) | with_reducible exact q0 | with_reducible exact cell_later hd3 q0)), (by repeat (first | (with_reducible refine cell_dr ?_) | (with_reducible refine cell_al ?_ _) | with_reducible exact q1 | with_reducible exact cell_later hd3 q1)), (by repeat (first | (with_reducible refine cell_dr ?_) | (with_reducible refine cell_al ?_ _) | with_reducible exact q2 | with_reducible exact cell_later hd3 q2)), (by repeat (first | (with_reducible refine cell_dr ?_) | (with_reducible refine cell_al ?_ _) | with_reducible exact q3 | with_reducible exact cell_later hd3 q3)), (by repeat (first | (with_reducible refine cell_dr ?_) | (with_reducible refine cell_al ?_ _) | with_reducible exact q4 | with_reducible exact cell_later hd3 q4)), (by repeat (first | (with_reducible refine cell_dr ?_) | (with_reducible refine cell_al ?_ _) | with_reducible exact q5 | with_reducible exact cell_later hd3 q5)), (by repeat (first | (with_reducible refine cell_dr ?_) | (with_reducible refine cell_al ?_ _) | with_reducible exact q6 | with_reducible exact cell_later hd3 q6))⟩) | fail) (fun hHeld2 => ?_)
          clear hK K hHeld
          have hHeld := hHeld2
          clear hHeld2
          try simp only [Act.put, List.setIfInBounds_toArray, List.set_cons_zero, List.set_cons_succ]
          refine wpAnyH_take (i := 13) (v := ?_) (by (simp only [List.getElem?_toArray, List.getElem?_cons_zero, List.getElem?_cons_succ]); rfl) (by kernel_rfl) (by kernel_rfl) (by kernel_rfl) (by exact fun _ _ _ h => h) (Or.inl ⟨by rfl, by (intro w hSw; (try dsimp only at hSw); go_simp; (try with_reducible rfl))⟩) (by assumption) ?_
          try simp only [Act.put, List.setIfInBounds_toArray, List.set_cons_zero, List.set_cons_succ]
          refine wpAnyH_take (i := 14) (v := ?_) (by (simp only [List.getElem?_toArray, List.getElem?_cons_zero, List.getElem?_cons_succ]); rfl) (by kernel_rfl) (by kernel_rfl) (by kernel_rfl) (by exact fun _ _ _ h => h) (Or.inl ⟨by rfl, by (intro w hSw; (try dsimp only at hSw); go_simp; (try with_reducible rfl))⟩) (by assumption) ?_
          try simp only [Act.put, List.setIfInBounds_toArray, List.set_cons_zero, List.set_cons_succ]
          refine wpAnyH_take (i := 15) (v := ?_) (by (simp only [List.getElem?_toArray, List.getElem?_cons_zero, List.getElem?_cons_succ]); rfl) (by kernel_rfl) (by kernel_rfl) (by kernel_rfl) (by exact fun _ _ _ h => h) (Or.inl ⟨by rfl, by (intro w hSw; (try dsimp only at hSw); go_simp; (try with_reducible rfl))⟩) (by assumption) ?_
          try simp only [Act.put, List.setIfInBounds_toArray, List.set_cons_zero, List.set_cons_succ]
          refine wpAnyH_take (i := 16) (v := ?_) (by (simp only [List.getElem?_toArray, List.getElem?_cons_zero, List.getElem?_cons_succ]); rfl) (by kernel_rfl) (by kernel_rfl) (by kernel_rfl) (by exact fun _ _ _ h => h) (Or.inl ⟨by rfl, by (intro w hSw; (try dsimp only at hSw); go_simp; (try with_reducible rfl))⟩) (by assumption) ?_
          try simp only [Act.put, List.setIfInBounds_toArray, List.set_cons_zero, List.set_cons_succ]
          refine wpAnyH_take (i := 17) (v := ?_) (by (simp only [List.getElem?_toArray, List.getElem?_cons_zero, List.getElem?_cons_succ]); rfl) (by kernel_rfl) (by kernel_rfl) (by kernel_rfl) (by exact fun _ _ _ h => h) (Or.inl ⟨by rfl, by (intro w hSw; (try dsimp only at hSw); go_simp; (try with_reducible rfl))⟩) (by assumption) ?_
          try simp only [Act.put, List.setIfInBounds_toArray, List.set_cons_zero, List.set_cons_succ]
          refine wpAnyH_done (by kernel_rfl) ?_ _
          have HV6 := Aside0.mk (below_then HV5.out HV5.out.size hd3)
          have HNX := Aside0.mk hnx
          clear o0 ca c0 c1 q0 q1 q2 q3 q4 q5 q6 z0 z1 hba hd3 hb6 hnx hs1 hs2
          try clear hHeld
          gi_upto_region 15 with (fail)
          have ho6 := blk_below HO3.out HV6.out
          have ha6 := blk_below HA3.out HV6.out
          have o0 := box1 ho6
          have ca := box1 ha6
          have fo := blk_frozen ho6 0
          have fa := blk_frozen ha6 0
          have hord := HORD.out.2
          have hp00 := HORD.out.1
          have hgn : gO < gA := hord.2.2.2.2.2.2.2.1
          have hne : gO ≠ gA := by omega
          have ho7 := blk_far (p := ⟨gA, 0, none⟩) (blk_set ho6 0 (.slice A6 n6 c6)) (show gO ≠ gA by omega) (.int .i64 2)
          have ha7 := blk_set (blk_far (p := ⟨gO, 0, none⟩) ha6 (show gA ≠ gO by omega) (.slice A6 n6 c6)) 0 (.int .i64 2)
          have hK7 := ((HK3.out.below HV6.out).set (.inl rfl) 0 (.slice A6 n6 c6)).set (.inr rfl) 0 (.int .i64 2)
          gi_wp2
          obtain ⟨W7, hW7⟩ : ∃ W7, (w6.setCell ⟨gO, 0, none⟩ (.slice A6 n6 c6)).setCell ⟨gA, 0, none⟩ (.int .i64 2) = W7 := ⟨_, rfl⟩
          rw [hW7] at ho7 ha7 hK7 ⊢
          have hst := HNX.out W7 ho7 ha7
          refine ⟨hK7.keeps HR.out.ho rfl HR.out.ha rfl, hK7.kpG HJ.out.b.size (by omega) (by omega) HJ.out.m1 HJ.out.m2 ⟨by omega, by omega⟩, ?_⟩
          dsimp only
          rw [List.map_append]
          exact HJ.out.kept hK7 hp00 hord hst
    · cases he
      have HR := Aside0.mk hR
      have HBX := Aside0.mk (And.intro bX (And.intro hBx (And.intro hlt hl)))
      have z0 := (box2 bX).1
      have c0 := box1 HJ.out.k0
      have c2 := box1 HJ.out.k2
      obtain ⟨A0, k0, u0, u1, g0⟩ := left1 (HA.out.1.later HJ.out.b).l
      have HG := Aside0.mk (And.intro g0 (HA.out.1.later HJ.out.b).kl)
      have hba := Aside0.mk (below_drew (Below.refl W.heap.size W))
      clear g0 hR bX hBx hlt hl hJ hr
      dsimp only
      gi_upto_region 7 with (fail)
      refine wpIn_region_held_drew (S := (fun w' => w'.cell? ⟨p0, 0, none⟩ = some (.slice (some ad) 3 (c + 3)) ∧ w'.cell? ⟨p2, 0, none⟩ = some (.slice KA 1 e) ∧ w'.cell? ⟨Bx, 0, none⟩ = some (.int .i64 1) ∧ w'.cell? ⟨ad.block, ad.off + 2, none⟩ = some (.slice A0 1 k0) ∧ w'.cell? ⟨ad.block, ad.off + 2 + 1, none⟩ = some (.slice a1.1 a1.2.1 a1.2.2))) (by kernel_rfl) (noDefer_of (by kernel_rfl)) (fun ⟨_, _, h⟩ => h) (by first | (refine ⟨(by repeat (first | (with_reducible refine cell_dr ?_) | (with_reducible refine cell_al ?_ _) | with_reducible exact c0 | with_reducible exact cell_later hc1 c0)), (by repeat (first | (with_reducible refine cell_dr ?_) | (with_reducible refine cell_al ?_ _) | with_reducible exact c2 | with_reducible exact cell_later hc1 c2)), (by repeat (first | (with_reducible refine cell_dr ?_) | (with_reducible refine cell_al ?_ _) | with_reducible exact z0 | with_reducible exact cell_later hc1 z0)), (by repeat (first | (with_reducible refine cell_dr ?_) | (with_reducible refine cell_al ?_ _) | with_reducible exact u0 | with_reducible exact cell_later hc1 u0)), (by repeat (first | (with_reducible refine cell_dr ?_) | (with_reducible refine cell_al ?_ _) | with_reducible exact u1 | with_reducible exact cell_later hc1 u1))⟩) | fail) (fun hHeld => ?_)
      refine wpAnyH_take (i := 0) (v := ?_) (by (simp only [List.getElem?_toArray, List.getElem?_cons_zero, List.getElem?_cons_succ]); rfl) (by kernel_rfl) (by kernel_rfl) (by kernel_rfl) (by exact fun _ _ _ h => h) (Or.inl ⟨by rfl, by (intro w hSw; (try dsimp only at hSw); go_simp; (try with_reducible rfl))⟩) (by assumption) ?_
      try simp only [Act.put, List.setIfInBounds_toArray, List.set_cons_zero, List.set_cons_succ]
      refine wpAnyH_take (i := 1) (v := ?_) (by (simp only [List.getElem?_toArray, List.getElem?_cons_zero, List.getElem?_cons_succ]); rfl) (by kernel_rfl) (by kernel_rfl) (by kernel_rfl) (by exact fun _ _ _ h => h) (Or.inl ⟨by rfl, by (intro w hSw; (try dsimp only at hSw); go_simp; (try with_reducible rfl))⟩) (by assumption) ?_
      try simp only [Act.put, List.setIfInBounds_toArray, List.set_cons_zero, List.set_cons_succ]
      refine wpAnyH_take (i := 2) (v := ?_) (by (simp only [List.getElem?_toArray, List.getElem?_cons_zero, List.getElem?_cons_succ]); rfl) (by kernel_rfl) (by kernel_rfl) (by kernel_rfl) (by exact fun _ _ _ h => h) (Or.inl ⟨by rfl, by (intro w hSw; (try dsimp only at hSw); go_simp; (try with_reducible rfl))⟩) (by assumption) ?_
      try simp only [Act.put, List.setIfInBounds_toArray, List.set_cons_zero, List.set_cons_succ]
      refine wpAnyH_take (i := 3) (v := ?_) (by (simp only [List.getElem?_toArray, List.getElem?_cons_zero, List.getElem?_cons_succ]); rfl) (by kernel_rfl) (by kernel_rfl) (by kernel_rfl) (by exact fun _ _ _ h => h) (Or.inl ⟨by rfl, by (intro w hSw; (try dsimp only at hSw); go_simp; (try with_reducible rfl))⟩) (by assumption) ?_
      try simp only [Act.put, List.setIfInBounds_toArray, List.set_cons_zero, List.set_cons_succ]
      refine wpAnyH_take (i := 4) (v := ?_) (by (simp only [List.getElem?_toArray, List.getElem?_cons_zero, List.getElem?_cons_succ]); rfl) (by kernel_rfl) (by kernel_rfl) (by kernel_rfl) (by exact fun _ _ _ h => h) (Or.inl ⟨by rfl, by (intro w hSw; (try dsimp only at hSw); go_simp; (try with_reducible rfl))⟩) (by assumption) ?_
      try simp only [Act.put, List.setIfInBounds_toArray, List.set_cons_zero, List.set_cons_succ]
      refine wpAnyH_take (i := 5) (v := ?_) (by (simp only [List.getElem?_toArray, List.getElem?_cons_zero, List.getElem?_cons_succ]); rfl) (by kernel_rfl) (by kernel_rfl) (by kernel_rfl) (by exact fun _ _ _ h => h) (Or.inl ⟨by rfl, by (intro w hSw; (try dsimp only at hSw); go_simp; (try with_reducible rfl))⟩) (by assumption) ?_
      try simp only [Act.put, List.setIfInBounds_toArray, List.set_cons_zero, List.set_cons_succ]
      refine wpAnyH_ready (rs := [6]) (by kernel_rfl) (by simp) ?_
      refine AllReadyH.cons (by (simp only [List.getElem?_toArray, List.getElem?_cons_zero, List.getElem?_cons_succ]); rfl) (fun K hK => ?_) AllReadyH.nil
      go_simp
      go_at_call 24; (with_reducible refine (key1_calls v2 a1 A0 KA k0 e _ (Kd.C_below HG.out.1 hba.out) (Kd.C_below HG.out.2 hba.out)).mono ?_); rintro e' w1 ⟨AK, ck, rfl, hk1, hb1⟩; have hc1 := below_then hba.out hba.out.size hb1
      refine hK.out _ _ (by first | (refine ⟨(by repeat (first | (with_reducible refine cell_dr ?_) | (with_reducible refine cell_al ?_ _) | with_reducible exact c0 | with_reducible exact cell_later hc1 c0)), (by repeat (first | (with_reducible refine cell_dr ?_) | (with_reducible refine cell_al ?_ _) | with_reducible exact c2 | with_reducible exact cell_later hc1 c2)), (by repeat (first | (with_reducible refine cell_dr ?_) | (with_reducible refine cell_al ?_ _) | with_reducible exact z0 | with_reducible exact cell_later hc1 z0)), (by repeat (first | (with_reducible refine cell_dr ?_) | (with_reducible refine cell_al ?_ _) | with_reducible exact u0 | with_reducible exact cell_later hc1 u0)), (by repeat (first | (with_reducible refine cell_dr ?_) | (with_reducible refine cell_al ?_ _) | with_reducible exact u1 | with_reducible exact cell_later hc1 u1))⟩) | fail) (fun hHeld2 => ?_)
      clear hK K hHeld
      have hHeld := hHeld2
      clear hHeld2
      try simp only [Act.put, List.setIfInBounds_toArray, List.set_cons_zero, List.set_cons_succ]
      refine wpAnyH_take (i := 7) (v := ?_) (by (simp only [List.getElem?_toArray, List.getElem?_cons_zero, List.getElem?_cons_succ]); rfl) (by kernel_rfl) (by kernel_rfl) (by kernel_rfl) (by exact fun _ _ _ h => h) (Or.inl ⟨by rfl, by (intro w hSw; (try dsimp only at hSw); go_simp; (try with_reducible rfl))⟩) (by assumption) ?_
      try simp only [Act.put, List.setIfInBounds_toArray, List.set_cons_zero, List.set_cons_succ]
      refine wpAnyH_done (by kernel_rfl) ?_ _
      have HC1 := Aside0.mk hc1
      have HK1 := Aside0.mk hk1
      have HB1 := Aside0.mk (below_then HJ.out.b HJ.out.b.size hc1)
      have HJ1 := Aside0.mk (HA.out.1.later HB1.out)
      have c1 := cell_later hc1 (box1 HJ.out.k1)
      have c3 := cell_later hc1 (box1 HJ.out.k3)
      have qa := cell_later hc1 (box1 HR.out.ha)
      clear c0 c2 z0 u0 u1 hc1 hk1 hb1 hba HG
      try clear hHeld
      gi_upto_region 9 with (first | (refine ⟨trivial, (fun h => by cases h), ?_⟩; gi_at_call 22; (with_reducible refine (((callsIn_wide (n := _)).2 (adv1_calls (rsR b0 b1 b2) rfl (keyed_rs b0 b1 b2) v2 2 (by decide) (by decide) HR.out.adv (some bd) KB AK (d + 3) f ck _ HJ1.out.r HJ1.out.kr (Kd.F_now HK1.out))).inRound l).mono ?_); rintro e' w2 ⟨rfl, hb2⟩; have HBq := Aside0.mk hb2; have qb := cell_later hb2 qa; have fz := blk_frozen (blk_below (blk_below HR.out.ha HC1.out) hb2) 0; clear hb2) | fail)
      have hord := HORD.out.2
      have hA3 := blk_set (blk_below (blk_below HR.out.ha HC1.out) HBq.out) 0 (.int .i64 2)
      have hK3 := ((KpO.of_below (gO := gO) (gA := gA) HC1.out).below HBq.out).set (.inr rfl) 0 (.int .i64 2)
      have hF3 : Kd.F k42 (w2.setCell ⟨gA, 0, none⟩ (.int .i64 2)) (fun k => W.heap.size ≤ k) AK 1 [v2] := Kd.F_step (Kd.F_below HK1.out HBq.out) (fun k hk _ => Below.heap_setCell w2 ⟨gA, 0, none⟩ _ k (show k ≠ gA by have := lt_of_heap HR.out.ha; omega))
      obtain ⟨W3, hW3⟩ : ∃ W3, w2.setCell ⟨gA, 0, none⟩ (.int .i64 2) = W3 := ⟨_, rfl⟩
      rw [hW3] at hA3 hK3 hF3 ⊢
      have HA3 := Aside0.mk hA3
      have HK3 := Aside0.mk hK3
      have HF3 := Aside0.mk hF3
      have hp00 := HORD.out.1
      have HB3 := Aside0.mk (hK3.far HJ.out.b HJ.out.b.size (by omega) (by omega))
      have go : ∀ {k : Nat} {o : Obj}, W.heap[k]? = some o → k ≠ gO → k ≠ gA → W3.heap[k]? = some o := fun hx n1 n2 => (hK3.block _ (lt_of_heap hx) n1 n2).trans hx
      have HP3 := Aside0.mk (And.intro (go HJ.out.k0 (by omega) (by omega)) (And.intro (go HJ.out.k1 (by omega) (by omega)) (And.intro (go HJ.out.k3 (by omega) (by omega)) (And.intro (go HJ.out.k4 (by omega) (by omega)) (go HBX.out.1 (by have := HBX.out.2.1; omega) (by have := HBX.out.2.1; omega))))))
      have HO3 := Aside0.mk (show W3.heap[gO]? = some (.cells #[.slice oA oN oC] 22 (0, 0)) by
        rw [← hW3]
        exact blk_far (p := ⟨gA, 0, none⟩) (blk_below (blk_below HR.out.ho HC1.out) HBq.out) (show gO ≠ gA by omega) (.int .i64 2))
      have q3 := box1 hA3
      clear hA3 hK3 hF3 hW3 go c1 c3 qa qb fz hord hp00
      gi_wp2
      clear q3
      gi_loopg [16] 1 (fun kq v16 wr => ∃ i : Int, v16 = .int .i64 i ∧ Aside0 (2 ≤ i ∧ i ≤ 2 ∧ kq = (3 - i).toNat) ∧ Aside0 (Below W3.heap.size W3 wr))
      case atStart => exact ⟨2, rfl, ⟨by decide, by decide, rfl⟩, ⟨Below.refl _ _⟩⟩
      case round =>
        obtain ⟨i, rfl, HI, HV⟩ := hrel
        obtain ⟨wo, rfl⟩ : ∃ wo : World, wo = wr := ⟨_, rfl⟩
        obtain ⟨i0, i1, i2⟩ := HI.out
        have h0i : 0 ≤ i := by omega
        have h3i : i < 3 := by omega
        obtain ⟨v, b, hrow, hcmp⟩ := HR.out.rows i i0 h3i
        have hJo := HA.out.1.later (below_then HB3.out HB3.out.size HV.out)
        obtain ⟨bd', B0, d0, e9, y0, y1, _, g0⟩ := at_R hJo.r i h0i h3i
        cases e9
        rw [hrow] at y0 y1 g0
        dsimp only at y0 y1 g0
        have HG := Aside0.mk (And.intro (show Kd.C k42 wo B0 1 [v] from g0) hJo.kr)
        change wo.cell? (bd.add (i.toNat * 2)) = some (.slice B0 1 d0) at y0
        have hb3 : decide (i < (3 : Int)) = true := decide_eq_true h3i
        have c1 := cell_later HV.out (box1 HP3.out.2.1)
        have c3 := cell_later HV.out (box1 HP3.out.2.2.1)
        have hba := Aside0.mk (below_drew (Below.refl wo.heap.size wo))
        have HF4 := Aside0.mk (Kd.F_now (Kd.F_below HF3.out HV.out))
        clear g0 hJo hrow i2
        have hIs := Aside0.mk (And.intro i0 (And.intro i1 (And.intro h0i h3i)))
        replace h0i := eq_true h0i
        replace h3i := eq_true h3i
        by_cases hi : i < 2
        · have hz : decide (cmpR [v] [v2] = 0) = true := hcmp.trans (decide_eq_true hi)
          have hz0 : cmpR [v] [v2] = 0 := of_decide_eq_true hz
          have hz1 : (cmpR [v] [v2] == 0) = true := beq_iff_eq.2 hz0
          clear hcmp i0 i1
          gi_wp2
          refine wpIn_region_held_drew (S := (fun w' => w'.cell? ⟨p1, 0, none⟩ = some (.slice (some bd) 3 (d + 3)) ∧ w'.cell? ⟨p3, 0, none⟩ = some (.slice KB 1 f) ∧ w'.cell? (bd.add (i.toNat * 2)) = some (.slice B0 1 d0) ∧ w'.cell? ⟨(bd.add (i.toNat * 2)).block, (bd.add (i.toNat * 2)).off + 1, none⟩ = some (.slice b.1 b.2.1 b.2.2))) (by kernel_rfl) (noDefer_of (by kernel_rfl)) (fun ⟨_, _, h⟩ => h) (by first | (refine ⟨(by repeat (first | (with_reducible refine cell_dr ?_) | (with_reducible refine cell_al ?_ _) | with_reducible exact c1 | with_reducible exact cell_later hd1 c1 | with_reducible exact cell_later hd2 c1)), (by repeat (first | (with_reducible refine cell_dr ?_) | (with_reducible refine cell_al ?_ _) | with_reducible exact c3 | with_reducible exact cell_later hd1 c3 | with_reducible exact cell_later hd2 c3)), (by repeat (first | (with_reducible refine cell_dr ?_) | (with_reducible refine cell_al ?_ _) | with_reducible exact y0 | with_reducible exact cell_later hd1 y0 | with_reducible exact cell_later hd2 y0)), (by repeat (first | (with_reducible refine cell_dr ?_) | (with_reducible refine cell_al ?_ _) | with_reducible exact y1 | with_reducible exact cell_later hd1 y1 | with_reducible exact cell_later hd2 y1))⟩) | fail) (fun hHeld => ?_)
          refine wpAnyH_take (i := 0) (v := ?_) (by (simp only [List.getElem?_toArray, List.getElem?_cons_zero, List.getElem?_cons_succ]); rfl) (by kernel_rfl) (by kernel_rfl) (by kernel_rfl) (by exact fun _ _ _ h => h) (Or.inl ⟨by rfl, by (intro w hSw; (try dsimp only at hSw); go_simp; (try with_reducible rfl))⟩) (by assumption) ?_
          try simp only [Act.put, List.setIfInBounds_toArray, List.set_cons_zero, List.set_cons_succ]
          refine wpAnyH_take (i := 1) (v := ?_) (by (simp only [List.getElem?_toArray, List.getElem?_cons_zero, List.getElem?_cons_succ]); rfl) (by kernel_rfl) (by kernel_rfl) (by kernel_rfl) (by exact fun _ _ _ h => h) (Or.inl ⟨by rfl, by (intro w hSw; (try dsimp only at hSw); go_simp; (try with_reducible rfl))⟩) (by assumption) ?_
          try simp only [Act.put, List.setIfInBounds_toArray, List.set_cons_zero, List.set_cons_succ]
          refine wpAnyH_take (i := 2) (v := ?_) (by (simp only [List.getElem?_toArray, List.getElem?_cons_zero, List.getElem?_cons_succ]); rfl) (by kernel_rfl) (by kernel_rfl) (by kernel_rfl) (by exact fun _ _ _ h => h) (Or.inl ⟨by rfl, by (intro w hSw; (try dsimp only at hSw); go_simp; (try with_reducible rfl))⟩) (by assumption) ?_
          try simp only [Act.put, List.setIfInBounds_toArray, List.set_cons_zero, List.set_cons_succ]
          refine wpAnyH_take (i := 3) (v := ?_) (by (simp only [List.getElem?_toArray, List.getElem?_cons_zero, List.getElem?_cons_succ]); rfl) (by kernel_rfl) (by kernel_rfl) (by kernel_rfl) (by exact fun _ _ _ h => h) (Or.inl ⟨by rfl, by (intro w hSw; (try dsimp only at hSw); go_simp; (try with_reducible rfl))⟩) (by assumption) ?_
          try simp only [Act.put, List.setIfInBounds_toArray, List.set_cons_zero, List.set_cons_succ]
          refine wpAnyH_take (i := 4) (v := ?_) (by (simp only [List.getElem?_toArray, List.getElem?_cons_zero, List.getElem?_cons_succ]); rfl) (by kernel_rfl) (by kernel_rfl) (by kernel_rfl) (by exact fun _ _ _ h => h) (Or.inl ⟨by rfl, by (intro w hSw; (try dsimp only at hSw); go_simp; (try with_reducible rfl))⟩) (by assumption) ?_
          try simp only [Act.put, List.setIfInBounds_toArray, List.set_cons_zero, List.set_cons_succ]
          refine wpAnyH_take (i := 5) (v := ?_) (by (simp only [List.getElem?_toArray, List.getElem?_cons_zero, List.getElem?_cons_succ]); rfl) (by kernel_rfl) (by kernel_rfl) (by kernel_rfl) (by exact fun _ _ _ h => h) (Or.inl ⟨by rfl, by (intro w hSw; (try dsimp only at hSw); go_simp; (try with_reducible rfl))⟩) (by assumption) ?_
          try simp only [Act.put, List.setIfInBounds_toArray, List.set_cons_zero, List.set_cons_succ]
          refine wpAnyH_take (i := 6) (v := ?_) (by (simp only [List.getElem?_toArray, List.getElem?_cons_zero, List.getElem?_cons_succ]); rfl) (by kernel_rfl) (by kernel_rfl) (by kernel_rfl) (by exact fun _ _ _ h => h) (Or.inl ⟨by rfl, by (intro w hSw; (try dsimp only at hSw); go_simp; (try with_reducible rfl))⟩) (by assumption) ?_
          try simp only [Act.put, List.setIfInBounds_toArray, List.set_cons_zero, List.set_cons_succ]
          refine wpAnyH_take (i := 7) (v := ?_) (by (simp only [List.getElem?_toArray, List.getElem?_cons_zero, List.getElem?_cons_succ]); rfl) (by kernel_rfl) (by kernel_rfl) (by kernel_rfl) (by exact fun _ _ _ h => h) (Or.inl ⟨by rfl, by (intro w hSw; (try dsimp only at hSw); go_simp; (try with_reducible rfl))⟩) (by assumption) ?_
          try simp only [Act.put, List.setIfInBounds_toArray, List.set_cons_zero, List.set_cons_succ]
          refine wpAnyH_take (i := 8) (v := ?_) (by (simp only [List.getElem?_toArray, List.getElem?_cons_zero, List.getElem?_cons_succ]); rfl) (by kernel_rfl) (by kernel_rfl) (by kernel_rfl) (by exact fun _ _ _ h => h) (Or.inl ⟨by rfl, by (intro w hSw; (try dsimp only at hSw); go_simp; (try with_reducible rfl))⟩) (by assumption) ?_
          try simp only [Act.put, List.setIfInBounds_toArray, List.set_cons_zero, List.set_cons_succ]
          refine wpAnyH_take (i := 9) (v := ?_) (by (simp only [List.getElem?_toArray, List.getElem?_cons_zero, List.getElem?_cons_succ]); rfl) (by kernel_rfl) (by kernel_rfl) (by kernel_rfl) (by exact fun _ _ _ h => h) (Or.inl ⟨by rfl, by (intro w hSw; (try dsimp only at hSw); go_simp; (try with_reducible rfl))⟩) (by assumption) ?_
          try simp only [Act.put, List.setIfInBounds_toArray, List.set_cons_zero, List.set_cons_succ]
          refine wpAnyH_take (i := 11) (v := ?_) (by (simp only [List.getElem?_toArray, List.getElem?_cons_zero, List.getElem?_cons_succ]); rfl) (by kernel_rfl) (by kernel_rfl) (by kernel_rfl) (by exact fun _ _ _ h => h) (Or.inl ⟨by rfl, by (intro w hSw; (try dsimp only at hSw); go_simp; (try with_reducible rfl))⟩) (by assumption) ?_
          try simp only [Act.put, List.setIfInBounds_toArray, List.set_cons_zero, List.set_cons_succ]
          refine wpAnyH_ready (rs := [10]) (by kernel_rfl) (by simp) ?_
          refine AllReadyH.cons (by (simp only [List.getElem?_toArray, List.getElem?_cons_zero, List.getElem?_cons_succ]); rfl) (fun K hK => ?_) AllReadyH.nil
          go_simp
          go_at_call 24; (with_reducible refine (key1_calls v b B0 KB d0 f _ (Kd.C_below HG.out.1 hba.out) (Kd.C_below HG.out.2 hba.out)).mono ?_); rintro e' w4 ⟨A4, k4, rfl, hk4, hb4⟩; have hd1 := below_then hba.out hba.out.size hb4
          refine hK.out _ _ (by first | (refine ⟨(by repeat (first | (with_reducible refine cell_dr ?_) | (with_reducible refine cell_al ?_ _) | with_reducible exact c1 | with_reducible exact cell_later hd1 c1 | with_reducible exact cell_later hd2 c1)), (by repeat (first | (with_reducible refine cell_dr ?_) | (with_reducible refine cell_al ?_ _) | with_reducible exact c3 | with_reducible exact cell_later hd1 c3 | with_reducible exact cell_later hd2 c3)), (by repeat (first | (with_reducible refine cell_dr ?_) | (with_reducible refine cell_al ?_ _) | with_reducible exact y0 | with_reducible exact cell_later hd1 y0 | with_reducible exact cell_later hd2 y0)), (by repeat (first | (with_reducible refine cell_dr ?_) | (with_reducible refine cell_al ?_ _) | with_reducible exact y1 | with_reducible exact cell_later hd1 y1 | with_reducible exact cell_later hd2 y1))⟩) | fail) (fun hHeld2 => ?_)
          clear hK K hHeld
          have hHeld := hHeld2
          clear hHeld2
          try simp only [Act.put, List.setIfInBounds_toArray, List.set_cons_zero, List.set_cons_succ]
          refine wpAnyH_ready (rs := [12]) (by kernel_rfl) (by simp) ?_
          refine AllReadyH.cons (by (simp only [List.getElem?_toArray, List.getElem?_cons_zero, List.getElem?_cons_succ]); rfl) (fun K hK => ?_) AllReadyH.nil
          go_simp
          go_at_call 9; (with_reducible refine (cmp1_calls v v2 A4 AK k4 ck _ (Kd.F_now hk4) (Kd.C_below HF4.out hd1)).mono ?_); rintro e' w5 ⟨rfl, hb5⟩; have hd2 := below_then hd1 hd1.size hb5
          refine hK.out _ _ (by first | (refine ⟨(by repeat (first | (with_reducible refine cell_dr ?_) | (with_reducible refine cell_al ?_ _) | with_reducible exact c1 | with_reducible exact cell_later hd1 c1 | with_reducible exact cell_later hd2 c1)), (by repeat (first | (with_reducible refine cell_dr ?_) | (with_reducible refine cell_al ?_ _) | with_reducible exact c3 | with_reducible exact cell_later hd1 c3 | with_reducible exact cell_later hd2 c3)), (by repeat (first | (with_reducible refine cell_dr ?_) | (with_reducible refine cell_al ?_ _) | with_reducible exact y0 | with_reducible exact cell_later hd1 y0 | with_reducible exact cell_later hd2 y0)), (by repeat (first | (with_reducible refine cell_dr ?_) | (with_reducible refine cell_al ?_ _) | with_reducible exact y1 | with_reducible exact cell_later hd1 y1 | with_reducible exact cell_later hd2 y1))⟩) | fail) (fun hHeld2 => ?_)
          clear hK K hHeld
          have hHeld := hHeld2
          clear hHeld2
          try simp only [Act.put, List.setIfInBounds_toArray, List.set_cons_zero, List.set_cons_succ]
          refine wpAnyH_take (i := 13) (v := ?_) (by (simp only [List.getElem?_toArray, List.getElem?_cons_zero, List.getElem?_cons_succ]); rfl) (by kernel_rfl) (by kernel_rfl) (by kernel_rfl) (by exact fun _ _ _ h => h) (Or.inl ⟨by rfl, by (intro w hSw; (try dsimp only at hSw); go_simp; (try with_reducible rfl))⟩) (by assumption) ?_
          try simp only [Act.put, List.setIfInBounds_toArray, List.set_cons_zero, List.set_cons_succ]
          refine wpAnyH_take (i := 14) (v := ?_) (by (simp only [List.getElem?_toArray, List.getElem?_cons_zero, List.getElem?_cons_succ]); rfl) (by kernel_rfl) (by kernel_rfl) (by kernel_rfl) (by exact fun _ _ _ h => h) (Or.inl ⟨by rfl, by (intro w hSw; (try dsimp only at hSw); go_simp; (try with_reducible rfl))⟩) (by assumption) ?_
          try simp only [Act.put, List.setIfInBounds_toArray, List.set_cons_zero, List.set_cons_succ]
          refine wpAnyH_done (by kernel_rfl) ?_ _
          have HV5 := Aside0.mk (below_then HV.out HV.out.size hd2)
          clear c1 c3 y0 y1 hd1 hd2 hb4 hb5 hk4 hba
          try clear hHeld
          have hw : wrap64 (i + 1) = i + 1 := IntWalk.wrap64_in _ (by have := hIs.out.2.2; omega)
          gi_wp2
          gi_roundg (3 - (i + 1)).toNat
          case measure => have := HI.out.2.2; have := hIs.out.2.2; omega
          case rel => exact ⟨i + 1, congrArg (Value.int .i64) hw, ⟨by have := hIs.out; omega, by omega, rfl⟩, HV5⟩
        · have hz : decide (cmpR [v] [v2] = 0) = false := hcmp.trans (decide_eq_false hi)
          have hz0 : ¬ (cmpR [v] [v2] = 0) := of_decide_eq_false hz
          have hz1 : (cmpR [v] [v2] == 0) = false := beq_eq_false_iff_ne.2 hz0
          have hie : i = 2 := by omega
          have HIE := Aside0.mk hie
          clear hcmp i0 i1 hie
          gi_wp2
          refine wpIn_region_held_drew (S := (fun w' => w'.cell? ⟨p1, 0, none⟩ = some (.slice (some bd) 3 (d + 3)) ∧ w'.cell? ⟨p3, 0, none⟩ = some (.slice KB 1 f) ∧ w'.cell? (bd.add (i.toNat * 2)) = some (.slice B0 1 d0) ∧ w'.cell? ⟨(bd.add (i.toNat * 2)).block, (bd.add (i.toNat * 2)).off + 1, none⟩ = some (.slice b.1 b.2.1 b.2.2))) (by kernel_rfl) (noDefer_of (by kernel_rfl)) (fun ⟨_, _, h⟩ => h) (by first | (refine ⟨(by repeat (first | (with_reducible refine cell_dr ?_) | (with_reducible refine cell_al ?_ _) | with_reducible exact c1 | with_reducible exact cell_later hd1 c1 | with_reducible exact cell_later hd2 c1)), (by repeat (first | (with_reducible refine cell_dr ?_) | (with_reducible refine cell_al ?_ _) | with_reducible exact c3 | with_reducible exact cell_later hd1 c3 | with_reducible exact cell_later hd2 c3)), (by repeat (first | (with_reducible refine cell_dr ?_) | (with_reducible refine cell_al ?_ _) | with_reducible exact y0 | with_reducible exact cell_later hd1 y0 | with_reducible exact cell_later hd2 y0)), (by repeat (first | (with_reducible refine cell_dr ?_) | (with_reducible refine cell_al ?_ _) | with_reducible exact y1 | with_reducible exact cell_later hd1 y1 | with_reducible exact cell_later hd2 y1))⟩) | fail) (fun hHeld => ?_)
          refine wpAnyH_take (i := 0) (v := ?_) (by (simp only [List.getElem?_toArray, List.getElem?_cons_zero, List.getElem?_cons_succ]); rfl) (by kernel_rfl) (by kernel_rfl) (by kernel_rfl) (by exact fun _ _ _ h => h) (Or.inl ⟨by rfl, by (intro w hSw; (try dsimp only at hSw); go_simp; (try with_reducible rfl))⟩) (by assumption) ?_
          try simp only [Act.put, List.setIfInBounds_toArray, List.set_cons_zero, List.set_cons_succ]
          refine wpAnyH_take (i := 1) (v := ?_) (by (simp only [List.getElem?_toArray, List.getElem?_cons_zero, List.getElem?_cons_succ]); rfl) (by kernel_rfl) (by kernel_rfl) (by kernel_rfl) (by exact fun _ _ _ h => h) (Or.inl ⟨by rfl, by (intro w hSw; (try dsimp only at hSw); go_simp; (try with_reducible rfl))⟩) (by assumption) ?_
          try simp only [Act.put, List.setIfInBounds_toArray, List.set_cons_zero, List.set_cons_succ]
          refine wpAnyH_take (i := 2) (v := ?_) (by (simp only [List.getElem?_toArray, List.getElem?_cons_zero, List.getElem?_cons_succ]); rfl) (by kernel_rfl) (by kernel_rfl) (by kernel_rfl) (by exact fun _ _ _ h => h) (Or.inl ⟨by rfl, by (intro w hSw; (try dsimp only at hSw); go_simp; (try with_reducible rfl))⟩) (by assumption) ?_
          try simp only [Act.put, List.setIfInBounds_toArray, List.set_cons_zero, List.set_cons_succ]
          refine wpAnyH_take (i := 3) (v := ?_) (by (simp only [List.getElem?_toArray, List.getElem?_cons_zero, List.getElem?_cons_succ]); rfl) (by kernel_rfl) (by kernel_rfl) (by kernel_rfl) (by exact fun _ _ _ h => h) (Or.inl ⟨by rfl, by (intro w hSw; (try dsimp only at hSw); go_simp; (try with_reducible rfl))⟩) (by assumption) ?_
          try simp only [Act.put, List.setIfInBounds_toArray, List.set_cons_zero, List.set_cons_succ]
          refine wpAnyH_take (i := 4) (v := ?_) (by (simp only [List.getElem?_toArray, List.getElem?_cons_zero, List.getElem?_cons_succ]); rfl) (by kernel_rfl) (by kernel_rfl) (by kernel_rfl) (by exact fun _ _ _ h => h) (Or.inl ⟨by rfl, by (intro w hSw; (try dsimp only at hSw); go_simp; (try with_reducible rfl))⟩) (by assumption) ?_
          try simp only [Act.put, List.setIfInBounds_toArray, List.set_cons_zero, List.set_cons_succ]
          refine wpAnyH_take (i := 5) (v := ?_) (by (simp only [List.getElem?_toArray, List.getElem?_cons_zero, List.getElem?_cons_succ]); rfl) (by kernel_rfl) (by kernel_rfl) (by kernel_rfl) (by exact fun _ _ _ h => h) (Or.inl ⟨by rfl, by (intro w hSw; (try dsimp only at hSw); go_simp; (try with_reducible rfl))⟩) (by assumption) ?_
          try simp only [Act.put, List.setIfInBounds_toArray, List.set_cons_zero, List.set_cons_succ]
          refine wpAnyH_take (i := 6) (v := ?_) (by (simp only [List.getElem?_toArray, List.getElem?_cons_zero, List.getElem?_cons_succ]); rfl) (by kernel_rfl) (by kernel_rfl) (by kernel_rfl) (by exact fun _ _ _ h => h) (Or.inl ⟨by rfl, by (intro w hSw; (try dsimp only at hSw); go_simp; (try with_reducible rfl))⟩) (by assumption) ?_
          try simp only [Act.put, List.setIfInBounds_toArray, List.set_cons_zero, List.set_cons_succ]
          refine wpAnyH_take (i := 7) (v := ?_) (by (simp only [List.getElem?_toArray, List.getElem?_cons_zero, List.getElem?_cons_succ]); rfl) (by kernel_rfl) (by kernel_rfl) (by kernel_rfl) (by exact fun _ _ _ h => h) (Or.inl ⟨by rfl, by (intro w hSw; (try dsimp only at hSw); go_simp; (try with_reducible rfl))⟩) (by assumption) ?_
          try simp only [Act.put, List.setIfInBounds_toArray, List.set_cons_zero, List.set_cons_succ]
          refine wpAnyH_take (i := 8) (v := ?_) (by (simp only [List.getElem?_toArray, List.getElem?_cons_zero, List.getElem?_cons_succ]); rfl) (by kernel_rfl) (by kernel_rfl) (by kernel_rfl) (by exact fun _ _ _ h => h) (Or.inl ⟨by rfl, by (intro w hSw; (try dsimp only at hSw); go_simp; (try with_reducible rfl))⟩) (by assumption) ?_
          try simp only [Act.put, List.setIfInBounds_toArray, List.set_cons_zero, List.set_cons_succ]
          refine wpAnyH_take (i := 9) (v := ?_) (by (simp only [List.getElem?_toArray, List.getElem?_cons_zero, List.getElem?_cons_succ]); rfl) (by kernel_rfl) (by kernel_rfl) (by kernel_rfl) (by exact fun _ _ _ h => h) (Or.inl ⟨by rfl, by (intro w hSw; (try dsimp only at hSw); go_simp; (try with_reducible rfl))⟩) (by assumption) ?_
          try simp only [Act.put, List.setIfInBounds_toArray, List.set_cons_zero, List.set_cons_succ]
          refine wpAnyH_take (i := 11) (v := ?_) (by (simp only [List.getElem?_toArray, List.getElem?_cons_zero, List.getElem?_cons_succ]); rfl) (by kernel_rfl) (by kernel_rfl) (by kernel_rfl) (by exact fun _ _ _ h => h) (Or.inl ⟨by rfl, by (intro w hSw; (try dsimp only at hSw); go_simp; (try with_reducible rfl))⟩) (by assumption) ?_
          try simp only [Act.put, List.setIfInBounds_toArray, List.set_cons_zero, List.set_cons_succ]
          refine wpAnyH_ready (rs := [10]) (by kernel_rfl) (by simp) ?_
          refine AllReadyH.cons (by (simp only [List.getElem?_toArray, List.getElem?_cons_zero, List.getElem?_cons_succ]); rfl) (fun K hK => ?_) AllReadyH.nil
          go_simp
          go_at_call 24; (with_reducible refine (key1_calls v b B0 KB d0 f _ (Kd.C_below HG.out.1 hba.out) (Kd.C_below HG.out.2 hba.out)).mono ?_); rintro e' w4 ⟨A4, k4, rfl, hk4, hb4⟩; have hd1 := below_then hba.out hba.out.size hb4
          refine hK.out _ _ (by first | (refine ⟨(by repeat (first | (with_reducible refine cell_dr ?_) | (with_reducible refine cell_al ?_ _) | with_reducible exact c1 | with_reducible exact cell_later hd1 c1 | with_reducible exact cell_later hd2 c1)), (by repeat (first | (with_reducible refine cell_dr ?_) | (with_reducible refine cell_al ?_ _) | with_reducible exact c3 | with_reducible exact cell_later hd1 c3 | with_reducible exact cell_later hd2 c3)), (by repeat (first | (with_reducible refine cell_dr ?_) | (with_reducible refine cell_al ?_ _) | with_reducible exact y0 | with_reducible exact cell_later hd1 y0 | with_reducible exact cell_later hd2 y0)), (by repeat (first | (with_reducible refine cell_dr ?_) | (with_reducible refine cell_al ?_ _) | with_reducible exact y1 | with_reducible exact cell_later hd1 y1 | with_reducible exact cell_later hd2 y1))⟩) | fail) (fun hHeld2 => ?_)
          clear hK K hHeld
          have hHeld := hHeld2
          clear hHeld2
          try simp only [Act.put, List.setIfInBounds_toArray, List.set_cons_zero, List.set_cons_succ]
          refine wpAnyH_ready (rs := [12]) (by kernel_rfl) (by simp) ?_
          refine AllReadyH.cons (by (simp only [List.getElem?_toArray, List.getElem?_cons_zero, List.getElem?_cons_succ]); rfl) (fun K hK => ?_) AllReadyH.nil
          go_simp
          go_at_call 9; (with_reducible refine (cmp1_calls v v2 A4 AK k4 ck _ (Kd.F_now hk4) (Kd.C_below HF4.out hd1)).mono ?_); rintro e' w5 ⟨rfl, hb5⟩; have hd2 := below_then hd1 hd1.size hb5
          refine hK.out _ _ (by first | (refine ⟨(by repeat (first | (with_reducible refine cell_dr ?_) | (with_reducible refine cell_al ?_ _) | with_reducible exact c1 | with_reducible exact cell_later hd1 c1 | with_reducible exact cell_later hd2 c1)), (by repeat (first | (with_reducible refine cell_dr ?_) | (with_reducible refine cell_al ?_ _) | with_reducible exact c3 | with_reducible exact cell_later hd1 c3 | with_reducible exact cell_later hd2 c3)), (by repeat (first | (with_reducible refine cell_dr ?_) | (with_reducible refine cell_al ?_ _) | with_reducible exact y0 | with_reducible exact cell_later hd1 y0 | with_reducible exact cell_later hd2 y0)), (by repeat (first | (with_reducible refine cell_dr ?_) | (with_reducible refine cell_al ?_ _) | with_reducible exact y1 | with_reducible exact cell_later hd1 y1 | with_reducible exact cell_later hd2 y1))⟩) | fail) (fun hHeld2 => ?_)
          clear hK K hHeld
          have hHeld := hHeld2
          clear hHeld2
          try simp only [Act.put, List.setIfInBounds_toArray, List.set_cons_zero, List.set_cons_succ]
          refine wpAnyH_take (i := 13) (v := ?_) (by (simp only [List.getElem?_toArray, List.getElem?_cons_zero, List.getElem?_cons_succ]); rfl) (by kernel_rfl) (by kernel_rfl) (by kernel_rfl) (by exact fun _ _ _ h => h) (Or.inl ⟨by rfl, by (intro w hSw; (try dsimp only at hSw); go_simp; (try with_reducible rfl))⟩) (by assumption) ?_
          try simp only [Act.put, List.setIfInBounds_toArray, List.set_cons_zero, List.set_cons_succ]
          refine wpAnyH_take (i := 14) (v := ?_) (by (simp only [List.getElem?_toArray, List.getElem?_cons_zero, List.getElem?_cons_succ]); rfl) (by kernel_rfl) (by kernel_rfl) (by kernel_rfl) (by exact fun _ _ _ h => h) (Or.inl ⟨by rfl, by (intro w hSw; (try dsimp only at hSw); go_simp; (try with_reducible rfl))⟩) (by assumption) ?_
          try simp only [Act.put, List.setIfInBounds_toArray, List.set_cons_zero, List.set_cons_succ]
          refine wpAnyH_done (by kernel_rfl) ?_ _
          obtain rfl := HIE.out
          have HV5 := Aside0.mk (below_then HV.out HV.out.size hd2)
          clear c1 c3 y0 y1 hd1 hd2 hb4 hb5 hk4 hba hz hz0 hz1
          try clear hHeld
          gi_upto_region 12 with (fail)
          have o0 := cell_later HV5.out (box1 HO3.out)
          have ca := cell_later HV5.out (box1 HA3.out)
          have c0 := cell_later HV5.out (box1 HP3.out.1)
          have c1 := cell_later HV5.out (box1 HP3.out.2.1)
          obtain ⟨q0, q1, q2, q3, q4, q5, q6⟩ := box7 (blk_below HP3.out.2.2.2.1 HV5.out)
          obtain ⟨z0, z1⟩ := box2 (blk_below HP3.out.2.2.2.2 HV5.out)
          have HBD := Aside0.mk (below_drew (below_then HB3.out HB3.out.size HV5.out))
          have hba := Aside0.mk (below_drew (Below.refl w5.heap.size w5))
          have hs1 : (3 : Int) ≤ (c : Int) + 3 := by omega
          have hs2 : (2 : Int) ≤ (d : Int) + 3 := by omega
          refine wpIn_region_held_drew (S := (fun w' => w'.cell? ⟨gO, 0, none⟩ = some (.slice oA oN oC) ∧ w'.cell? ⟨p0, 0, none⟩ = some (.slice (some ad) 3 (c + 3)) ∧ w'.cell? ⟨Bx, 0, none⟩ = some (.int .i64 1) ∧ w'.cell? ⟨Bx, 1, none⟩ = some (.int .i64 3) ∧ w'.cell? ⟨p1, 0, none⟩ = some (.slice (some bd) 3 (d + 3)) ∧ w'.cell? ⟨gA, 0, none⟩ = some (.int .i64 2) ∧ w'.cell? ⟨p4, 0, none⟩ = some (.int .i64 0) ∧ w'.cell? ⟨p4, 1, none⟩ = some (.int .i64 0) ∧ w'.cell? ⟨p4, 2, none⟩ = some (.int .i64 2) ∧ w'.cell? ⟨p4, 3, none⟩ = some (.int .i64 1) ∧ w'.cell? ⟨p4, 4, none⟩ = some (.string ⟨#[]⟩) ∧ w'.cell? ⟨p4, 5, none⟩ = some (.int .i64 0) ∧ w'.cell? ⟨p4, 6, none⟩ = some (.slice none 0 0))) (by kernel_rfl) (noDefer_of (by kernel_rfl)) (fun ⟨_, _, h⟩ => h) (by first | (refine ⟨(by repeat (first | (with_reducible refine cell_dr ?_) | (with_reducible refine cell_al ?_ _) | with_reducible exact o0 | with_reducible exact cell_later hd3 o0)), (by repeat (first | (with_reducible refine cell_dr ?_) | (with_reducible refine cell_al ?_ _) | with_reducible exact c0 | with_reducible exact cell_later hd3 c0)), (by repeat (first | (with_reducible refine cell_dr ?_) | (with_reducible refine cell_al ?_ _) | with_reducible exact z0 | with_reducible exact cell_later hd3 z0)), (by repeat (first | (with_reducible refine cell_dr ?_) | (with_reducible refine cell_al ?_ _) | with_reducible exact z1 | with_reducible exact cell_later hd3 z1)), (by repeat (first | (with_reducible refine cell_dr ?_) | (with_reducible refine cell_al ?_ _) | with_reducible exact c1 | with_reducible exact cell_later hd3 c1)), (by repeat (first | (with_reducible refine cell_dr ?_) | (with_reducible refine cell_al ?_ _) | with_reducible exact ca | with_reducible exact cell_later hd3 ca)), (by repeat (first | (with_reducible refine cell_dr ?_) | (with_reducible refine cell_al ?_ _) | with_reducible exact q0 | with_reducible exact cell_later hd3 q0)), (by repeat (first | (with_reducible refine cell_dr ?_) | (with_reducible refine cell_al ?_ _) | with_reducible exact q1 | with_reducible exact cell_later hd3 q1)), (by repeat (first | (with_reducible refine cell_dr ?_) | (with_reducible refine cell_al ?_ _) | with_reducible exact q2 | with_reducible exact cell_later hd3 q2)), (by repeat (first | (with_reducible refine cell_dr ?_) | (with_reducible refine cell_al ?_ _) | with_reducible exact q3 | with_reducible exact cell_later hd3 q3)), (by repeat (first | (with_reducible refine cell_dr ?_) | (with_reducible refine cell_al ?_ _) | with_reducible exact q4 | with_reducible exact cell_later hd3 q4)), (by repeat (first | (with_reducible refine cell_dr ?_) | (with_reducible refine cell_al ?_ _) | with_reducible exact q5 | with_reducible exact cell_later hd3 q5)), (by repeat (first | (with_reducible refine cell_dr ?_) | (with_reducible refine cell_al ?_ _) | with_reducible exact q6 | with_reducible exact cell_later hd3 q6))⟩) | fail) (fun hHeld => ?_)
          refine wpAnyH_take (i := 0) (v := ?_) (by (simp only [List.getElem?_toArray, List.getElem?_cons_zero, List.getElem?_cons_succ]); rfl) (by kernel_rfl) (by kernel_rfl) (by kernel_rfl) (by exact fun _ _ _ h => h) (Or.inl ⟨by rfl, by (intro w hSw; (try dsimp only at hSw); go_simp; (try with_reducible rfl))⟩) (by assumption) ?_
          try simp only [Act.put, List.setIfInBounds_toArray, List.set_cons_zero, List.set_cons_succ]
          refine wpAnyH_take (i := 1) (v := ?_) (by (simp only [List.getElem?_toArray, List.getElem?_cons_zero, List.getElem?_cons_succ]); rfl) (by kernel_rfl) (by kernel_rfl) (by kernel_rfl) (by exact fun _ _ _ h => h) (Or.inl ⟨by rfl, by (intro w hSw; (try dsimp only at hSw); go_simp; (try with_reducible rfl))⟩) (by assumption) ?_
          try simp only [Act.put, List.setIfInBounds_toArray, List.set_cons_zero, List.set_cons_succ]
          refine wpAnyH_take (i := 2) (v := ?_) (by (simp only [List.getElem?_toArray, List.getElem?_cons_zero, List.getElem?_cons_succ]); rfl) (by kernel_rfl) (by kernel_rfl) (by kernel_rfl) (by exact fun _ _ _ h => h) (Or.inl ⟨by rfl, by (intro w hSw; (try dsimp only at hSw); go_simp; (try with_reducible rfl))⟩) (by assumption) ?_
          try simp only [Act.put, List.setIfInBounds_toArray, List.set_cons_zero, List.set_cons_succ]
          refine wpAnyH_take (i := 3) (v := ?_) (by (simp only [List.getElem?_toArray, List.getElem?_cons_zero, List.getElem?_cons_succ]); rfl) (by kernel_rfl) (by kernel_rfl) (by kernel_rfl) (by exact fun _ _ _ h => h) (Or.inl ⟨by rfl, by (intro w hSw; (try dsimp only at hSw); go_simp; (try with_reducible rfl))⟩) (by assumption) ?_
          try simp only [Act.put, List.setIfInBounds_toArray, List.set_cons_zero, List.set_cons_succ]
          refine wpAnyH_take (i := 4) (v := ?_) (by (simp only [List.getElem?_toArray, List.getElem?_cons_zero, List.getElem?_cons_succ]); rfl) (by kernel_rfl) (by kernel_rfl) (by kernel_rfl) (by exact fun _ _ _ h => h) (Or.inl ⟨by rfl, by (intro w hSw; (try dsimp only at hSw); go_simp; (try with_reducible rfl))⟩) (by assumption) ?_
          try simp only [Act.put, List.setIfInBounds_toArray, List.set_cons_zero, List.set_cons_succ]
          refine wpAnyH_take (i := 5) (v := ?_) (by (simp only [List.getElem?_toArray, List.getElem?_cons_zero, List.getElem?_cons_succ]); rfl) (by kernel_rfl) (by kernel_rfl) (by kernel_rfl) (by exact fun _ _ _ h => h) (Or.inl ⟨by rfl, by (intro w hSw; (try dsimp only at hSw); go_simp; (try with_reducible rfl))⟩) (by assumption) ?_
          try simp only [Act.put, List.setIfInBounds_toArray, List.set_cons_zero, List.set_cons_succ]
          refine wpAnyH_take (i := 6) (v := ?_) (by (simp only [List.getElem?_toArray, List.getElem?_cons_zero, List.getElem?_cons_succ]); rfl) (by kernel_rfl) (by kernel_rfl) (by kernel_rfl) (by exact fun _ _ _ h => h) (Or.inl ⟨by rfl, by (intro w hSw; (try dsimp only at hSw); go_simp; (try with_reducible rfl))⟩) (by assumption) ?_
          try simp only [Act.put, List.setIfInBounds_toArray, List.set_cons_zero, List.set_cons_succ]
          refine wpAnyH_take (i := 7) (v := ?_) (by (simp only [List.getElem?_toArray, List.getElem?_cons_zero, List.getElem?_cons_succ]); rfl) (by kernel_rfl) (by kernel_rfl) (by kernel_rfl) (by exact fun _ _ _ h => h) (Or.inl ⟨by rfl, by (intro w hSw; (try dsimp only at hSw); go_simp; (try with_reducible rfl))⟩) (by assumption) ?_
          try simp only [Act.put, List.setIfInBounds_toArray, List.set_cons_zero, List.set_cons_succ]
          refine wpAnyH_take (i := 8) (v := ?_) (by (simp only [List.getElem?_toArray, List.getElem?_cons_zero, List.getElem?_cons_succ]); rfl) (by kernel_rfl) (by kernel_rfl) (by kernel_rfl) (by exact fun _ _ _ h => h) (Or.inl ⟨by rfl, by (intro w hSw; (try dsimp only at hSw); go_simp; (try with_reducible rfl))⟩) (by assumption) ?_
          try simp only [Act.put, List.setIfInBounds_toArray, List.set_cons_zero, List.set_cons_succ]
          refine wpAnyH_take (i := 9) (v := ?_) (by (simp only [List.getElem?_toArray, List.getElem?_cons_zero, List.getElem?_cons_succ]); rfl) (by kernel_rfl) (by kernel_rfl) (by kernel_rfl) (by exact fun _ _ _ h => h) (Or.inl ⟨by rfl, by (intro w hSw; (try dsimp only at hSw); go_simp; (try with_reducible rfl))⟩) (by assumption) ?_
          try simp only [Act.put, List.setIfInBounds_toArray, List.set_cons_zero, List.set_cons_succ]
          refine wpAnyH_take (i := 10) (v := ?_) (by (simp only [List.getElem?_toArray, List.getElem?_cons_zero, List.getElem?_cons_succ]); rfl) (by kernel_rfl) (by kernel_rfl) (by kernel_rfl) (by exact fun _ _ _ h => h) (Or.inl ⟨by rfl, by (intro w hSw; (try dsimp only at hSw); go_simp; (try with_reducible rfl))⟩) (by assumption) ?_
          try simp only [Act.put, List.setIfInBounds_toArray, List.set_cons_zero, List.set_cons_succ]
          refine wpAnyH_take (i := 11) (v := ?_) (by (simp only [List.getElem?_toArray, List.getElem?_cons_zero, List.getElem?_cons_succ]); rfl) (by kernel_rfl) (by kernel_rfl) (by kernel_rfl) (by exact fun _ _ _ h => h) (Or.inl ⟨by rfl, by (intro w hSw; (try dsimp only at hSw); go_simp; (try with_reducible rfl))⟩) (by assumption) ?_
          try simp only [Act.put, List.setIfInBounds_toArray, List.set_cons_zero, List.set_cons_succ]
          refine wpAnyH_ready (rs := [12]) (by kernel_rfl) (by simp) ?_
          refine AllReadyH.cons (by (simp only [List.getElem?_toArray, List.getElem?_cons_zero, List.getElem?_cons_succ]); rfl) (fun K hK => ?_) AllReadyH.nil
          go_simp
          go_at_call 26; (with_reducible refine (HR.out.pairs _ HBD.out).mono ?_); rintro e' w6 ⟨A6, n6, c6, rfl, hnx, hb6⟩; have hd3 := below_then hba.out hba.out.size hb6
          refine hK.out _ _ (by first | (refine ⟨(by repeat (first | (with_reducible refine cell_dr ?_) | (with_reducible refine cell_al ?_ _) | with_reducible exact o0 | with_reducible exact cell_later hd3 o0)), (by repeat (first | (with_reducible refine cell_dr ?_) | (with_reducible refine cell_al ?_ _) | with_reducible exact c0 | with_reducible exact cell_later hd3 c0)), (by repeat (first | (with_reducible refine cell_dr ?_) | (with_reducible refine cell_al ?_ _) | with_reducible exact z0 | with_reducible exact cell_later hd3 z0)), (by repeat (first | (with_reducible refine cell_dr ?_) | (with_reducible refine cell_al ?_ _) | with_reducible exact z1 | with_reducible exact cell_later hd3 z1)), (by repeat (first | (with_reducible refine cell_dr ?_) | (with_reducible refine cell_al ?_ _) | with_reducible exact c1 | with_reducible exact cell_later hd3 c1)), (by repeat (first | (with_reducible refine cell_dr ?_) | (with_reducible refine cell_al ?_ _) | with_reducible exact ca | with_reducible exact cell_later hd3 ca)), (by repeat (first | (with_reducible refine cell_dr ?_) | (with_reducible refine cell_al ?_ _) | with_reducible exact q0 | with_reducible exact cell_later hd3 q0)), (by repeat (first | (with_reducible refine cell_dr ?_) | (with_reducible refine cell_al ?_ _) | with_reducible exact q1 | with_reducible exact cell_later hd3 q1)), (by repeat (first | (with_reducible refine cell_dr ?_) | (with_reducible refine cell_al ?_ _) | with_reducible exact q2 | with_reducible exact cell_later hd3 q2)), (by repeat (first | (with_reducible refine cell_dr ?_) | (with_reducible refine cell_al ?_ _) | with_reducible exact q3 | with_reducible exact cell_later hd3 q3)), (by repeat (first | (with_reducible refine cell_dr ?_) | (with_reducible refine cell_al ?_ _) | with_reducible exact q4 | with_reducible exact cell_later hd3 q4)), (by repeat (first | (with_reducible refine cell_dr ?_) | (with_reducible refine cell_al ?_ _) | with_reducible exact q5 | with_reducible exact cell_later hd3 q5)), (by repeat (first | (with_reducible refine cell_dr ?_) | (with_reducible refine cell_al ?_ _) | with_reducible exact q6 | with_reducible exact cell_later hd3 q6))⟩) | fail) (fun hHeld2 => ?_)
          clear hK K hHeld
          have hHeld := hHeld2
          clear hHeld2
          try simp only [Act.put, List.setIfInBounds_toArray, List.set_cons_zero, List.set_cons_succ]
          refine wpAnyH_take (i := 13) (v := ?_) (by (simp only [List.getElem?_toArray, List.getElem?_cons_zero, List.getElem?_cons_succ]); rfl) (by kernel_rfl) (by kernel_rfl) (by kernel_rfl) (by exact fun _ _ _ h => h) (Or.inl ⟨by rfl, by (intro w hSw; (try dsimp only at hSw); go_simp; (try with_reducible rfl))⟩) (by assumption) ?_
          try simp only [Act.put, List.setIfInBounds_toArray, List.set_cons_zero, List.set_cons_succ]
          refine wpAnyH_take (i := 14) (v := ?_) (by (simp only [List.getElem?_toArray, List.getElem?_cons_zero, List.getElem?_cons_succ]); rfl) (by kernel_rfl) (by kernel_rfl) (by kernel_rfl) (by exact fun _ _ _ h => h) (Or.inl ⟨by rfl, by (intro w hSw; (try dsimp only at hSw); go_simp; (try with_reducible rfl))⟩) (by assumption) ?_
          try simp only [Act.put, List.setIfInBounds_toArray, List.set_cons_zero, List.set_cons_succ]
          refine wpAnyH_take (i := 15) (v := ?_) (by (simp only [List.getElem?_toArray, List.getElem?_cons_zero, List.getElem?_cons_succ]); rfl) (by kernel_rfl) (by kernel_rfl) (by kernel_rfl) (by exact fun _ _ _ h => h) (Or.inl ⟨by rfl, by (intro w hSw; (try dsimp only at hSw); go_simp; (try with_reducible rfl))⟩) (by assumption) ?_
          try simp only [Act.put, List.setIfInBounds_toArray, List.set_cons_zero, List.set_cons_succ]
          refine wpAnyH_take (i := 16) (v := ?_) (by (simp only [List.getElem?_toArray, List.getElem?_cons_zero, List.getElem?_cons_succ]); rfl) (by kernel_rfl) (by kernel_rfl) (by kernel_rfl) (by exact fun _ _ _ h => h) (Or.inl ⟨by rfl, by (intro w hSw; (try dsimp only at hSw); go_simp; (try with_reducible rfl))⟩) (by assumption) ?_
          try simp only [Act.put, List.setIfInBounds_toArray, List.set_cons_zero, List.set_cons_succ]
          refine wpAnyH_take (i := 17) (v := ?_) (by (simp only [List.getElem?_toArray, List.getElem?_cons_zero, List.getElem?_cons_succ]); rfl) (by kernel_rfl) (by kernel_rfl) (by kernel_rfl) (by exact fun _ _ _ h => h) (Or.inl ⟨by rfl, by (intro w hSw; (try dsimp only at hSw); go_simp; (try with_reducible rfl))⟩) (by assumption) ?_
          try simp only [Act.put, List.setIfInBounds_toArray, List.set_cons_zero, List.set_cons_succ]
          refine wpAnyH_done (by kernel_rfl) ?_ _
          have HV6 := Aside0.mk (below_then HV5.out HV5.out.size hd3)
          have HNX := Aside0.mk hnx
          clear o0 ca c0 c1 q0 q1 q2 q3 q4 q5 q6 z0 z1 hba hd3 hb6 hnx hs1 hs2
          try clear hHeld
          gi_upto_region 15 with (fail)
          have ho6 := blk_below HO3.out HV6.out
          have ha6 := blk_below HA3.out HV6.out
          have o0 := box1 ho6
          have ca := box1 ha6
          have fo := blk_frozen ho6 0
          have fa := blk_frozen ha6 0
          have hord := HORD.out.2
          have hp00 := HORD.out.1
          have hgn : gO < gA := hord.2.2.2.2.2.2.2.1
          have hne : gO ≠ gA := by omega
          have ho7 := blk_far (p := ⟨gA, 0, none⟩) (blk_set ho6 0 (.slice A6 n6 c6)) (show gO ≠ gA by omega) (.int .i64 2)
          have ha7 := blk_set (blk_far (p := ⟨gO, 0, none⟩) ha6 (show gA ≠ gO by omega) (.slice A6 n6 c6)) 0 (.int .i64 2)
          have hK7 := ((HK3.out.below HV6.out).set (.inl rfl) 0 (.slice A6 n6 c6)).set (.inr rfl) 0 (.int .i64 2)
          gi_wp2
          obtain ⟨W7, hW7⟩ : ∃ W7, (w6.setCell ⟨gO, 0, none⟩ (.slice A6 n6 c6)).setCell ⟨gA, 0, none⟩ (.int .i64 2) = W7 := ⟨_, rfl⟩
          rw [hW7] at ho7 ha7 hK7 ⊢
          have hst := HNX.out W7 ho7 ha7
          refine ⟨hK7.keeps HR.out.ho rfl HR.out.ha rfl, hK7.kpG HJ.out.b.size (by omega) (by omega) HJ.out.m1 HJ.out.m2 ⟨by omega, by omega⟩, ?_⟩
          dsimp only
          rw [List.map_append]
          exact HJ.out.kept hK7 hp00 hord hst
  case done =>
    rintro D ys W hD hys hJ hK
    have hm : ((1 : Int), (3 : Int)) ∈ ys.map Subtype.val := by
      rw [show ys.map Subtype.val = [(0, 1), (1, 3)] from hys.trans (grps_ls a0 a1 a2)]
      simp
    rcases hJ.st with ⟨_, _, hn⟩ | ⟨A', c', ho, _⟩
    · exact absurd hm hn
    have o0 := box1 ho
    have k5 := box1 hJ.k5
    have k6 := box1 hJ.k6
    have f5 := blk_frozen hJ.k5 0
    have f6 := blk_frozen hJ.k6 0
    have hord := HORD.out
    have hz := HZ.out
    have h5 : ((W.setCell ⟨p5, 0, none⟩ (.slice A' 4 c')).setCell ⟨p6, 0, none⟩ (.int .i64 0)).heap[p5]? = some (.cells #[.slice A' 4 c'] 22 (0, 0)) := blk_far (p := ⟨p6, 0, none⟩) (blk_set hJ.k5 0 (.slice A' 4 c')) (show p5 ≠ p6 by omega) (.int .i64 0)
    have h6 : ((W.setCell ⟨p5, 0, none⟩ (.slice A' 4 c')).setCell ⟨p6, 0, none⟩ (.int .i64 0)).heap[p6]? = some (.cells #[.int .i64 0] 46 (0, 0)) := blk_set (blk_far (p := ⟨p5, 0, none⟩) hJ.k6 (show p6 ≠ p5 by omega) (.slice A' 4 c')) 0 (.int .i64 0)
    have hK2 : ((W.setCell ⟨p5, 0, none⟩ (.slice A' 4 c')).setCell ⟨p6, 0, none⟩ (.int .i64 0)).heap[D]? = some (.deferred (some [])) := (Below.heap_setCell _ ⟨p6, 0, none⟩ _ D (show D ≠ p6 by omega)).trans ((Below.heap_setCell _ ⟨p5, 0, none⟩ _ D (show D ≠ p5 by omega)).trans hK)
    have hb2 := (hJ.b.setCell (p := ⟨p5, 0, none⟩) (show w.heap.size ≤ p5 by omega) (.slice A' 4 c')).setCell (p := ⟨p6, 0, none⟩) (show w.heap.size ≤ p6 by omega) (.int .i64 0)
    gi_wp2
    obtain ⟨W9, hW9⟩ : ∃ W9, (W.setCell ⟨p5, 0, none⟩ (.slice A' 4 c')).setCell ⟨p6, 0, none⟩ (.int .i64 0) = W9 := ⟨_, rfl⟩
    rw [hW9] at h5 h6 hK2 hb2 ⊢
    clear hW9
    refine ⟨by simp, .inl ⟨_, _, rfl, run_takeDeferred hK2, ?_⟩⟩
    exact ⟨_, results_join rfl rfl (box1 ((World.putObj_heap_other (show p5 ≠ D by omega)).trans h5)) (box1 ((World.putObj_heap_other (show p6 ≠ D by omega)).trans h6)), A', c', rfl, hb2.trans (belowK_b (w := w) (by omega) W9 D _ _ (by omega) hK2 rfl rfl)⟩
  case stop =>
    rintro D c' pre W _ _ h _
    exact h.elim
end Go.Proofs.YtcpngmclhicciaaGreatDoor
