/- Annotations of one variable: validity, sizes, comparison of atoms, copies of atoms: walks of the functions, each with its contract. -/
import Derived.Test.YtcpngmclhicciaaGreatDoorM1
/- 'scalar.Valid', 'Eval', 'Holds' at the constant TRUE. -/
namespace Go.Proofs.YtcpngmclhicciaaGreatDoor
open Go.RowKit Go.Proofs.YtcpngmclhicciaaGreatDoorW.PrintWords PMergejoinGroups
set_option linter.unusedVariables false
set_option linter.unusedSimpArgs false
set_option maxRecDepth 100000 in
theorem vvalid_true (w : World) : Calls Tryz.prog 45 #[(.agg #[.int .i64 2, .int .i64 1, .string ⟨#[]⟩])] w fun e w' => e = .returned (.bool true) ∧ Below w.heap.size w w' := by
  go_enter Tryz.func45, Tryz.ntmps45
  go_wp2
  go_ret
  exact ⟨rfl, below_alloc (Below.refl _ _) _⟩
set_option maxRecDepth 100000 in
theorem node_true (w : World) : Calls Tryz.prog 35 #[(.agg #[.int .i64 0, .int .i64 0, .int .i64 2, .int .i64 1, .string ⟨#[]⟩, .int .i64 0, .slice none 0 0])] w fun e w' => e = .returned (.bool true) ∧ Below w.heap.size w w' := by
  have HX := Aside0.mk (blk_new w (.cells (#[.int .i64 0, .int .i64 0, .int .i64 2, .int .i64 1, .string ⟨#[]⟩, .int .i64 0, .slice none 0 0]) 45))
  have HW := Aside0.mk (below_alloc (Below.refl w.heap.size w) (.cells (#[.int .i64 0, .int .i64 0, .int .i64 2, .int .i64 1, .string ⟨#[]⟩, .int .i64 0, .slice none 0 0]) 45))
  go_enter Tryz.func35, Tryz.ntmps35
  go_upto_region 1 with (fail)
  obtain ⟨W, hW⟩ : ∃ W : World, w.alloc (.cells (#[.int .i64 0, .int .i64 0, .int .i64 2, .int .i64 1, .string ⟨#[]⟩, .int .i64 0, .slice none 0 0]) 45) = W := ⟨_, rfl⟩
  rw [hW] at HX HW ⊢
  clear hW
  obtain ⟨a0, a1, a2, a3, a4, a5, a6⟩ := box7 HX.out
  go_wp2_with (first | (go_at_call 45; (with_reducible refine (vvalid_true _).mono ?_); rintro e w1 ⟨rfl, hb1⟩; replace a0 := cell_later hb1 a0; replace a1 := cell_later hb1 a1; replace a5 := cell_later hb1 a5; replace a6 := cell_later hb1 a6) | fail)
  go_ret
  exact ⟨rfl, below_then HW.out HW.out.size hb1⟩
theorem grow_alloc_set (w : World) (o : Obj) (g : Nat) (v : Value) : w.grownBy ((w.alloc o).setCell ⟨g, 0, none⟩ v) (some g) :=
  ⟨rfl, rfl, rfl, by simp [World.setCell], fun k hk hne => by rw [Below.heap_setCell _ _ _ k (fun e => hne (by rw [e])), Below.heap_alloc _ _ k hk]⟩
theorem grow_alloc {w w1 : World} {o : Obj} {r : Option Nat} (h : (w.alloc o).grownBy w1 r) : w.grownBy w1 r :=
  ⟨h.os, h.tape, h.output, by have := h.size; rw [World.size_alloc] at this; omega, fun k hk hne => by rw [h.block k (by rw [World.size_alloc]; omega) hne, Below.heap_alloc _ _ k hk]⟩
set_option maxRecDepth 100000 in
theorem inc_true (g : Nat) (w : World) (hg : w.heap[g]? = some (.cells #[.int .i64 0] 3 (0, 0))) : Calls Tryz.prog 44 #[(.agg #[.int .i64 0, .int .i64 0, .int .i64 2, .int .i64 1, .string ⟨#[]⟩, .int .i64 0, .slice none 0 0]), .pointer (some ⟨g, 0, none⟩)] w fun e w' => e = .returned (.bool true) ∧ w.grownBy w' (some g) := by
  have h1 := Boxed.cell (blk_alloc hg (.cells (#[.int .i64 0, .int .i64 0, .int .i64 2, .int .i64 1, .string ⟨#[]⟩, .int .i64 0, .slice none 0 0]) 45))
  have h2 := Boxed.frozen (blk_alloc hg (.cells (#[.int .i64 0, .int .i64 0, .int .i64 2, .int .i64 1, .string ⟨#[]⟩, .int .i64 0, .slice none 0 0]) 45))
  go_enter Tryz.func44, Tryz.ntmps44
  go_wp2
  go_ret
  exact ⟨rfl, grow_alloc_set _ _ _ _⟩
set_option maxRecDepth 100000 in
theorem visit_inc (g : Nat) (w : World) (hg : w.heap[g]? = some (.cells #[.int .i64 0] 3 (0, 0))) : Calls Tryz.prog 34 #[(.agg #[.int .i64 0, .int .i64 0, .int .i64 2, .int .i64 1, .string ⟨#[]⟩, .int .i64 0, .slice none 0 0]), .func (.func 44) #[] #[.pointer (some ⟨g, 0, none⟩)]] w fun e w' => e = .returned (.bool true) ∧ w.grownBy w' (some g) := by
  have HX := Aside0.mk (blk_new w (.cells (#[.int .i64 0, .int .i64 0, .int .i64 2, .int .i64 1, .string ⟨#[]⟩, .int .i64 0, .slice none 0 0]) 45))
  have HG := Aside0.mk (blk_alloc hg (.cells (#[.int .i64 0, .int .i64 0, .int .i64 2, .int .i64 1, .string ⟨#[]⟩, .int .i64 0, .slice none 0 0]) 45))
  have HN := Aside0.mk (show some w.heap.size ≠ some g from fun e => by have := lt_of_heap hg; cases e; omega)
  clear hg
  go_enter Tryz.func34, Tryz.ntmps34
  go_upto_region 1 with (fail)
  obtain ⟨W, hW⟩ : ∃ W : World, w.alloc (.cells (#[.int .i64 0, .int .i64 0, .int .i64 2, .int .i64 1, .string ⟨#[]⟩, .int .i64 0, .slice none 0 0]) 45) = W := ⟨_, rfl⟩
  have HWW := Aside0.mk hW
  rw [hW] at HX HG ⊢
  clear hW
  obtain ⟨a0, a1, a2, a3, a4, a5, a6⟩ := box7 HX.out
  go_wp2_with (first | (go_at_call 44; (with_reducible refine (inc_true g _ HG.out).mono ?_); rintro e w1 ⟨rfl, hb1⟩; clear a0 a1 a2 a3 a4 a5; replace a6 := hb1.cell a6 HN.out; have HB := Aside0.mk hb1; clear hb1) | fail)
  go_loopg [14] 0 (fun kq v14 wr => v14 = .int .i64 0 ∧ Aside0 (w1 = wr))
  case atStart => exact ⟨rfl, ⟨rfl⟩⟩
  case round =>
    obtain ⟨rfl, HV⟩ := hrel
    go_wp2
    go_ret
    exact ⟨rfl, by rw [← HV.out]; exact grow_alloc (o := .cells (#[.int .i64 0, .int .i64 0, .int .i64 2, .int .i64 1, .string ⟨#[]⟩, .int .i64 0, .slice none 0 0]) 45) (by rw [HWW.out]; exact HB.out)⟩
set_option maxRecDepth 100000 in
theorem visit_node (w : World) : Calls Tryz.prog 34 #[(.agg #[.int .i64 0, .int .i64 0, .int .i64 2, .int .i64 1, .string ⟨#[]⟩, .int .i64 0, .slice none 0 0]), .func (.func 35) #[] #[]] w fun e w' => e = .returned (.bool true) ∧ Below w.heap.size w w' := by
  have HX := Aside0.mk (blk_new w (.cells (#[.int .i64 0, .int .i64 0, .int .i64 2, .int .i64 1, .string ⟨#[]⟩, .int .i64 0, .slice none 0 0]) 45))
  have HW := Aside0.mk (below_alloc (Below.refl w.heap.size w) (.cells (#[.int .i64 0, .int .i64 0, .int .i64 2, .int .i64 1, .string ⟨#[]⟩, .int .i64 0, .slice none 0 0]) 45))
  go_enter Tryz.func34, Tryz.ntmps34
  go_upto_region 1 with (fail)
  obtain ⟨W, hW⟩ : ∃ W : World, w.alloc (.cells (#[.int .i64 0, .int .i64 0, .int .i64 2, .int .i64 1, .string ⟨#[]⟩, .int .i64 0, .slice none 0 0]) 45) = W := ⟨_, rfl⟩
  rw [hW] at HX HW ⊢
  clear hW
  obtain ⟨a0, a1, a2, a3, a4, a5, a6⟩ := box7 HX.out
  go_wp2_with (first | (go_at_call 35; (with_reducible refine (node_true _).mono ?_); rintro e w1 ⟨rfl, hb1⟩; clear a0 a1 a2 a3 a4 a5; replace a6 := cell_later hb1 a6; have HB := Aside0.mk (below_then HW.out HW.out.size hb1); clear hb1) | fail)
  go_loopg [14] 0 (fun kq v14 wr => v14 = .int .i64 0 ∧ Aside0 (w1 = wr))
  case atStart => exact ⟨rfl, ⟨rfl⟩⟩
  case round =>
    obtain ⟨rfl, HV⟩ := hrel
    go_wp2
    go_ret
    exact ⟨rfl, by rw [← HV.out]; exact HB.out⟩
set_option maxRecDepth 100000 in
theorem fits_true (w : World) : Calls Tryz.prog 33 #[(.agg #[.int .i64 0, .int .i64 0, .int .i64 2, .int .i64 1, .string ⟨#[]⟩, .int .i64 0, .slice none 0 0])] w fun e w' => e = .returned (.bool true) ∧ Below w.heap.size w w' := by
  have HX := Aside0.mk (blk_new w (.cells (#[.int .i64 0, .int .i64 0, .int .i64 2, .int .i64 1, .string ⟨#[]⟩, .int .i64 0, .slice none 0 0]) 45))
  have HW := Aside0.mk (below_alloc (Below.refl w.heap.size w) (.cells (#[.int .i64 0, .int .i64 0, .int .i64 2, .int .i64 1, .string ⟨#[]⟩, .int .i64 0, .slice none 0 0]) 45))
  have HS := Aside0.mk (show (w.alloc (.cells (#[.int .i64 0, .int .i64 0, .int .i64 2, .int .i64 1, .string ⟨#[]⟩, .int .i64 0, .slice none 0 0]) 45)).heap.size = w.heap.size + 1 by rw [World.size_alloc])
  go_enter Tryz.func33, Tryz.ntmps33
  go_upto_region 2 with (fail)
  obtain ⟨W, hW⟩ : ∃ W : World, w.alloc (.cells (#[.int .i64 0, .int .i64 0, .int .i64 2, .int .i64 1, .string ⟨#[]⟩, .int .i64 0, .slice none 0 0]) 45) = W := ⟨_, rfl⟩
  rw [hW] at HX HW HS ⊢
  clear hW
  have HG := Aside0.mk (blk_new W (.cells #[.int .i64 0] 3))
  have HXX := Aside0.mk (blk_alloc HX.out (.cells #[.int .i64 0] 3))
  have HW2 := Aside0.mk (below_alloc HW.out (.cells #[.int .i64 0] 3))
  rw [HS.out] at HG
  obtain ⟨W2, hW2⟩ : ∃ W2 : World, W.alloc (.cells #[.int .i64 0] 3) = W2 := ⟨_, rfl⟩
  rw [hW2] at HG HXX HW2 ⊢
  clear hW2
  obtain ⟨a0, a1, a2, a3, a4, a5, a6⟩ := box7 HXX.out
  go_wp2_with (first | (go_at_call 34; (with_reducible refine (visit_inc _ _ HG.out).mono ?_); rintro e w1 ⟨rfl, hb1⟩) | fail)
  go_ret
  exact ⟨rfl, HW2.out.grown hb1 HW2.out.size (fun k e => by cases e; omega)⟩
end Go.Proofs.YtcpngmclhicciaaGreatDoor
/- 'scalar.Valid', 'truth', 'Eval', 'Holds' at the constant TRUE. -/
namespace Go.Proofs.YtcpngmclhicciaaGreatDoor
open Go.RowKit Go.Proofs.YtcpngmclhicciaaGreatDoorW.PrintWords PMergejoinGroups
set_option linter.unusedVariables false
set_option linter.unusedSimpArgs false
set_option maxRecDepth 100000 in
theorem valid_true (w : World) : Calls Tryz.prog 25 #[(.agg #[.int .i64 0, .int .i64 0, .int .i64 2, .int .i64 1, .string ⟨#[]⟩, .int .i64 0, .slice none 0 0])] w fun e w' => e = .returned (.bool true) ∧ Below w.heap.size w w' := by
  have HX := Aside0.mk (blk_new w (.cells (#[.int .i64 0, .int .i64 0, .int .i64 2, .int .i64 1, .string ⟨#[]⟩, .int .i64 0, .slice none 0 0]) 45))
  have HW := Aside0.mk (below_alloc (Below.refl w.heap.size w) (.cells (#[.int .i64 0, .int .i64 0, .int .i64 2, .int .i64 1, .string ⟨#[]⟩, .int .i64 0, .slice none 0 0]) 45))
  go_enter Tryz.func25, Tryz.ntmps25
  go_upto_region 1 with (fail)
  obtain ⟨W, hW⟩ : ∃ W : World, w.alloc (.cells (#[.int .i64 0, .int .i64 0, .int .i64 2, .int .i64 1, .string ⟨#[]⟩, .int .i64 0, .slice none 0 0]) 45) = W := ⟨_, rfl⟩
  rw [hW] at HX HW ⊢
  clear hW
  obtain ⟨a0, a1, a2, a3, a4, a5, a6⟩ := box7 HX.out
  go_wp2_with (first | (go_at_call 33; (with_reducible refine (fits_true _).mono ?_); rintro e w1 ⟨rfl, hb1⟩; replace a0 := cell_later hb1 a0; replace a1 := cell_later hb1 a1; replace a2 := cell_later hb1 a2; replace a3 := cell_later hb1 a3; replace a4 := cell_later hb1 a4; replace a5 := cell_later hb1 a5; replace a6 := cell_later hb1 a6) | (go_at_call 34; (with_reducible refine (visit_node _).mono ?_); rintro e w2 ⟨rfl, hb2⟩) | fail)
  go_ret
  exact ⟨rfl, below_then HW.out HW.out.size (below_then hb1 hb1.size hb2)⟩
theorem blk_new1 (w : World) (o o' : Obj) : ((w.alloc o).alloc o').heap[w.heap.size + 1]? = some o' := by
  have := blk_new (w.alloc o) o'
  rwa [World.size_alloc] at this
set_option maxRecDepth 100000 in
theorem truth_true (w : World) : Calls Tryz.prog 48 #[.bool true] w fun e w' => e = .returned (.agg #[.int .i64 2, .int .i64 1, .string ⟨#[]⟩]) ∧ Below w.heap.size w w' := by
  go_enter Tryz.func48, Tryz.ntmps48
  go_wp2
  exact bodyPost_ret (results_cell_row rfl _ _ w.heap.size 42 #[.int .i64 2, .int .i64 1, .string ⟨#[]⟩] (0, 0) _ rfl (blk_alloc (blk_new w _) _) Tryz.underlying42 rfl (by kernel_rfl)) rfl ⟨rfl, below_alloc (below_alloc (Below.refl _ _) _) _⟩
set_option maxRecDepth 100000 in
theorem eval_true (A : Option Addr) (n c : Nat) (w : World) : Calls Tryz.prog 55 #[(.agg #[.int .i64 0, .int .i64 0, .int .i64 2, .int .i64 1, .string ⟨#[]⟩, .int .i64 0, .slice none 0 0]), .slice A n c] w fun e w' => e = .returned (.agg #[.int .i64 2, .int .i64 1, .string ⟨#[]⟩]) ∧ Below w.heap.size w w' := by
  go_enter Tryz.func55, Tryz.ntmps55
  go_wp2
  exact bodyPost_ret (results_cell_row rfl _ _ (w.heap.size + 1) 42 #[.int .i64 2, .int .i64 1, .string ⟨#[]⟩] (0, 0) _ rfl (blk_new1 w _ _) Tryz.underlying42 rfl (by kernel_rfl)) rfl ⟨rfl, below_alloc (below_alloc (Below.refl _ _) _) _⟩
theorem set3_blk {W : World} {g : Nat} {T : TypeId} {a0 a1 a2 v0 v1 v2 : Value} (h : W.heap[g]? = some (.cells #[a0, a1, a2] T (0, 0))) : (((W.setCell ⟨g, 0, none⟩ v0).setCell ⟨g, 1, none⟩ v1).setCell ⟨g, 2, none⟩ v2).heap[g]? = some (.cells #[v0, v1, v2] T (0, 0)) := by
  have h1 := blk_set (blk_set (blk_set h 0 v0) 1 v1) 2 v2
  exact h1
set_option maxRecDepth 100000 in
theorem Eval_true (A : Option Addr) (n c : Nat) (w : World) : Calls Tryz.prog 47 #[(.agg #[.int .i64 0, .int .i64 0, .int .i64 2, .int .i64 1, .string ⟨#[]⟩, .int .i64 0, .slice none 0 0]), .slice A n c] w fun e w' => e = .returned (.agg #[.int .i64 2, .int .i64 1, .string ⟨#[]⟩]) ∧ Below w.heap.size w w' := by
  have HX := Aside0.mk (blk_alloc (blk_new w (.cells (#[.int .i64 0, .int .i64 0, .int .i64 2, .int .i64 1, .string ⟨#[]⟩, .int .i64 0, .slice none 0 0]) 45)) (.cells #[.int .i64 0, .int .i64 0, .string ⟨#[]⟩] 42))
  have HY := Aside0.mk (blk_new1 w (.cells (#[.int .i64 0, .int .i64 0, .int .i64 2, .int .i64 1, .string ⟨#[]⟩, .int .i64 0, .slice none 0 0]) 45) (.cells #[.int .i64 0, .int .i64 0, .string ⟨#[]⟩] 42))
  have HW := Aside0.mk (below_alloc (below_alloc (Below.refl w.heap.size w) (.cells (#[.int .i64 0, .int .i64 0, .int .i64 2, .int .i64 1, .string ⟨#[]⟩, .int .i64 0, .slice none 0 0]) 45)) (.cells #[.int .i64 0, .int .i64 0, .string ⟨#[]⟩] 42))
  go_enter Tryz.func47, Tryz.ntmps47
  go_upto_region 1 with (fail)
  obtain ⟨W, hW⟩ : ∃ W : World, (w.alloc (.cells (#[.int .i64 0, .int .i64 0, .int .i64 2, .int .i64 1, .string ⟨#[]⟩, .int .i64 0, .slice none 0 0]) 45)).alloc (.cells #[.int .i64 0, .int .i64 0, .string ⟨#[]⟩] 42) = W := ⟨_, rfl⟩
  rw [hW] at HX HY HW ⊢
  clear hW
  obtain ⟨a0, a1, a2, a3, a4, a5, a6⟩ := box7 HX.out
  go_wp2_with (first | (go_at_call 25; (with_reducible refine (valid_true _).mono ?_); rintro e w1 ⟨rfl, hb1⟩; replace a0 := cell_later hb1 a0; replace a1 := cell_later hb1 a1; replace a2 := cell_later hb1 a2; replace a3 := cell_later hb1 a3; replace a4 := cell_later hb1 a4; replace a5 := cell_later hb1 a5; replace a6 := cell_later hb1 a6) | (go_at_call 55; (with_reducible refine (eval_true A n c _).mono ?_); rintro e w2 ⟨rfl, hb2⟩; have hy := blk_below (blk_below HY.out hb1) hb2; have hz := below_then HW.out HW.out.size (below_then hb1 hb1.size hb2); clear a0 a1 a2 a3 a4 a5 a6; obtain ⟨q0, q1, q2⟩ := box3 hy; have f0 := blk_frozen hy 0; have f1 := blk_frozen hy 1; have f2 := blk_frozen hy 2) | fail)
  exact bodyPost_ret (results_cell_row rfl _ _ (w.heap.size + 1) 42 #[.int .i64 2, .int .i64 1, .string ⟨#[]⟩] (0, 0) _ rfl (set3_blk hy) Tryz.underlying42 rfl (by kernel_rfl)) rfl ⟨rfl, ((hz.setCell (p := ⟨w.heap.size + 1, 0, none⟩) (by simp) _).setCell (p := ⟨w.heap.size + 1, 1, none⟩) (by simp) _).setCell (p := ⟨w.heap.size + 1, 2, none⟩) (by simp) _⟩
set_option maxRecDepth 100000 in
theorem Holds_true (A : Option Addr) (n c : Nat) (w : World) : Calls Tryz.prog 36 #[(.agg #[.int .i64 0, .int .i64 0, .int .i64 2, .int .i64 1, .string ⟨#[]⟩, .int .i64 0, .slice none 0 0]), .slice A n c] w fun e w' => e = .returned (.bool true) ∧ Below w.heap.size w w' := by
  have HX := Aside0.mk (blk_new w (.cells (#[.int .i64 0, .int .i64 0, .int .i64 2, .int .i64 1, .string ⟨#[]⟩, .int .i64 0, .slice none 0 0]) 45))
  have HW := Aside0.mk (below_alloc (Below.refl w.heap.size w) (.cells (#[.int .i64 0, .int .i64 0, .int .i64 2, .int .i64 1, .string ⟨#[]⟩, .int .i64 0, .slice none 0 0]) 45))
  go_enter Tryz.func36, Tryz.ntmps36
  go_upto_region 1 with (fail)
  obtain ⟨W, hW⟩ : ∃ W : World, w.alloc (.cells (#[.int .i64 0, .int .i64 0, .int .i64 2, .int .i64 1, .string ⟨#[]⟩, .int .i64 0, .slice none 0 0]) 45) = W := ⟨_, rfl⟩
  rw [hW] at HX HW ⊢
  clear hW
  obtain ⟨a0, a1, a2, a3, a4, a5, a6⟩ := box7 HX.out
  go_wp2_with (first | (go_at_call 47; (with_reducible refine (Eval_true A n c _).mono ?_); rintro e w1 ⟨rfl, hb1⟩) | (go_at_call 48; (with_reducible refine (truth_true _).mono ?_); rintro e w2 ⟨rfl, hb2⟩) | fail)
  go_ret
  exact ⟨rfl, below_then HW.out HW.out.size (below_then hb1 hb1.size hb2)⟩
end Go.Proofs.YtcpngmclhicciaaGreatDoor
/- Annotations of variables alone: one term, its factors flat. 'within'. -/
namespace Go.Proofs.YtcpngmclhicciaaGreatDoor
open Go.RowKit Go.Proofs.YtcpngmclhicciaaGreatDoorW.PrintWords PMergejoinGroups
set_option linter.unusedVariables false
set_option linter.unusedSimpArgs false
/-- A power of a variable: its table, its number, its exponent. -/
structure Fac where
  t : Int
  s : Int
  e : Int
def z78 : Fac := ⟨0, 0, 0⟩
def encF (x : Fac) : List Value := [.int .i64 0, .int .i64 x.t, .int .i64 x.s, .slice none 0 0, .int .i64 0, .slice none 0 0, .int .i64 0, .int .i64 0, .int .i64 0, .string ⟨#[]⟩, .int .i64 x.e]
def kF : Kd Fac where
  sz := 11
  E := []
  K := fun _ x cs => cs = encF x
  M := fun _ _ _ x cs => cs = encF x
  K_len := fun h => by rw [h]; rfl
  K_one := fun h u hu => by
    rw [h] at hu
    simp only [encF, List.mem_cons, List.not_mem_nil, or_false] at hu
    rcases hu with rfl | rfl | rfl | rfl | rfl | rfl | rfl | rfl | rfl | rfl | rfl <;> rfl
  K_below := fun _ h => h
  K_of_M := fun h => h
  M_mono := fun _ h => h
  M_bound := fun h => h
  M_move := fun _ h => h
  M_lower := fun _ h => h
theorem kF_mkF (W : World) (ok : Nat → Prop) (x : Fac) : Kd.FK kF W ok x [.int .i64 0, .int .i64 x.t, .int .i64 x.s, .slice none 0 0, .int .i64 0, .slice none 0 0, .int .i64 0, .int .i64 0, .int .i64 0, .string ⟨#[]⟩, .int .i64 x.e] := fun W2 _ => rfl
def rdF (xs : List Fac) (i : Int) : Fac := xs.getD i.toNat z78
/-- The cells of a factor, at an address. -/
def CellsF (w : World) (p : Addr) (x : Fac) : Prop :=
  w.cell? p = some (.int .i64 0) ∧ w.cell? ⟨p.block, p.off + 1, none⟩ = some (.int .i64 x.t) ∧ w.cell? ⟨p.block, p.off + 2, none⟩ = some (.int .i64 x.s) ∧ w.cell? ⟨p.block, p.off + 3, none⟩ = some (.slice none 0 0) ∧ w.cell? ⟨p.block, p.off + 4, none⟩ = some (.int .i64 0) ∧ w.cell? ⟨p.block, p.off + 5, none⟩ = some (.slice none 0 0) ∧ w.cell? ⟨p.block, p.off + 6, none⟩ = some (.int .i64 0) ∧ w.cell? ⟨p.block, p.off + 7, none⟩ = some (.int .i64 0) ∧ w.cell? ⟨p.block, p.off + 8, none⟩ = some (.int .i64 0) ∧ w.cell? ⟨p.block, p.off + 9, none⟩ = some (.string ⟨#[]⟩) ∧ w.cell? ⟨p.block, p.off + 10, none⟩ = some (.int .i64 x.e)
theorem CellsF.later {w w' : World} {p : Addr} {x : Fac} (h : CellsF w p x) (hb : Below w.heap.size w w') : CellsF w' p x := by
  obtain ⟨a0, a1, a2, a3, a4, a5, a6, a7, a8, a9, a10⟩ := h
  exact ⟨cell_later hb a0, cell_later hb a1, cell_later hb a2, cell_later hb a3, cell_later hb a4, cell_later hb a5, cell_later hb a6, cell_later hb a7, cell_later hb a8, cell_later hb a9, cell_later hb a10⟩
theorem at_F {w : World} {A : Option Addr} {n : Nat} {xs : List Fac} (h : Kd.C kF w A n xs) (i : Int) (h0 : 0 ≤ i) (h1 : i < n) : ∃ ad, A = some ad ∧ CellsF w (ad.add (i.toNat * 11)) (rdF xs i) := by
  obtain ⟨ad, c, e, _, hK, hc0⟩ := Kd.C_get h z78 i h0 h1
  have hc : ∀ j u, c[j]? = some u → w.cell? (ad.add (i.toNat * 11 + j)) = some u := hc0
  obtain rfl : c = encF (rdF xs i) := hK
  refine ⟨ad, e, hc 0 _ rfl, ?_, ?_, ?_, ?_, ?_, ?_, ?_, ?_, ?_, ?_⟩
  · rw [← add_field _ _ 1 (by omega)]; exact hc 1 _ rfl
  · rw [← add_field _ _ 2 (by omega)]; exact hc 2 _ rfl
  · rw [← add_field _ _ 3 (by omega)]; exact hc 3 _ rfl
  · rw [← add_field _ _ 4 (by omega)]; exact hc 4 _ rfl
  · rw [← add_field _ _ 5 (by omega)]; exact hc 5 _ rfl
  · rw [← add_field _ _ 6 (by omega)]; exact hc 6 _ rfl
  · rw [← add_field _ _ 7 (by omega)]; exact hc 7 _ rfl
  · rw [← add_field _ _ 8 (by omega)]; exact hc 8 _ rfl
  · rw [← add_field _ _ 9 (by omega)]; exact hc 9 _ rfl
  · rw [← add_field _ _ 10 (by omega)]; exact hc 10 _ rfl
theorem rdF_mem {xs : List Fac} {i : Int} (h0 : 0 ≤ i) (h1 : i < xs.length) : rdF xs i ∈ xs := by
  unfold rdF
  rw [List.getD_eq_getElem?_getD, List.getElem?_eq_getElem (by omega)]
  exact List.getElem_mem _
structure Tm where
  co : Int
  fs : List Fac
def kT : Kd Tm := Kd.iso (Kd.pair (Kd.int .i64) (Kd.slice 78 kF)) (fun x : Tm => (x.co, x.fs))
theorem kT_open {w : World} {x : Tm} {cs : List Value} (h : kT.K w x cs) : ∃ A c, cs = [.int .i64 x.co, .slice A x.fs.length c] ∧ x.fs.length ≤ c ∧ Kd.C kF w A x.fs.length x.fs := by
  obtain ⟨_, _, rfl, h3, ⟨A, c, rfl, h1, h2⟩⟩ := h
  exact ⟨A, c, by rw [show _ = [Value.int .i64 x.co] from h3]; rfl, h1, h2⟩
theorem kT_mk (w : World) (x : Tm) {A : Option Addr} {c : Nat} (h1 : x.fs.length ≤ c) (h2 : Kd.C kF w A x.fs.length x.fs) : kT.K w x [.int .i64 x.co, .slice A x.fs.length c] :=
  ⟨[.int .i64 x.co], [.slice A x.fs.length c], rfl, rfl, ⟨A, c, rfl, h1, h2⟩⟩
/-- An annotation of one term. -/
theorem at_T1 {w : World} {A : Option Addr} {x : Tm} (h : Kd.C kT w A 1 [x]) : ∃ ad A1 c1, A = some ad ∧ w.cell? ad = some (.int .i64 x.co) ∧ w.cell? ⟨ad.block, ad.off + 1, none⟩ = some (.slice A1 x.fs.length c1) ∧ x.fs.length ≤ c1 ∧ Kd.C kF w A1 x.fs.length x.fs := by
  obtain ⟨ad, c, e, _, hK, hc0⟩ := Kd.C_get h x 0 (Int.le_refl _) (by decide)
  have hc : ∀ j u, c[j]? = some u → w.cell? (ad.add (0 * 2 + j)) = some u := hc0
  obtain ⟨A0, c0, rfl, l0, g0⟩ := kT_open (x := x) hK
  have h0 := hc 0 _ rfl
  have h1 := hc 1 _ rfl
  have e0 : ad.add 0 = ad := by obtain ⟨b, o, k⟩ := ad; rfl
  have e1 : ad.add 1 = ⟨ad.block, ad.off + 1, none⟩ := by obtain ⟨b, o, k⟩ := ad; rfl
  exact ⟨ad, A0, c0, e, by rw [← e0]; exact h0, by rw [← e1]; exact h1, l0, g0⟩
def Small (fs : List Fac) : Prop := fs.length ≤ 64 ∧ ∀ x ∈ fs, x.e ≤ 64
set_option maxRecDepth 100000 in
theorem w71 (x : Fac) (hx : x.e ≤ 64) (w : World) : Calls Tryz.prog 71 #[(.agg #[.int .i64 0, .int .i64 x.t, .int .i64 x.s, .slice none 0 0, .int .i64 0, .slice none 0 0, .int .i64 0, .int .i64 0, .int .i64 0, .string ⟨#[]⟩, .int .i64 x.e])] w fun e w' => e = .returned (.bool false) ∧ Below w.heap.size w w' := by
  have hd : decide (64 < x.e) = false := decide_eq_false (by omega)
  have hb := Aside0.mk (below_alloc (Below.refl w.heap.size w) (.cells #[.int .i64 0, .int .i64 x.t, .int .i64 x.s, .slice none 0 0, .int .i64 0, .slice none 0 0, .int .i64 0, .int .i64 0, .int .i64 0, .string ⟨#[]⟩, .int .i64 x.e] 78))
  go_enter Tryz.func71, Tryz.ntmps71
  go_wp2
  go_ret
  exact ⟨rfl, hb.out⟩
set_option maxRecDepth 100000 in
set_option maxHeartbeats 1000000 in
theorem w98 (fs : List Fac) (A : Option Addr) (c : Nat) (w : World) (hs : Small fs) (hA : Kd.C kF w A fs.length fs) : Calls Tryz.prog 98 #[.slice A fs.length c, .func (.func 71) #[] #[]] w fun e w' => e = .returned (.int .i64 (-1)) ∧ Below w.heap.size w w' := by
  have hm : fs.length ≤ 9223372036854775807 := hA.2.1
  have HA := Aside0.mk (And.intro hA hs)
  clear hA hs
  go_enter Tryz.func98, Tryz.ntmps98
  go_wp2
  go_loopg [5, 8] (fs.length + 1) (fun kq v5 v8 wr => ∃ i : Int, v8 = .int .i64 i ∧ Aside0 (0 ≤ i ∧ i ≤ fs.length ∧ kq = fs.length + 1 - i.toNat) ∧ Aside0 (Below w.heap.size w wr))
  case atStart => exact ⟨0, rfl, ⟨by omega, by omega, by omega⟩, ⟨Below.refl _ _⟩⟩
  case round =>
    obtain ⟨i, rfl, HI, HW⟩ := hrel
    obtain ⟨i0, i1, i2⟩ := HI.out
    by_cases hlt : i < fs.length
    · have hb : decide (i < (fs.length : Int)) = true := decide_eq_true hlt
      obtain ⟨ad, e1, hc⟩ := at_F HA.out.1 i i0 hlt
      subst e1
      have hx := Aside0.mk (HA.out.2.2 _ (rdF_mem i0 hlt))
      obtain ⟨x, hxe⟩ : ∃ x, rdF fs i = x := ⟨_, rfl⟩
      rw [hxe] at hc hx
      obtain ⟨a0, a1, a2, a3, a4, a5, a6, a7, a8, a9, a10⟩ := hc.later HW.out
      clear hc hxe i1 i2
      replace hlt := eq_true hlt
      replace i0 := eq_true i0
      go_wp2_with (first | (go_at_call 71; (with_reducible refine (w71 x hx.out _).mono ?_); rintro e w1 ⟨rfl, hb1⟩; have HW2 := Aside0.mk (below_then HW.out HW.out.size hb1); clear hb1 a0 a1 a2 a3 a4 a5 a6 a7 a8 a9 a10) | fail)
      have i0' := of_eq_true i0
      have hlt' := of_eq_true hlt
      go_roundg (fs.length + 1 - (i + 1).toNat)
      case measure => have := HI.out.2.2; omega
      case rel => exact ⟨i + 1, congrArg (Value.int .i64) (wrap_succ i0' hlt' hm), ⟨by omega, by omega, rfl⟩, HW2⟩
    · have hb : decide (i < (fs.length : Int)) = false := decide_eq_false hlt
      clear i0 i1 i2 hlt HI
      go_wp2
      go_ret
      exact ⟨rfl, HW.out⟩
set_option maxRecDepth 100000 in
theorem w70 (fs : List Fac) (A : Option Addr) (c : Nat) (w : World) (hs : Small fs) (hA : Kd.C kF w A fs.length fs) : Calls Tryz.prog 70 #[.slice A fs.length c, .func (.func 71) #[] #[]] w fun e w' => e = .returned (.bool false) ∧ Below w.heap.size w w' := by
  have HA := Aside0.mk (And.intro hA hs)
  clear hA hs
  go_enter Tryz.func70, Tryz.ntmps70
  go_wp2_with (first | (go_at_call 98; (with_reducible refine (w98 fs A c _ HA.out.2 HA.out.1).mono ?_); rintro e w1 ⟨rfl, hb1⟩) | fail)
  go_ret
  exact ⟨rfl, hb1⟩
set_option maxRecDepth 100000 in
theorem w69 (co : Int) (fs : List Fac) (A : Option Addr) (c : Nat) (w : World) (hs : Small fs) (hA : Kd.C kF w A fs.length fs) : Calls Tryz.prog 69 #[.agg #[.int .i64 co, .slice A fs.length c]] w fun e w' => e = .returned (.bool false) ∧ Below w.heap.size w w' := by
  have HX := Aside0.mk (blk_new w (.cells #[.int .i64 co, .slice A fs.length c] 73))
  have HW := Aside0.mk (below_alloc (Below.refl w.heap.size w) (.cells #[.int .i64 co, .slice A fs.length c] 73))
  have HA := Aside0.mk (And.intro (Kd.C_below hA HW.out) hs)
  have hd : decide (64 < (fs.length : Int)) = false := decide_eq_false (by have := hs.1; omega)
  clear hA hs
  go_enter Tryz.func69, Tryz.ntmps69
  go_upto_region 1 with (fail)
  obtain ⟨W, hW⟩ : ∃ W : World, w.alloc (.cells #[.int .i64 co, .slice A fs.length c] 73) = W := ⟨_, rfl⟩
  rw [hW] at HX HW HA ⊢
  clear hW
  obtain ⟨a0, a1⟩ := box2 HX.out
  go_wp2_with (first | (go_at_call 70; (with_reducible refine (w70 fs A c _ HA.out.2 HA.out.1).mono ?_); rintro e w1 ⟨rfl, hb1⟩) | fail)
  go_ret
  exact ⟨rfl, below_then HW.out HW.out.size hb1⟩
set_option maxRecDepth 100000 in
set_option maxHeartbeats 1000000 in
theorem w97 (x : Tm) (A : Option Addr) (c : Nat) (w : World) (hs : Small x.fs) (hA : Kd.C kT w A 1 [x]) : Calls Tryz.prog 97 #[.slice A 1 c, .func (.func 69) #[] #[]] w fun e w' => e = .returned (.int .i64 (-1)) ∧ Below w.heap.size w w' := by
  obtain ⟨ad, A1, c1, rfl, x0, x1, l0, g0⟩ := at_T1 hA
  have HA := Aside0.mk (And.intro g0 (And.intro hs (And.intro x0 x1)))
  clear hA hs x0 x1 g0
  go_enter Tryz.func97, Tryz.ntmps97
  go_wp2
  go_loopg [5, 8] 2 (fun kq v5 v8 wr => ∃ i : Int, v8 = .int .i64 i ∧ Aside0 ((i = 0 ∨ i = 1) ∧ kq = 2 - i.toNat) ∧ Aside0 (Below w.heap.size w wr))
  case atStart => exact ⟨0, rfl, ⟨by omega, by omega⟩, ⟨Below.refl _ _⟩⟩
  case round =>
    obtain ⟨i, rfl, HI, HW⟩ := hrel
    obtain ⟨i0, i1⟩ := HI.out
    rcases i0 with rfl | rfl
    · have x0 := cell_later HW.out HA.out.2.2.1
      have x1 := cell_later HW.out HA.out.2.2.2
      clear i1
      go_wp2_with (first | (go_at_call 69; (with_reducible refine (w69 x.co x.fs A1 c1 _ HA.out.2.1 (Kd.C_below HA.out.1 HW.out)).mono ?_); rintro e w1 ⟨rfl, hb1⟩; have HW2 := Aside0.mk (below_then HW.out HW.out.size hb1); clear hb1) | fail)
      go_roundg 1
      case measure => have := HI.out.2; omega
      case rel => exact ⟨1, rfl, ⟨by omega, by omega⟩, HW2⟩
    · clear i1
      go_wp2
      go_ret
      exact ⟨rfl, HW.out⟩
set_option maxRecDepth 100000 in
theorem w68 (x : Tm) (A : Option Addr) (c : Nat) (w : World) (hs : Small x.fs) (hA : Kd.C kT w A 1 [x]) : Calls Tryz.prog 68 #[.slice A 1 c, .func (.func 69) #[] #[]] w fun e w' => e = .returned (.bool false) ∧ Below w.heap.size w w' := by
  have HA := Aside0.mk (And.intro hA hs)
  clear hA hs
  go_enter Tryz.func68, Tryz.ntmps68
  go_wp2_with (first | (go_at_call 97; (with_reducible refine (w97 x A c _ HA.out.2 HA.out.1).mono ?_); rintro e w1 ⟨rfl, hb1⟩) | fail)
  go_ret
  exact ⟨rfl, hb1⟩
end Go.Proofs.YtcpngmclhicciaaGreatDoor
/- 'nesting', 'Size', 'within' of an annotation of variables alone; atoms compared. -/
namespace Go.Proofs.YtcpngmclhicciaaGreatDoor
open Go.RowKit Go.Proofs.YtcpngmclhicciaaGreatDoorW.PrintWords PMergejoinGroups
set_option linter.unusedVariables false
set_option linter.unusedSimpArgs false
set_option maxRecDepth 100000 in
set_option maxHeartbeats 2000000 in
theorem nest_calls (x : Tm) (A : Option Addr) (c : Nat) (w : World) (hA : Kd.C kT w A 1 [x]) : Calls Tryz.prog 66 #[.slice A 1 c] w fun e w' => e = .returned (.int .i64 0) ∧ Below w.heap.size w w' := by
  obtain ⟨ad, A1, c1, rfl, x0, x1, l0, g0⟩ := at_T1 hA
  have hm : x.fs.length ≤ 9223372036854775807 := g0.2.1
  have HA := Aside0.mk (And.intro g0 (And.intro x0 x1))
  clear hA x0 x1 g0
  go_enter Tryz.func66, Tryz.ntmps66
  go_wp2
  go_loopg [3, 5, 7, 8, 15, 22] 2 (fun kq v3 v5 v7 v8 v15 v22 wr => ∃ i : Int, v15 = .int .i64 i ∧ v3 = .int .i64 0 ∧ Aside0 ((i = 0 ∨ i = 1) ∧ kq = 2 - i.toNat) ∧ Aside0 (Below w.heap.size w wr))
  case atStart => exact ⟨0, rfl, rfl, ⟨by omega, by omega⟩, ⟨Below.refl _ _⟩⟩
  case round =>
    obtain ⟨i, rfl, rfl, HI, HW⟩ := hrel
    obtain ⟨i0, i1⟩ := HI.out
    rcases i0 with rfl | rfl
    · have x0 := cell_later HW.out HA.out.2.1
      have x1 := cell_later HW.out HA.out.2.2
      clear i1
      go_upto_region 5 with (fail)
      have HX := Aside0.mk (blk_new wr (.cells #[.int .i64 x.co, .slice A1 x.fs.length c1] 73))
      have HW2 := Aside0.mk (below_alloc HW.out (.cells #[.int .i64 x.co, .slice A1 x.fs.length c1] 73))
      obtain ⟨g, hg⟩ : ∃ g, wr.heap.size = g := ⟨_, rfl⟩
      obtain ⟨W2, hW2⟩ : ∃ W2 : World, wr.alloc (.cells #[.int .i64 x.co, .slice A1 x.fs.length c1] 73) = W2 := ⟨_, rfl⟩
      rw [hW2] at HX HW2 ⊢
      rw [hg] at HX ⊢
      clear hW2 hg x0 x1
      obtain ⟨b0, b1⟩ := box2 HX.out
      go_wp2_with fail
      clear b0 b1
      go_loopg [3, 7, 8, 22] (x.fs.length + 1) (fun kq v3 v7 v8 v22 wi => ∃ j : Int, v22 = .int .i64 j ∧ v3 = .int .i64 0 ∧ Aside0 (0 ≤ j ∧ j ≤ x.fs.length ∧ kq = x.fs.length + 1 - j.toNat) ∧ Aside0 (Below w.heap.size w wi))
      case atStart => exact ⟨0, rfl, rfl, ⟨by omega, by omega, by omega⟩, HW2⟩
      case round =>
        obtain ⟨j, rfl, rfl, HJ, HV⟩ := hrel
        obtain ⟨j0, j1, j2⟩ := HJ.out
        by_cases hlt : j < x.fs.length
        · have hb : decide (j < (x.fs.length : Int)) = true := decide_eq_true hlt
          obtain ⟨fd, e1, hc⟩ := at_F HA.out.1 j j0 hlt
          subst e1
          obtain ⟨y, hye⟩ : ∃ y, rdF x.fs j = y := ⟨_, rfl⟩
          rw [hye] at hc
          have HV2 := Aside0.mk (below_alloc HV.out (.cells #[.int .i64 0, .int .i64 y.t, .int .i64 y.s, .slice none 0 0, .int .i64 0, .slice none 0 0, .int .i64 0, .int .i64 0, .int .i64 0, .string ⟨#[]⟩, .int .i64 y.e] 78))
          obtain ⟨a0, a1, a2, a3, a4, a5, a6, a7, a8, a9, a10⟩ := hc.later HV.out
          clear hc hye j1 j2
          replace hlt := eq_true hlt
          replace j0 := eq_true j0
          go_wp2
          have j0' := of_eq_true j0
          have hlt' := of_eq_true hlt
          go_roundg (x.fs.length + 1 - (j + 1).toNat)
          case measure => have := HJ.out.2.2; omega
          case rel => exact ⟨j + 1, congrArg (Value.int .i64) (wrap_succ j0' hlt' hm), rfl, ⟨by omega, by omega, rfl⟩, HV2⟩
        · have hb : decide (j < (x.fs.length : Int)) = false := decide_eq_false hlt
          clear j0 j1 j2 hlt
          go_wp2
          go_roundg 1
          case measure => have := HI.out.2; omega
          case rel => exact ⟨1, rfl, rfl, ⟨by omega, by omega⟩, HV⟩
    · clear i1
      go_wp2
      go_ret
      exact ⟨rfl, HW.out⟩
set_option maxRecDepth 100000 in
set_option maxHeartbeats 4000000 in
theorem size_calls (x : Tm) (A : Option Addr) (c : Nat) (w : World) (hs : x.fs.length ≤ 64) (hA : Kd.C kT w A 1 [x]) : Calls Tryz.prog 67 #[.slice A 1 c] w fun e w' => e = .returned (.int .i64 (1 + x.fs.length)) ∧ Below w.heap.size w w' := by
  obtain ⟨ad, A1, c1, rfl, x0, x1, l0, g0⟩ := at_T1 hA
  have hm : x.fs.length ≤ 9223372036854775807 := g0.2.1
  have HA := Aside0.mk (And.intro g0 (And.intro x0 (And.intro x1 hs)))
  clear hA x0 x1 g0 hs
  go_enter Tryz.func67, Tryz.ntmps67
  go_wp2
  go_loopg [3, 5, 7, 9, 11, 14, 27, 35, 48] 2 (fun kq v3 v5 v7 v9 v11 v14 v27 v35 v48 wr => ∃ i : Int, v14 = .int .i64 i ∧ ((i = 0 ∧ v3 = .int .i64 0) ∨ (i = 1 ∧ v3 = .int .i64 (1 + x.fs.length))) ∧ Aside0 (kq = 2 - i.toNat) ∧ Aside0 (Below w.heap.size w wr))
  case atStart => exact ⟨0, rfl, .inl ⟨rfl, rfl⟩, ⟨by omega⟩, ⟨Below.refl _ _⟩⟩
  case round =>
    obtain ⟨i, rfl, hi, HI, HW⟩ := hrel
    rcases hi with ⟨rfl, rfl⟩ | ⟨rfl, rfl⟩
    · have x0 := cell_later HW.out HA.out.2.1
      have x1 := cell_later HW.out HA.out.2.2.1
      go_upto_region 5 with (fail)
      have HX := Aside0.mk (blk_new wr (.cells #[.int .i64 x.co, .slice A1 x.fs.length c1] 73))
      have HW2 := Aside0.mk (below_alloc HW.out (.cells #[.int .i64 x.co, .slice A1 x.fs.length c1] 73))
      obtain ⟨g, hg⟩ : ∃ g, wr.heap.size = g := ⟨_, rfl⟩
      obtain ⟨W2, hW2⟩ : ∃ W2 : World, wr.alloc (.cells #[.int .i64 x.co, .slice A1 x.fs.length c1] 73) = W2 := ⟨_, rfl⟩
      rw [hW2] at HX HW2 ⊢
      rw [hg] at HX ⊢
      clear hW2 hg x0 x1
      obtain ⟨b0, b1⟩ := box2 HX.out
      have hw1 : wrap64 (1 + (x.fs.length : Int)) = 1 + x.fs.length := IntWalk.wrap64_in _ (by have := HA.out.2.2.2; omega)
      go_wp2_with fail
      rw [hw1]
      clear b0 b1 hw1
      go_loopg [3, 7, 9, 11, 27, 35, 48] (x.fs.length + 1) (fun kq v3 v7 v9 v11 v27 v35 v48 wi => ∃ j : Int, v27 = .int .i64 j ∧ v3 = .int .i64 (1 + x.fs.length) ∧ Aside0 (0 ≤ j ∧ j ≤ x.fs.length ∧ kq = x.fs.length + 1 - j.toNat) ∧ Aside0 (Below w.heap.size w wi))
      case atStart => exact ⟨0, rfl, rfl, ⟨by omega, by omega, by omega⟩, HW2⟩
      case round =>
        obtain ⟨j, rfl, rfl, HJ, HV⟩ := hrel
        obtain ⟨wo, rfl⟩ : ∃ wo : World, wo = wr := ⟨_, rfl⟩
        obtain ⟨j0, j1, j2⟩ := HJ.out
        by_cases hlt : j < x.fs.length
        · have hb : decide (j < (x.fs.length : Int)) = true := decide_eq_true hlt
          obtain ⟨fd, e1, hc⟩ := at_F HA.out.1 j j0 hlt
          subst e1
          obtain ⟨y, hye⟩ : ∃ y, rdF x.fs j = y := ⟨_, rfl⟩
          rw [hye] at hc
          have HV2 := Aside0.mk (below_alloc HV.out (.cells #[.int .i64 0, .int .i64 y.t, .int .i64 y.s, .slice none 0 0, .int .i64 0, .slice none 0 0, .int .i64 0, .int .i64 0, .int .i64 0, .string ⟨#[]⟩, .int .i64 y.e] 78))
          have HY2 := Aside0.mk (blk_new wo (.cells #[.int .i64 0, .int .i64 y.t, .int .i64 y.s, .slice none 0 0, .int .i64 0, .slice none 0 0, .int .i64 0, .int .i64 0, .int .i64 0, .string ⟨#[]⟩, .int .i64 y.e] 78))
          obtain ⟨a0, a1, a2, a3, a4, a5, a6, a7, a8, a9, a10⟩ := hc.later HV.out
          clear hc hye j1 j2
          replace hlt := eq_true hlt
          replace j0 := eq_true j0
          go_upto_region 9 with (fail)
          clear a0 a1 a2 a3 a4 a5 a6 a7 a8 a9 a10
          obtain ⟨g2, hg2⟩ : ∃ g, wo.heap.size = g := ⟨_, rfl⟩
          obtain ⟨W3, hW3⟩ : ∃ W2 : World, wo.alloc (.cells #[.int .i64 0, .int .i64 y.t, .int .i64 y.s, .slice none 0 0, .int .i64 0, .slice none 0 0, .int .i64 0, .int .i64 0, .int .i64 0, .string ⟨#[]⟩, .int .i64 y.e] 78) = W2 := ⟨_, rfl⟩
          rw [hW3] at HV2 HY2 ⊢
          rw [hg2] at HY2 ⊢
          clear hW3 hg2
          have d3 := (blk_cell HY2.out 3).trans rfl
          have d5 := (blk_cell HY2.out 5).trans rfl
          go_wp2_with fail
          go_loopg [3, 9, 35] 0 (fun kq v3 v9 v35 wi => v35 = .int .i64 0 ∧ v3 = .int .i64 (1 + x.fs.length) ∧ Aside0 (W3 = wi))
          case atStart => exact ⟨rfl, rfl, ⟨rfl⟩⟩
          case round =>
            obtain ⟨rfl, rfl, HK⟩ := hrel
            obtain rfl := HK.out
            go_wp2_with fail
            go_loopg [3, 11, 48] 0 (fun kq v3 v11 v48 wi => v48 = .int .i64 0 ∧ v3 = .int .i64 (1 + x.fs.length) ∧ Aside0 (W3 = wi))
            case atStart => exact ⟨rfl, rfl, ⟨rfl⟩⟩
            case round =>
              obtain ⟨rfl, rfl, HK⟩ := hrel
              obtain rfl := HK.out
              go_wp2_with fail
              have j0' := of_eq_true j0
              have hlt' := of_eq_true hlt
              go_roundg (x.fs.length + 1 - (j + 1).toNat)
              case measure => have := HJ.out.2.2; omega
              case rel => exact ⟨j + 1, congrArg (Value.int .i64) (wrap_succ j0' hlt' hm), rfl, ⟨by omega, by omega, rfl⟩, HV2⟩
        · have hb : decide (j < (x.fs.length : Int)) = false := decide_eq_false hlt
          clear j0 j1 j2 hlt
          go_wp2
          go_roundg 1
          case measure => have := HI.out; omega
          case rel => exact ⟨1, rfl, .inr ⟨rfl, rfl⟩, ⟨by omega⟩, HV⟩
    · go_wp2
      go_ret
      exact ⟨rfl, HW.out⟩
end Go.Proofs.YtcpngmclhicciaaGreatDoor
/- 'within'; the small functions of package annotation; atoms compared. -/
namespace Go.Proofs.YtcpngmclhicciaaGreatDoor
open Go.RowKit Go.Proofs.YtcpngmclhicciaaGreatDoorW.PrintWords PMergejoinGroups
set_option linter.unusedVariables false
set_option linter.unusedSimpArgs false
set_option maxRecDepth 100000 in
theorem within_calls (x : Tm) (A : Option Addr) (c : Nat) (w : World) (hs : Small x.fs) (hA : Kd.C kT w A 1 [x]) : Calls Tryz.prog 56 #[.slice A 1 c] w fun e w' => e = .returned (.bool true) ∧ Below w.heap.size w w' := by
  have HA := Aside0.mk (And.intro hA hs)
  have HS := Aside0.mk hs.1
  have hd : decide (4096 < 1 + (x.fs.length : Int)) = false := decide_eq_false (by have := hs.1; omega)
  clear hA hs
  go_enter Tryz.func56, Tryz.ntmps56
  go_wp2_with (first | (go_at_call 66; (with_reducible refine (nest_calls x A c _ HA.out.1).mono ?_); rintro e w1 ⟨rfl, hb1⟩) | (go_at_call 67; (with_reducible refine (size_calls x A c _ HS.out (Kd.C_below HA.out.1 hb1)).mono ?_); rintro e w2 ⟨rfl, hb2⟩; have hb12 := below_then hb1 hb1.size hb2) | (go_at_call 68; (with_reducible refine (w68 x A c _ HA.out.2 (Kd.C_below HA.out.1 hb12)).mono ?_); rintro e w3 ⟨rfl, hb3⟩) | fail)
  go_ret
  exact ⟨rfl, below_then hb12 hb12.size hb3⟩
set_option maxRecDepth 100000 in
theorem idem_calls (x : Fac) (w : World) : Calls Tryz.prog 58 #[(.agg #[.int .i64 0, .int .i64 x.t, .int .i64 x.s, .slice none 0 0, .int .i64 0, .slice none 0 0, .int .i64 0, .int .i64 0, .int .i64 0, .string ⟨#[]⟩])] w fun e w' => e = .returned (.bool false) ∧ Below w.heap.size w w' := by
  have hb := Aside0.mk (below_alloc (Below.refl w.heap.size w) (.cells #[.int .i64 0, .int .i64 x.t, .int .i64 x.s, .slice none 0 0, .int .i64 0, .slice none 0 0, .int .i64 0, .int .i64 0, .int .i64 0, .string ⟨#[]⟩] 76))
  go_enter Tryz.func58, Tryz.ntmps58
  go_wp2
  go_ret
  exact ⟨rfl, hb.out⟩
set_option maxRecDepth 100000 in
theorem times_one (w : World) : Calls Tryz.prog 50 #[.int .i64 1, .int .i64 1] w fun e w' => e = .returned (.int .i64 1) ∧ w = w' := by
  go_enter Tryz.func50, Tryz.ntmps50
  go_wp2
  go_ret
  exact ⟨rfl, rfl⟩
set_option maxRecDepth 100000 in
theorem rowValid_calls (t s : Int) (ht : 1 ≤ t) (hs : 1 ≤ s) (w : World) : Calls Tryz.prog 39 #[.agg #[.int .i64 t, .int .i64 s]] w fun e w' => e = .returned (.bool true) ∧ Below w.heap.size w w' := by
  have hb := Aside0.mk (below_alloc (Below.refl w.heap.size w) (.cells #[.int .i64 t, .int .i64 s] 65))
  have d0 : decide (1 ≤ t) = true := decide_eq_true ht
  have d1 : decide (1 ≤ s) = true := decide_eq_true hs
  clear ht hs
  go_enter Tryz.func39, Tryz.ntmps39
  go_wp2
  go_ret
  exact ⟨rfl, hb.out⟩
set_option maxRecDepth 100000 in
theorem idx101_nil (f : Value) (w : World) : Calls Tryz.prog 101 #[.slice none 0 0, f] w fun e w' => e = .returned (.int .i64 (-1)) ∧ w = w' := by
  go_enter Tryz.func101, Tryz.ntmps101
  go_wp2
  go_loopg [5, 8] 0 (fun kq v5 v8 wr => v8 = .int .i64 0 ∧ Aside0 (w = wr))
  case atStart => exact ⟨rfl, ⟨rfl⟩⟩
  case round =>
    obtain ⟨rfl, HV⟩ := hrel
    go_wp2
    go_ret
    exact ⟨rfl, HV.out⟩
set_option maxRecDepth 100000 in
theorem cont78_nil (f : Value) (w : World) : Calls Tryz.prog 78 #[.slice none 0 0, f] w fun e w' => e = .returned (.bool false) ∧ w = w' := by
  go_enter Tryz.func78, Tryz.ntmps78
  go_wp2_with (first | (go_at_call 101; (with_reducible refine (idx101_nil _ _).mono ?_); rintro e w1 ⟨rfl, rfl⟩) | fail)
  go_ret
  exact ⟨rfl, rfl⟩
set_option maxRecDepth 100000 in
theorem cf74_nil (f : Value) (w : World) : Calls Tryz.prog 74 #[.slice none 0 0, .slice none 0 0, f] w fun e w' => e = .returned (.int .i64 0) ∧ w = w' := by
  go_enter Tryz.func74, Tryz.ntmps74
  go_wp2
  go_loopg [7, 8, 9, 10, 13] 0 (fun kq v7 v8 v9 v10 v13 wr => v13 = .int .i64 0 ∧ Aside0 (w = wr))
  case atStart => exact ⟨rfl, ⟨rfl⟩⟩
  case round =>
    obtain ⟨rfl, HV⟩ := hrel
    go_wp2
    go_ret
    exact ⟨rfl, HV.out⟩
set_option maxRecDepth 100000 in
theorem cf76_nil (f : Value) (w : World) : Calls Tryz.prog 76 #[.slice none 0 0, .slice none 0 0, f] w fun e w' => e = .returned (.int .i64 0) ∧ w = w' := by
  go_enter Tryz.func76, Tryz.ntmps76
  go_wp2
  go_loopg [7, 8, 9, 10, 13] 0 (fun kq v7 v8 v9 v10 v13 wr => v13 = .int .i64 0 ∧ Aside0 (w = wr))
  case atStart => exact ⟨rfl, ⟨rfl⟩⟩
  case round =>
    obtain ⟨rfl, HV⟩ := hrel
    go_wp2
    go_ret
    exact ⟨rfl, HV.out⟩
theorem boxA10 {W : World} {g : Nat} {T : TypeId} {x : Fac} (h : W.heap[g]? = some (.cells #[.int .i64 0, .int .i64 x.t, .int .i64 x.s, .slice none 0 0, .int .i64 0, .slice none 0 0, .int .i64 0, .int .i64 0, .int .i64 0, .string ⟨#[]⟩] T (0, 0))) : W.cell? ⟨g, 0, none⟩ = some (.int .i64 0) ∧ W.cell? ⟨g, 1, none⟩ = some (.int .i64 x.t) ∧ W.cell? ⟨g, 2, none⟩ = some (.int .i64 x.s) ∧ W.cell? ⟨g, 3, none⟩ = some (.slice none 0 0) ∧ W.cell? ⟨g, 4, none⟩ = some (.int .i64 0) ∧ W.cell? ⟨g, 5, none⟩ = some (.slice none 0 0) ∧ W.cell? ⟨g, 6, none⟩ = some (.int .i64 0) ∧ W.cell? ⟨g, 7, none⟩ = some (.int .i64 0) ∧ W.cell? ⟨g, 8, none⟩ = some (.int .i64 0) ∧ W.cell? ⟨g, 9, none⟩ = some (.string ⟨#[]⟩) :=
  ⟨(blk_cell h 0).trans rfl, (blk_cell h 1).trans rfl, (blk_cell h 2).trans rfl, (blk_cell h 3).trans rfl, (blk_cell h 4).trans rfl, (blk_cell h 5).trans rfl, (blk_cell h 6).trans rfl, (blk_cell h 7).trans rfl, (blk_cell h 8).trans rfl, (blk_cell h 9).trans rfl⟩
set_option maxRecDepth 100000 in
set_option maxHeartbeats 2000000 in
theorem validAtom_calls (x : Fac) (ht : 1 ≤ x.t) (hs : 1 ≤ x.s) (w : World) : Calls Tryz.prog 60 #[(.agg #[.int .i64 0, .int .i64 x.t, .int .i64 x.s, .slice none 0 0, .int .i64 0, .slice none 0 0, .int .i64 0, .int .i64 0, .int .i64 0, .string ⟨#[]⟩])] w fun e w' => e = .returned (.bool true) ∧ Below w.heap.size w w' := by
  have HX := Aside0.mk (blk_new w (.cells #[.int .i64 0, .int .i64 x.t, .int .i64 x.s, .slice none 0 0, .int .i64 0, .slice none 0 0, .int .i64 0, .int .i64 0, .int .i64 0, .string ⟨#[]⟩] 76))
  have HW := Aside0.mk (below_alloc (Below.refl w.heap.size w) (.cells #[.int .i64 0, .int .i64 x.t, .int .i64 x.s, .slice none 0 0, .int .i64 0, .slice none 0 0, .int .i64 0, .int .i64 0, .int .i64 0, .string ⟨#[]⟩] 76))
  have HT := Aside0.mk (And.intro ht hs)
  clear ht hs
  go_enter Tryz.func60, Tryz.ntmps60
  go_upto_region 1 with (fail)
  obtain ⟨W, hW⟩ : ∃ W : World, w.alloc (.cells #[.int .i64 0, .int .i64 x.t, .int .i64 x.s, .slice none 0 0, .int .i64 0, .slice none 0 0, .int .i64 0, .int .i64 0, .int .i64 0, .string ⟨#[]⟩] 76) = W := ⟨_, rfl⟩
  rw [hW] at HX HW ⊢
  clear hW
  obtain ⟨a0, a1, a2, a3, a4, a5, a6, a7, a8, a9⟩ := boxA10 HX.out
  go_wp2_with (first | (go_at_call 78; (with_reducible refine (cont78_nil _ _).mono ?_); rintro e w1 ⟨rfl, rfl⟩) | (go_at_call 39; (with_reducible refine (rowValid_calls _ _ HT.out.1 HT.out.2 _).mono ?_); rintro e w2 ⟨rfl, hb2⟩; replace a3 := cell_later hb2 a3) | fail)
  go_ret
  exact ⟨rfl, below_then HW.out HW.out.size hb2⟩
theorem ints_new (W : World) (xs : List Int) (hm : xs.length ≤ 9223372036854775807) : Kd.C (Kd.int .i64) (W.alloc (.cells (xs.map (Value.int .i64)).toArray 3)) (some ⟨W.heap.size, 0, none⟩) xs.length xs :=
  Kd.F_now (Kd.N_F (N_lit_at (Kd.int .i64) W.heap.size 3 (xs := xs) (inner := xs.map (Value.int .i64)) (ok := fun _ => True) (okp := fun _ => True) ⟨by simp [Kd.int, Kd.scalar], fun j p hj => by
    have hlt : j < xs.length := (List.getElem?_eq_some_iff.1 hj).1
    have hv := (List.getElem?_eq_some_iff.1 hj).2
    have : ((xs.map (Value.int .i64)).drop (j * 1)).take 1 = [Value.int .i64 p] := by
      rw [Nat.mul_one, ← List.map_drop, List.drop_eq_getElem_cons hlt, hv]
      rfl
    exact fun _ _ => this⟩ (fun _ h => h) trivial (Nat.le_refl _) hm))
def z42' : S42 := ⟨0, 0, ⟨#[]⟩⟩
/-- Two variables compared. -/
def cmpA (x y : Fac) : Int := orI [Lib.compareInt 0 0, Lib.compareInt x.t y.t, Lib.compareInt x.s y.s, 0, Lib.compareInt 0 0, 0, Lib.compareInt 0 0, cmpV ⟨0, 0, ⟨#[]⟩⟩ ⟨0, 0, ⟨#[]⟩⟩]
end Go.Proofs.YtcpngmclhicciaaGreatDoor
/- 'compareAtoms' at two variables. -/
namespace Go.Proofs.YtcpngmclhicciaaGreatDoor
open Go.RowKit Go.Proofs.YtcpngmclhicciaaGreatDoorW.PrintWords PMergejoinGroups
set_option linter.unusedVariables false
set_option linter.unusedSimpArgs false
theorem eight_new (W : World) (a b c d e f g h : Int) : Kd.C (Kd.int .i64) (W.alloc (.cells #[.int .i64 a, .int .i64 b, .int .i64 c, .int .i64 d, .int .i64 e, .int .i64 f, .int .i64 g, .int .i64 h] 3)) (some ⟨W.heap.size, 0, none⟩) 8 [a, b, c, d, e, f, g, h] := ints_new W [a, b, c, d, e, f, g, h] (by simp)
theorem or8_calls (a b c d e f g h : Int) (A : Option Addr) (n : Nat) (w : World) (hC : Kd.C (Kd.int .i64) w A 8 [a, b, c, d, e, f, g, h]) : Calls Tryz.prog 29 #[.slice A 8 n] w fun e' w' => e' = .returned (.int .i64 (orI [a, b, c, d, e, f, g, h])) ∧ w = w' := or_calls [a, b, c, d, e, f, g, h] A n w hC
set_option maxRecDepth 100000 in
set_option maxHeartbeats 4000000 in
theorem cmpA_calls (x y : Fac) (w : World) : Calls Tryz.prog 59 #[(.agg #[.int .i64 0, .int .i64 x.t, .int .i64 x.s, .slice none 0 0, .int .i64 0, .slice none 0 0, .int .i64 0, .int .i64 0, .int .i64 0, .string ⟨#[]⟩]), (.agg #[.int .i64 0, .int .i64 y.t, .int .i64 y.s, .slice none 0 0, .int .i64 0, .slice none 0 0, .int .i64 0, .int .i64 0, .int .i64 0, .string ⟨#[]⟩])] w fun e w' => e = .returned (.int .i64 (cmpA x y)) ∧ Below w.heap.size w w' := by
  have HX := Aside0.mk (blk_alloc (blk_new w (.cells #[.int .i64 0, .int .i64 x.t, .int .i64 x.s, .slice none 0 0, .int .i64 0, .slice none 0 0, .int .i64 0, .int .i64 0, .int .i64 0, .string ⟨#[]⟩] 76)) (.cells #[.int .i64 0, .int .i64 y.t, .int .i64 y.s, .slice none 0 0, .int .i64 0, .slice none 0 0, .int .i64 0, .int .i64 0, .int .i64 0, .string ⟨#[]⟩] 76))
  have HY := Aside0.mk (blk_new1 w (.cells #[.int .i64 0, .int .i64 x.t, .int .i64 x.s, .slice none 0 0, .int .i64 0, .slice none 0 0, .int .i64 0, .int .i64 0, .int .i64 0, .string ⟨#[]⟩] 76) (.cells #[.int .i64 0, .int .i64 y.t, .int .i64 y.s, .slice none 0 0, .int .i64 0, .slice none 0 0, .int .i64 0, .int .i64 0, .int .i64 0, .string ⟨#[]⟩] 76))
  have HW := Aside0.mk (below_alloc (below_alloc (Below.refl w.heap.size w) (.cells #[.int .i64 0, .int .i64 x.t, .int .i64 x.s, .slice none 0 0, .int .i64 0, .slice none 0 0, .int .i64 0, .int .i64 0, .int .i64 0, .string ⟨#[]⟩] 76)) (.cells #[.int .i64 0, .int .i64 y.t, .int .i64 y.s, .slice none 0 0, .int .i64 0, .slice none 0 0, .int .i64 0, .int .i64 0, .int .i64 0, .string ⟨#[]⟩] 76))
  go_enter Tryz.func59, Tryz.ntmps59
  go_upto_region 1 with (fail)
  obtain ⟨W, hW⟩ : ∃ W : World, (w.alloc (.cells #[.int .i64 0, .int .i64 x.t, .int .i64 x.s, .slice none 0 0, .int .i64 0, .slice none 0 0, .int .i64 0, .int .i64 0, .int .i64 0, .string ⟨#[]⟩] 76)).alloc (.cells #[.int .i64 0, .int .i64 y.t, .int .i64 y.s, .slice none 0 0, .int .i64 0, .slice none 0 0, .int .i64 0, .int .i64 0, .int .i64 0, .string ⟨#[]⟩] 76) = W := ⟨_, rfl⟩
  rw [hW] at HX HY HW ⊢
  clear hW
  obtain ⟨a0, a1, a2, a3, a4, a5, a6, a7, a8, a9⟩ := boxA10 HX.out
  obtain ⟨b0, b1, b2, b3, b4, b5, b6, b7, b8, b9⟩ := boxA10 HY.out
  have hba := Aside0.mk (below_drew (Below.refl W.heap.size W))
  go_region_held3 (fun w' => w'.cell? ⟨w.heap.size, 0, none⟩ = some (.int .i64 0) ∧ w'.cell? ⟨w.heap.size, 1, none⟩ = some (.int .i64 x.t) ∧ w'.cell? ⟨w.heap.size, 2, none⟩ = some (.int .i64 x.s) ∧ w'.cell? ⟨w.heap.size, 3, none⟩ = some (.slice none 0 0) ∧ w'.cell? ⟨w.heap.size, 4, none⟩ = some (.int .i64 0) ∧ w'.cell? ⟨w.heap.size, 5, none⟩ = some (.slice none 0 0) ∧ w'.cell? ⟨w.heap.size, 6, none⟩ = some (.int .i64 0) ∧ w'.cell? ⟨w.heap.size, 7, none⟩ = some (.int .i64 0) ∧ w'.cell? ⟨w.heap.size, 8, none⟩ = some (.int .i64 0) ∧ w'.cell? ⟨w.heap.size, 9, none⟩ = some (.string ⟨#[]⟩) ∧ w'.cell? ⟨w.heap.size + 1, 0, none⟩ = some (.int .i64 0) ∧ w'.cell? ⟨w.heap.size + 1, 1, none⟩ = some (.int .i64 y.t) ∧ w'.cell? ⟨w.heap.size + 1, 2, none⟩ = some (.int .i64 y.s) ∧ w'.cell? ⟨w.heap.size + 1, 3, none⟩ = some (.slice none 0 0) ∧ w'.cell? ⟨w.heap.size + 1, 4, none⟩ = some (.int .i64 0) ∧ w'.cell? ⟨w.heap.size + 1, 5, none⟩ = some (.slice none 0 0) ∧ w'.cell? ⟨w.heap.size + 1, 6, none⟩ = some (.int .i64 0) ∧ w'.cell? ⟨w.heap.size + 1, 7, none⟩ = some (.int .i64 0) ∧ w'.cell? ⟨w.heap.size + 1, 8, none⟩ = some (.int .i64 0) ∧ w'.cell? ⟨w.heap.size + 1, 9, none⟩ = some (.string ⟨#[]⟩)) (refine ⟨?_, ?_, ?_, ?_, ?_, ?_, ?_, ?_, ?_, ?_, ?_, ?_, ?_, ?_, ?_, ?_, ?_, ?_, ?_, ?_⟩ <;> (repeat (first | (with_reducible refine cell_al ?_ _) | (with_reducible refine cell_dr ?_) | with_reducible exact a0 | with_reducible exact a1 | with_reducible exact a2 | with_reducible exact a3 | with_reducible exact a4 | with_reducible exact a5 | with_reducible exact a6 | with_reducible exact a7 | with_reducible exact a8 | with_reducible exact a9 | with_reducible exact b0 | with_reducible exact b1 | with_reducible exact b2 | with_reducible exact b3 | with_reducible exact b4 | with_reducible exact b5 | with_reducible exact b6 | with_reducible exact b7 | with_reducible exact b8 | with_reducible exact b9 | with_reducible exact cell_later hc1 a0 | with_reducible exact cell_later hc1 a1 | with_reducible exact cell_later hc1 a2 | with_reducible exact cell_later hc1 a3 | with_reducible exact cell_later hc1 a4 | with_reducible exact cell_later hc1 a5 | with_reducible exact cell_later hc1 a6 | with_reducible exact cell_later hc1 a7 | with_reducible exact cell_later hc1 a8 | with_reducible exact cell_later hc1 a9 | with_reducible exact cell_later hc1 b0 | with_reducible exact cell_later hc1 b1 | with_reducible exact cell_later hc1 b2 | with_reducible exact cell_later hc1 b3 | with_reducible exact cell_later hc1 b4 | with_reducible exact cell_later hc1 b5 | with_reducible exact cell_later hc1 b6 | with_reducible exact cell_later hc1 b7 | with_reducible exact cell_later hc1 b8 | with_reducible exact cell_later hc1 b9))) (first | (go_at_call 30; (with_reducible refine (ci_calls _ _ _).mono ?_); rintro e w' ⟨rfl, rfl⟩) | (go_at_call 74; (with_reducible refine (cf74_nil _ _).mono ?_); rintro e w' ⟨rfl, rfl⟩) | (go_at_call 76; (with_reducible refine (cf76_nil _ _).mono ?_); rintro e w' ⟨rfl, rfl⟩) | (go_at_call 21; (with_reducible refine (vcompare_calls ⟨0, 0, ⟨#[]⟩⟩ ⟨0, 0, ⟨#[]⟩⟩ _).mono ?_); rintro e w1 ⟨rfl, hb1⟩; have hc1 := below_then hba.out hba.out.size hb1) | (go_at_call 29; (with_reducible refine (or8_calls _ _ _ _ _ _ _ _ _ _ _ (eight_new _ _ _ _ _ _ _ _ _)).mono ?_); rintro e w' ⟨rfl, rfl⟩) | fail)
  go_wp2
  go_ret
  exact ⟨ret_i rfl, below_alloc (below_then HW.out HW.out.size hc1) _⟩
end Go.Proofs.YtcpngmclhicciaaGreatDoor
/- 'Valid' at the annotation of a variable. -/
namespace Go.Proofs.YtcpngmclhicciaaGreatDoor
open Go.RowKit Go.Proofs.YtcpngmclhicciaaGreatDoorW.PrintWords PMergejoinGroups
set_option linter.unusedVariables false
set_option linter.unusedSimpArgs false
theorem box11 {W : World} {g : Nat} {T : TypeId} {x : Fac} (h : W.heap[g]? = some (.cells #[.int .i64 0, .int .i64 x.t, .int .i64 x.s, .slice none 0 0, .int .i64 0, .slice none 0 0, .int .i64 0, .int .i64 0, .int .i64 0, .string ⟨#[]⟩, .int .i64 x.e] T (0, 0))) : W.cell? ⟨g, 0, none⟩ = some (.int .i64 0) ∧ W.cell? ⟨g, 1, none⟩ = some (.int .i64 x.t) ∧ W.cell? ⟨g, 2, none⟩ = some (.int .i64 x.s) ∧ W.cell? ⟨g, 3, none⟩ = some (.slice none 0 0) ∧ W.cell? ⟨g, 4, none⟩ = some (.int .i64 0) ∧ W.cell? ⟨g, 5, none⟩ = some (.slice none 0 0) ∧ W.cell? ⟨g, 6, none⟩ = some (.int .i64 0) ∧ W.cell? ⟨g, 7, none⟩ = some (.int .i64 0) ∧ W.cell? ⟨g, 8, none⟩ = some (.int .i64 0) ∧ W.cell? ⟨g, 9, none⟩ = some (.string ⟨#[]⟩) ∧ W.cell? ⟨g, 10, none⟩ = some (.int .i64 x.e) :=
  ⟨(blk_cell h 0).trans rfl, (blk_cell h 1).trans rfl, (blk_cell h 2).trans rfl, (blk_cell h 3).trans rfl, (blk_cell h 4).trans rfl, (blk_cell h 5).trans rfl, (blk_cell h 6).trans rfl, (blk_cell h 7).trans rfl, (blk_cell h 8).trans rfl, (blk_cell h 9).trans rfl, (blk_cell h 10).trans rfl⟩
theorem at_F1 {w : World} {A : Option Addr} {x : Fac} (h : Kd.C kF w A 1 [x]) : ∃ ad, A = some ad ∧ CellsF w ad x := by
  obtain ⟨ad, e, hc⟩ := at_F h 0 (Int.le_refl _) (by decide)
  refine ⟨ad, e, ?_⟩
  have e0 : ad.add ((0 : Int).toNat * 11) = ad := by obtain ⟨b, o, k⟩ := ad; rfl
  rw [e0] at hc
  exact hc
structure OkF (x : Fac) : Prop where
  t : 1 ≤ x.t
  s : 1 ≤ x.s
  e0 : 1 ≤ x.e
  e1 : x.e ≤ 64
theorem OkF.small {x : Fac} (h : OkF x) : Small [x] := ⟨by simp, fun y hy => by rw [List.mem_singleton.1 hy]; exact h.e1⟩
set_option maxRecDepth 100000 in
set_option maxHeartbeats 4000000 in
theorem valid_calls (f : Fac) (hf : OkF f) (A : Option Addr) (c : Nat) (w : World) (hA : Kd.C kT w A 1 [⟨1, [f]⟩]) : Calls Tryz.prog 49 #[.slice A 1 c] w fun e w' => e = .returned (.bool true) ∧ Below w.heap.size w w' := by
  have HAA := Aside0.mk hA
  obtain ⟨ad, A1, c1, rfl, x0, x1, l0, g0⟩ := at_T1 hA
  obtain ⟨fd, e1, hc⟩ := at_F1 (x := f) g0
  have e1' : A1 = some fd := e1
  subst e1'
  have x1' : w.cell? ⟨ad.block, ad.off + 1, none⟩ = some (.slice (some fd) 1 c1) := x1
  have HA := Aside0.mk (And.intro hc (And.intro x0 (And.intro x1' (And.intro hf g0))))
  have HS := Aside0.mk hf.small
  clear hA x0 x1 x1' g0 hc l0 e1
  go_enter Tryz.func49, Tryz.ntmps49
  go_wp2_with (first | (go_at_call 56; (with_reducible refine (within_calls ⟨1, [f]⟩ (some ad) c _ HS.out HAA.out).mono ?_); rintro e w1 ⟨rfl, hb1⟩; have HB1 := Aside0.mk hb1; clear hb1) | fail)
  go_loopg [3, 4, 5, 6, 12, 42] 2 (fun kq v3 v4 v5 v6 v12 v42 wr => ∃ i : Int, v12 = .int .i64 i ∧ Aside0 ((i = 0 ∨ i = 1) ∧ kq = 2 - i.toNat) ∧ Aside0 (Below w.heap.size w wr))
  case atStart => exact ⟨0, rfl, ⟨by omega, by omega⟩, HB1⟩
  case round =>
    clear HB1
    obtain ⟨i, rfl, HI, HW⟩ := hrel
    obtain ⟨i0, i1⟩ := HI.out
    rcases i0 with rfl | rfl
    · have x0 := cell_later HW.out HA.out.2.1
      have x1 := cell_later HW.out HA.out.2.2.1
      clear i1
      go_upto_region 6 with (fail)
      have HX := Aside0.mk (blk_new wr (.cells #[.int .i64 1, .slice (some fd) 1 c1] 73))
      have HW2 := Aside0.mk (below_alloc HW.out (.cells #[.int .i64 1, .slice (some fd) 1 c1] 73))
      obtain ⟨g, hg⟩ : ∃ g, wr.heap.size = g := ⟨_, rfl⟩
      obtain ⟨W2, hW2⟩ : ∃ W2 : World, wr.alloc (.cells #[.int .i64 1, .slice (some fd) 1 c1] 73) = W2 := ⟨_, rfl⟩
      rw [hW2] at HX HW2 ⊢
      rw [hg] at HX ⊢
      clear hW2 hg x0 x1
      obtain ⟨b0, b1⟩ := box2 HX.out
      go_quiet (fail)
      go_upto_region 8 with (fail)
      have hba := pw_below_drewN (Below.refl W2.heap.size W2) nq
      obtain ⟨W3, hW3⟩ : ∃ W3 : World, W2.drewN nq = W3 := ⟨_, rfl⟩
      rw [hW3] at hba ⊢
      clear hW3
      have HX3 := Aside0.mk (blk_below HX.out hba)
      have HW3 := Aside0.mk (below_then HW2.out HW2.out.size hba)
      clear hba b0 b1
      obtain ⟨b0, b1⟩ := box2 HX3.out
      go_wp2_with fail
      clear b0 b1
      go_loopg [5, 6, 42] 2 (fun kq v5 v6 v42 wi => ∃ j : Int, v42 = .int .i64 j ∧ Aside0 ((j = 0 ∨ j = 1) ∧ kq = 2 - j.toNat) ∧ Aside0 (Below w.heap.size w wi))
      case atStart => exact ⟨0, rfl, ⟨by omega, by omega⟩, HW3⟩
      case round =>
        obtain ⟨j, rfl, HJ, HV⟩ := hrel
        obtain ⟨wo, rfl⟩ : ∃ wo : World, wo = wr := ⟨_, rfl⟩
        obtain ⟨j0, j1⟩ := HJ.out
        rcases j0 with rfl | rfl
        · clear j1
          have HV2 := Aside0.mk (below_alloc HV.out (.cells #[.int .i64 0, .int .i64 f.t, .int .i64 f.s, .slice none 0 0, .int .i64 0, .slice none 0 0, .int .i64 0, .int .i64 0, .int .i64 0, .string ⟨#[]⟩, .int .i64 f.e] 78))
          have HY2 := Aside0.mk (blk_new wo (.cells #[.int .i64 0, .int .i64 f.t, .int .i64 f.s, .slice none 0 0, .int .i64 0, .slice none 0 0, .int .i64 0, .int .i64 0, .int .i64 0, .string ⟨#[]⟩, .int .i64 f.e] 78))
          obtain ⟨a0, a1, a2, a3, a4, a5, a6, a7, a8, a9, a10⟩ := HA.out.1.later HV.out
          go_upto_region 11 with (fail)
          clear a0 a1 a2 a3 a4 a5 a6 a7 a8 a9 a10
          obtain ⟨g2, hg2⟩ : ∃ g, wo.heap.size = g := ⟨_, rfl⟩
          obtain ⟨W4, hW4⟩ : ∃ W2 : World, wo.alloc (.cells #[.int .i64 0, .int .i64 f.t, .int .i64 f.s, .slice none 0 0, .int .i64 0, .slice none 0 0, .int .i64 0, .int .i64 0, .int .i64 0, .string ⟨#[]⟩, .int .i64 f.e] 78) = W2 := ⟨_, rfl⟩
          rw [hW4] at HV2 HY2 ⊢
          rw [hg2] at HY2 ⊢
          clear hW4 hg2
          obtain ⟨a0, a1, a2, a3, a4, a5, a6, a7, a8, a9, a10⟩ := box11 HY2.out
          have d0 : decide (f.e < 1) = false := decide_eq_false (by have := HA.out.2.2.2.1.e0; omega)
          have HT := Aside0.mk (And.intro HA.out.2.2.2.1.t HA.out.2.2.2.1.s)
          have hba := Aside0.mk (below_drew (Below.refl W4.heap.size W4))
          refine wp_region_held_drew (S := (fun w' => w'.cell? ⟨g2, 0, none⟩ = some (.int .i64 0) ∧ w'.cell? ⟨g2, 1, none⟩ = some (.int .i64 f.t) ∧ w'.cell? ⟨g2, 2, none⟩ = some (.int .i64 f.s) ∧ w'.cell? ⟨g2, 3, none⟩ = some (.slice none 0 0) ∧ w'.cell? ⟨g2, 4, none⟩ = some (.int .i64 0) ∧ w'.cell? ⟨g2, 5, none⟩ = some (.slice none 0 0) ∧ w'.cell? ⟨g2, 6, none⟩ = some (.int .i64 0) ∧ w'.cell? ⟨g2, 7, none⟩ = some (.int .i64 0) ∧ w'.cell? ⟨g2, 8, none⟩ = some (.int .i64 0) ∧ w'.cell? ⟨g2, 9, none⟩ = some (.string ⟨#[]⟩) ∧ w'.cell? ⟨g2, 10, none⟩ = some (.int .i64 f.e))) (by kernel_rfl) (by first | (refine ⟨?_, ?_, ?_, ?_, ?_, ?_, ?_, ?_, ?_, ?_, ?_⟩ <;> (repeat (first | (with_reducible refine cell_dr ?_) | with_reducible exact a0 | with_reducible exact a1 | with_reducible exact a2 | with_reducible exact a3 | with_reducible exact a4 | with_reducible exact a5 | with_reducible exact a6 | with_reducible exact a7 | with_reducible exact a8 | with_reducible exact a9 | with_reducible exact a10 | with_reducible exact cell_later hc2 a0 | with_reducible exact cell_later hc2 a1 | with_reducible exact cell_later hc2 a2 | with_reducible exact cell_later hc2 a3 | with_reducible exact cell_later hc2 a4 | with_reducible exact cell_later hc2 a5 | with_reducible exact cell_later hc2 a6 | with_reducible exact cell_later hc2 a7 | with_reducible exact cell_later hc2 a8 | with_reducible exact cell_later hc2 a9 | with_reducible exact cell_later hc2 a10 | with_reducible exact cell_later hc1 a0 | with_reducible exact cell_later hc1 a1 | with_reducible exact cell_later hc1 a2 | with_reducible exact cell_later hc1 a3 | with_reducible exact cell_later hc1 a4 | with_reducible exact cell_later hc1 a5 | with_reducible exact cell_later hc1 a6 | with_reducible exact cell_later hc1 a7 | with_reducible exact cell_later hc1 a8 | with_reducible exact cell_later hc1 a9 | with_reducible exact cell_later hc1 a10))) | fail) (fun hHeld => ?_)
          refine wpAnyH_take (i := 0) (v := ?_) (by (simp only [List.getElem?_toArray, List.getElem?_cons_zero, List.getElem?_cons_succ]); rfl) (by kernel_rfl) (by kernel_rfl) (by kernel_rfl) (by exact fun _ _ _ h => h) (Or.inl ⟨by rfl, by (intro w hSw; (try dsimp only at hSw); go_simp; (try with_reducible rfl))⟩) (by assumption) ?_
          try simp only [Act.put, List.setIfInBounds_toArray, List.set_cons_zero, List.set_cons_succ]
          refine wpAnyH_take (i := 1) (v := ?_) (by (simp only [List.getElem?_toArray, List.getElem?_cons_zero, List.getElem?_cons_succ]); rfl) (by kernel_rfl) (by kernel_rfl) (by kernel_rfl) (by exact fun _ _ _ h => h) (Or.inl ⟨by rfl, by (intro w hSw; (try dsimp only at hSw); go_simp; (try with_reducible rfl))⟩) (by assumption) ?_
          try simp only [Act.put, List.setIfInBounds_toArray, List.set_cons_zero, List.set_cons_succ]
          refine wpAnyH_take (i := 2) (v := ?_) (by (simp only [List.getElem?_toArray, List.getElem?_cons_zero, List.getElem?_cons_succ]); rfl) (by kernel_rfl) (by kernel_rfl) (by kernel_rfl) (by exact fun _ _ _ h => h) (Or.inl ⟨by rfl, by (intro w hSw; (try dsimp only at hSw); go_simp; (try with_reducible rfl))⟩) (by assumption) ?_
          try simp only [Act.put, List.setIfInBounds_toArray, List.set_cons_zero, List.set_cons_succ]
          refine wpAnyH_take (i := 3) (v := ?_) (by (simp only [List.getElem?_toArray, List.getElem?_cons_zero, List.getElem?_cons_succ]); rfl) (by kernel_rfl) (by kernel_rfl) (by kernel_rfl) (by exact fun _ _ _ h => h) (Or.inl ⟨by rfl, by (intro w hSw; (try dsimp only at hSw); go_simp; (try with_reducible rfl))⟩) (by assumption) ?_
          try simp only [Act.put, List.setIfInBounds_toArray, List.set_cons_zero, List.set_cons_succ]
          refine wpAnyH_take (i := 4) (v := ?_) (by (simp only [List.getElem?_toArray, List.getElem?_cons_zero, List.getElem?_cons_succ]); rfl) (by kernel_rfl) (by kernel_rfl) (by kernel_rfl) (by exact fun _ _ _ h => h) (Or.inl ⟨by rfl, by (intro w hSw; (try dsimp only at hSw); go_simp; (try with_reducible rfl))⟩) (by assumption) ?_
          try simp only [Act.put, List.setIfInBounds_toArray, List.set_cons_zero, List.set_cons_succ]
          refine wpAnyH_take (i := 5) (v := ?_) (by (simp only [List.getElem?_toArray, List.getElem?_cons_zero, List.getElem?_cons_succ]); rfl) (by kernel_rfl) (by kernel_rfl) (by kernel_rfl) (by exact fun _ _ _ h => h) (Or.inl ⟨by rfl, by (intro w hSw; (try dsimp only at hSw); go_simp; (try with_reducible rfl))⟩) (by assumption) ?_
          try simp only [Act.put, List.setIfInBounds_toArray, List.set_cons_zero, List.set_cons_succ]
          refine wpAnyH_ready (rs := [6]) (by kernel_rfl) (by simp) ?_
          refine AllReadyH.cons (by (simp only [List.getElem?_toArray, List.getElem?_cons_zero, List.getElem?_cons_succ]); rfl) (fun K hK => ?_) AllReadyH.nil
          go_simp
          go_at_call 58; (with_reducible refine (idem_calls f _).mono ?_); rintro e w1 ⟨rfl, hb1⟩; have hc1 := below_then hba.out hba.out.size hb1
          refine hK.out _ _ (by first | (refine ⟨?_, ?_, ?_, ?_, ?_, ?_, ?_, ?_, ?_, ?_, ?_⟩ <;> (repeat (first | (with_reducible refine cell_dr ?_) | with_reducible exact a0 | with_reducible exact a1 | with_reducible exact a2 | with_reducible exact a3 | with_reducible exact a4 | with_reducible exact a5 | with_reducible exact a6 | with_reducible exact a7 | with_reducible exact a8 | with_reducible exact a9 | with_reducible exact a10 | with_reducible exact cell_later hc2 a0 | with_reducible exact cell_later hc2 a1 | with_reducible exact cell_later hc2 a2 | with_reducible exact cell_later hc2 a3 | with_reducible exact cell_later hc2 a4 | with_reducible exact cell_later hc2 a5 | with_reducible exact cell_later hc2 a6 | with_reducible exact cell_later hc2 a7 | with_reducible exact cell_later hc2 a8 | with_reducible exact cell_later hc2 a9 | with_reducible exact cell_later hc2 a10 | with_reducible exact cell_later hc1 a0 | with_reducible exact cell_later hc1 a1 | with_reducible exact cell_later hc1 a2 | with_reducible exact cell_later hc1 a3 | with_reducible exact cell_later hc1 a4 | with_reducible exact cell_later hc1 a5 | with_reducible exact cell_later hc1 a6 | with_reducible exact cell_later hc1 a7 | with_reducible exact cell_later hc1 a8 | with_reducible exact cell_later hc1 a9 | with_reducible exact cell_later hc1 a10))) | fail) (fun hHeld2 => ?_)
          clear hK K hHeld
          have hHeld := hHeld2
          clear hHeld2
          try simp only [Act.put, List.setIfInBounds_toArray, List.set_cons_zero, List.set_cons_succ]
          refine wpAnyH_take (i := 7) (v := ?_) (by (simp only [List.getElem?_toArray, List.getElem?_cons_zero, List.getElem?_cons_succ]); rfl) (by kernel_rfl) (by kernel_rfl) (by kernel_rfl) (by exact fun _ _ _ h => h) (Or.inl ⟨by rfl, by (intro w hSw; (try dsimp only at hSw); go_simp; (try with_reducible rfl))⟩) (by assumption) ?_
          try simp only [Act.put, List.setIfInBounds_toArray, List.set_cons_zero, List.set_cons_succ]
          refine wpAnyH_take (i := 8) (v := undef) (by (simp only [List.getElem?_toArray, List.getElem?_cons_zero, List.getElem?_cons_succ]); rfl) (by kernel_rfl) (by kernel_rfl) (by kernel_rfl) (by exact fun _ _ _ h => h) (Or.inr ⟨by rfl, rfl⟩) (by assumption) ?_
          try simp only [Act.put, List.setIfInBounds_toArray, List.set_cons_zero, List.set_cons_succ]
          refine wpAnyH_take (i := 9) (v := undef) (by (simp only [List.getElem?_toArray, List.getElem?_cons_zero, List.getElem?_cons_succ]); rfl) (by kernel_rfl) (by kernel_rfl) (by kernel_rfl) (by exact fun _ _ _ h => h) (Or.inr ⟨by rfl, rfl⟩) (by assumption) ?_
          try simp only [Act.put, List.setIfInBounds_toArray, List.set_cons_zero, List.set_cons_succ]
          refine wpAnyH_take (i := 10) (v := undef) (by (simp only [List.getElem?_toArray, List.getElem?_cons_zero, List.getElem?_cons_succ]); rfl) (by kernel_rfl) (by kernel_rfl) (by kernel_rfl) (by exact fun _ _ _ h => h) (Or.inr ⟨by rfl, rfl⟩) (by assumption) ?_
          try simp only [Act.put, List.setIfInBounds_toArray, List.set_cons_zero, List.set_cons_succ]
          refine wpAnyH_take (i := 11) (v := ?_) (by (simp only [List.getElem?_toArray, List.getElem?_cons_zero, List.getElem?_cons_succ]); rfl) (by kernel_rfl) (by kernel_rfl) (by kernel_rfl) (by exact fun _ _ _ h => h) (Or.inl ⟨by rfl, by (intro w hSw; (try dsimp only at hSw); go_simp; (try with_reducible rfl))⟩) (by assumption) ?_
          try simp only [Act.put, List.setIfInBounds_toArray, List.set_cons_zero, List.set_cons_succ]
          refine wpAnyH_take (i := 12) (v := ?_) (by (simp only [List.getElem?_toArray, List.getElem?_cons_zero, List.getElem?_cons_succ]); rfl) (by kernel_rfl) (by kernel_rfl) (by kernel_rfl) (by exact fun _ _ _ h => h) (Or.inl ⟨by rfl, by (intro w hSw; (try dsimp only at hSw); go_simp; (try with_reducible rfl))⟩) (by assumption) ?_
          try simp only [Act.put, List.setIfInBounds_toArray, List.set_cons_zero, List.set_cons_succ]
          refine wpAnyH_take (i := 13) (v := ?_) (by (simp only [List.getElem?_toArray, List.getElem?_cons_zero, List.getElem?_cons_succ]); rfl) (by kernel_rfl) (by kernel_rfl) (by kernel_rfl) (by exact fun _ _ _ h => h) (Or.inl ⟨by rfl, by (intro w hSw; (try dsimp only at hSw); go_simp; (try with_reducible rfl))⟩) (by assumption) ?_
          try simp only [Act.put, List.setIfInBounds_toArray, List.set_cons_zero, List.set_cons_succ]
          refine wpAnyH_take (i := 14) (v := ?_) (by (simp only [List.getElem?_toArray, List.getElem?_cons_zero, List.getElem?_cons_succ]); rfl) (by kernel_rfl) (by kernel_rfl) (by kernel_rfl) (by exact fun _ _ _ h => h) (Or.inl ⟨by rfl, by (intro w hSw; (try dsimp only at hSw); go_simp; (try with_reducible rfl))⟩) (by assumption) ?_
          try simp only [Act.put, List.setIfInBounds_toArray, List.set_cons_zero, List.set_cons_succ]
          refine wpAnyH_take (i := 15) (v := ?_) (by (simp only [List.getElem?_toArray, List.getElem?_cons_zero, List.getElem?_cons_succ]); rfl) (by kernel_rfl) (by kernel_rfl) (by kernel_rfl) (by exact fun _ _ _ h => h) (Or.inl ⟨by rfl, by (intro w hSw; (try dsimp only at hSw); go_simp; (try with_reducible rfl))⟩) (by assumption) ?_
          try simp only [Act.put, List.setIfInBounds_toArray, List.set_cons_zero, List.set_cons_succ]
          refine wpAnyH_take (i := 16) (v := ?_) (by (simp only [List.getElem?_toArray, List.getElem?_cons_zero, List.getElem?_cons_succ]); rfl) (by kernel_rfl) (by kernel_rfl) (by kernel_rfl) (by exact fun _ _ _ h => h) (Or.inl ⟨by rfl, by (intro w hSw; (try dsimp only at hSw); go_simp; (try with_reducible rfl))⟩) (by assumption) ?_
          try simp only [Act.put, List.setIfInBounds_toArray, List.set_cons_zero, List.set_cons_succ]
          refine wpAnyH_take (i := 17) (v := undef) (by (simp only [List.getElem?_toArray, List.getElem?_cons_zero, List.getElem?_cons_succ]); rfl) (by kernel_rfl) (by kernel_rfl) (by kernel_rfl) (by exact fun _ _ _ h => h) (Or.inr ⟨by rfl, rfl⟩) (by assumption) ?_
          try simp only [Act.put, List.setIfInBounds_toArray, List.set_cons_zero, List.set_cons_succ]
          refine wpAnyH_take (i := 18) (v := undef) (by (simp only [List.getElem?_toArray, List.getElem?_cons_zero, List.getElem?_cons_succ]); rfl) (by kernel_rfl) (by kernel_rfl) (by kernel_rfl) (by exact fun _ _ _ h => h) (Or.inr ⟨by rfl, rfl⟩) (by assumption) ?_
          try simp only [Act.put, List.setIfInBounds_toArray, List.set_cons_zero, List.set_cons_succ]
          refine wpAnyH_take (i := 19) (v := undef) (by (simp only [List.getElem?_toArray, List.getElem?_cons_zero, List.getElem?_cons_succ]); rfl) (by kernel_rfl) (by kernel_rfl) (by kernel_rfl) (by exact fun _ _ _ h => h) (Or.inr ⟨by rfl, rfl⟩) (by assumption) ?_
          try simp only [Act.put, List.setIfInBounds_toArray, List.set_cons_zero, List.set_cons_succ]
          refine wpAnyH_take (i := 20) (v := undef) (by (simp only [List.getElem?_toArray, List.getElem?_cons_zero, List.getElem?_cons_succ]); rfl) (by kernel_rfl) (by kernel_rfl) (by kernel_rfl) (by exact fun _ _ _ h => h) (Or.inr ⟨by rfl, rfl⟩) (by assumption) ?_
          try simp only [Act.put, List.setIfInBounds_toArray, List.set_cons_zero, List.set_cons_succ]
          refine wpAnyH_take (i := 21) (v := undef) (by (simp only [List.getElem?_toArray, List.getElem?_cons_zero, List.getElem?_cons_succ]); rfl) (by kernel_rfl) (by kernel_rfl) (by kernel_rfl) (by exact fun _ _ _ h => h) (Or.inr ⟨by rfl, rfl⟩) (by assumption) ?_
          try simp only [Act.put, List.setIfInBounds_toArray, List.set_cons_zero, List.set_cons_succ]
          refine wpAnyH_take (i := 22) (v := undef) (by (simp only [List.getElem?_toArray, List.getElem?_cons_zero, List.getElem?_cons_succ]); rfl) (by kernel_rfl) (by kernel_rfl) (by kernel_rfl) (by exact fun _ _ _ h => h) (Or.inr ⟨by rfl, rfl⟩) (by assumption) ?_
          try simp only [Act.put, List.setIfInBounds_toArray, List.set_cons_zero, List.set_cons_succ]
          refine wpAnyH_take (i := 23) (v := undef) (by (simp only [List.getElem?_toArray, List.getElem?_cons_zero, List.getElem?_cons_succ]); rfl) (by kernel_rfl) (by kernel_rfl) (by kernel_rfl) (by exact fun _ _ _ h => h) (Or.inr ⟨by rfl, rfl⟩) (by assumption) ?_
          try simp only [Act.put, List.setIfInBounds_toArray, List.set_cons_zero, List.set_cons_succ]
          refine wpAnyH_take (i := 24) (v := undef) (by (simp only [List.getElem?_toArray, List.getElem?_cons_zero, List.getElem?_cons_succ]); rfl) (by kernel_rfl) (by kernel_rfl) (by kernel_rfl) (by exact fun _ _ _ h => h) (Or.inr ⟨by rfl, rfl⟩) (by assumption) ?_
          try simp only [Act.put, List.setIfInBounds_toArray, List.set_cons_zero, List.set_cons_succ]
          refine wpAnyH_take (i := 25) (v := undef) (by (simp only [List.getElem?_toArray, List.getElem?_cons_zero, List.getElem?_cons_succ]); rfl) (by kernel_rfl) (by kernel_rfl) (by kernel_rfl) (by exact fun _ _ _ h => h) (Or.inr ⟨by rfl, rfl⟩) (by assumption) ?_
          try simp only [Act.put, List.setIfInBounds_toArray, List.set_cons_zero, List.set_cons_succ]
          refine wpAnyH_take (i := 26) (v := undef) (by (simp only [List.getElem?_toArray, List.getElem?_cons_zero, List.getElem?_cons_succ]); rfl) (by kernel_rfl) (by kernel_rfl) (by kernel_rfl) (by exact fun _ _ _ h => h) (Or.inr ⟨by rfl, rfl⟩) (by assumption) ?_
          try simp only [Act.put, List.setIfInBounds_toArray, List.set_cons_zero, List.set_cons_succ]
          refine wpAnyH_take (i := 27) (v := undef) (by (simp only [List.getElem?_toArray, List.getElem?_cons_zero, List.getElem?_cons_succ]); rfl) (by kernel_rfl) (by kernel_rfl) (by kernel_rfl) (by exact fun _ _ _ h => h) (Or.inr ⟨by rfl, rfl⟩) (by assumption) ?_
          try simp only [Act.put, List.setIfInBounds_toArray, List.set_cons_zero, List.set_cons_succ]
          refine wpAnyH_take (i := 28) (v := ?_) (by (simp only [List.getElem?_toArray, List.getElem?_cons_zero, List.getElem?_cons_succ]); rfl) (by kernel_rfl) (by kernel_rfl) (by kernel_rfl) (by exact fun _ _ _ h => h) (Or.inl ⟨by rfl, by (intro w hSw; (try dsimp only at hSw); go_simp; (try with_reducible rfl))⟩) (by assumption) ?_
          try simp only [Act.put, List.setIfInBounds_toArray, List.set_cons_zero, List.set_cons_succ]
          refine wpAnyH_take (i := 29) (v := ?_) (by (simp only [List.getElem?_toArray, List.getElem?_cons_zero, List.getElem?_cons_succ]); rfl) (by kernel_rfl) (by kernel_rfl) (by kernel_rfl) (by exact fun _ _ _ h => h) (Or.inl ⟨by rfl, by (intro w hSw; (try dsimp only at hSw); go_simp; (try with_reducible rfl))⟩) (by assumption) ?_
          try simp only [Act.put, List.setIfInBounds_toArray, List.set_cons_zero, List.set_cons_succ]
          refine wpAnyH_take (i := 30) (v := ?_) (by (simp only [List.getElem?_toArray, List.getElem?_cons_zero, List.getElem?_cons_succ]); rfl) (by kernel_rfl) (by kernel_rfl) (by kernel_rfl) (by exact fun _ _ _ h => h) (Or.inl ⟨by rfl, by (intro w hSw; (try dsimp only at hSw); go_simp; (try with_reducible rfl))⟩) (by assumption) ?_
          try simp only [Act.put, List.setIfInBounds_toArray, List.set_cons_zero, List.set_cons_succ]
          refine wpAnyH_take (i := 31) (v := ?_) (by (simp only [List.getElem?_toArray, List.getElem?_cons_zero, List.getElem?_cons_succ]); rfl) (by kernel_rfl) (by kernel_rfl) (by kernel_rfl) (by exact fun _ _ _ h => h) (Or.inl ⟨by rfl, by (intro w hSw; (try dsimp only at hSw); go_simp; (try with_reducible rfl))⟩) (by assumption) ?_
          try simp only [Act.put, List.setIfInBounds_toArray, List.set_cons_zero, List.set_cons_succ]
          refine wpAnyH_take (i := 32) (v := ?_) (by (simp only [List.getElem?_toArray, List.getElem?_cons_zero, List.getElem?_cons_succ]); rfl) (by kernel_rfl) (by kernel_rfl) (by kernel_rfl) (by exact fun _ _ _ h => h) (Or.inl ⟨by rfl, by (intro w hSw; (try dsimp only at hSw); go_simp; (try with_reducible rfl))⟩) (by assumption) ?_
          try simp only [Act.put, List.setIfInBounds_toArray, List.set_cons_zero, List.set_cons_succ]
          refine wpAnyH_ready (rs := [33]) (by kernel_rfl) (by simp) ?_
          refine AllReadyH.cons (by (simp only [List.getElem?_toArray, List.getElem?_cons_zero, List.getElem?_cons_succ]); rfl) (fun K hK => ?_) AllReadyH.nil
          go_simp
          go_at_call 60; (with_reducible refine (validAtom_calls f HT.out.1 HT.out.2 _).mono ?_); rintro e w2 ⟨rfl, hb2⟩; have hc2 := below_then hc1 hc1.size hb2
          refine hK.out _ _ (by first | (refine ⟨?_, ?_, ?_, ?_, ?_, ?_, ?_, ?_, ?_, ?_, ?_⟩ <;> (repeat (first | (with_reducible refine cell_dr ?_) | with_reducible exact a0 | with_reducible exact a1 | with_reducible exact a2 | with_reducible exact a3 | with_reducible exact a4 | with_reducible exact a5 | with_reducible exact a6 | with_reducible exact a7 | with_reducible exact a8 | with_reducible exact a9 | with_reducible exact a10 | with_reducible exact cell_later hc2 a0 | with_reducible exact cell_later hc2 a1 | with_reducible exact cell_later hc2 a2 | with_reducible exact cell_later hc2 a3 | with_reducible exact cell_later hc2 a4 | with_reducible exact cell_later hc2 a5 | with_reducible exact cell_later hc2 a6 | with_reducible exact cell_later hc2 a7 | with_reducible exact cell_later hc2 a8 | with_reducible exact cell_later hc2 a9 | with_reducible exact cell_later hc2 a10 | with_reducible exact cell_later hc1 a0 | with_reducible exact cell_later hc1 a1 | with_reducible exact cell_later hc1 a2 | with_reducible exact cell_later hc1 a3 | with_reducible exact cell_later hc1 a4 | with_reducible exact cell_later hc1 a5 | with_reducible exact cell_later hc1 a6 | with_reducible exact cell_later hc1 a7 | with_reducible exact cell_later hc1 a8 | with_reducible exact cell_later hc1 a9 | with_reducible exact cell_later hc1 a10))) | fail) (fun hHeld2 => ?_)
          clear hK K hHeld
          have hHeld := hHeld2
          clear hHeld2
          try simp only [Act.put, List.setIfInBounds_toArray, List.set_cons_zero, List.set_cons_succ]
          refine wpAnyH_take (i := 34) (v := ?_) (by (simp only [List.getElem?_toArray, List.getElem?_cons_zero, List.getElem?_cons_succ]); rfl) (by kernel_rfl) (by kernel_rfl) (by kernel_rfl) (by exact fun _ _ _ h => h) (Or.inl ⟨by rfl, by (intro w hSw; (try dsimp only at hSw); go_simp; (try with_reducible rfl))⟩) (by assumption) ?_
          try simp only [Act.put, List.setIfInBounds_toArray, List.set_cons_zero, List.set_cons_succ]
          refine wpAnyH_take (i := 35) (v := ?_) (by (simp only [List.getElem?_toArray, List.getElem?_cons_zero, List.getElem?_cons_succ]); rfl) (by kernel_rfl) (by kernel_rfl) (by kernel_rfl) (by exact fun _ _ _ h => h) (Or.inl ⟨by rfl, by (intro w hSw; (try dsimp only at hSw); go_simp; (try with_reducible rfl))⟩) (by assumption) ?_
          try simp only [Act.put, List.setIfInBounds_toArray, List.set_cons_zero, List.set_cons_succ]
          refine wpAnyH_done (by kernel_rfl) ?_ _
          have HV5 := Aside0.mk (below_then HV2.out HV2.out.size hc2)
          clear hc1 hc2 hb1 hb2 a0 a1 a2 a3 a4 a5 a6 a7 a8 a9 a10
          go_wp2
          go_roundg 1
          case measure => have := HJ.out.2; omega
          case rel => exact ⟨1, rfl, ⟨by omega, by omega⟩, HV5⟩
        · clear j1
          go_wp2
          go_roundg 1
          case measure => have := HI.out.2; omega
          case rel => exact ⟨1, rfl, ⟨by omega, by omega⟩, HV⟩
    · clear i1
      go_wp2
      go_ret
      exact ⟨rfl, HW.out⟩
end Go.Proofs.YtcpngmclhicciaaGreatDoor
/- 'single', 'Var', 'rows'. -/
namespace Go.Proofs.YtcpngmclhicciaaGreatDoor
open Go.RowKit Go.Proofs.YtcpngmclhicciaaGreatDoorW.PrintWords PMergejoinGroups
set_option linter.unusedVariables false
set_option linter.unusedSimpArgs false
/-- A block that holds the cells of one element is a row of it. -/
theorem C_one {α : Type} {d : Kd α} {w : World} {g : Nat} {cs : Array Value} {T : TypeId} {x : α} (h : w.heap[g]? = some (.cells cs T (0, 0))) (hK : d.K w x cs.toList) : Kd.C d w (some ⟨g, 0, none⟩) 1 [x] := by
  refine ⟨rfl, by decide, fun _ => ⟨⟨g, 0, none⟩, rfl, fun j p hj => ?_⟩⟩
  have hj0 : j = 0 := by have := (List.getElem?_eq_some_iff.1 hj).1; simp at this; exact this
  subst hj0
  have hp : x = p := by simpa using hj
  subst hp
  refine ⟨cs.toList, d.K_len hK, hK, fun i u hu => ?_⟩
  have h1 := blk_cell h i
  have e1 : (⟨g, 0, none⟩ : Addr).add (0 * d.sz + i) = ⟨g, i, none⟩ := by
    rw [Nat.zero_mul, Nat.zero_add]
    unfold Addr.add
    split
    · rename_i hi; rw [hi]
    · simp
  rw [e1, h1]
  simpa using hu
def AnnPost (x : Tm) (w : World) (e : Ending) (w' : World) : Prop := ∃ A c, e = .returned (.slice A 1 c) ∧ 1 ≤ c ∧ Kd.C kT w' A 1 [x] ∧ Below w.heap.size w w'
set_option maxRecDepth 100000 in
theorem single_calls (x : Fac) (he : x.e = 1) (w : World) : Calls Tryz.prog 40 #[(.agg #[.int .i64 0, .int .i64 x.t, .int .i64 x.s, .slice none 0 0, .int .i64 0, .slice none 0 0, .int .i64 0, .int .i64 0, .int .i64 0, .string ⟨#[]⟩])] w (AnnPost ⟨1, [x]⟩ w) := by
  obtain ⟨t, s, e⟩ := x
  have he' : e = 1 := he
  subst he'
  go_enter Tryz.func40, Tryz.ntmps40
  go_wp2
  go_ret
  obtain ⟨W1, hW1⟩ : ∃ W1 : World, w.alloc (.cells #[.int .i64 0, .int .i64 t, .int .i64 s, .slice none 0 0, .int .i64 0, .slice none 0 0, .int .i64 0, .int .i64 0, .int .i64 0, .string ⟨#[]⟩] 76) = W1 := ⟨_, rfl⟩
  have hb := below_alloc (Below.refl w.heap.size w) (.cells #[.int .i64 0, .int .i64 t, .int .i64 s, .slice none 0 0, .int .i64 0, .slice none 0 0, .int .i64 0, .int .i64 0, .int .i64 0, .string ⟨#[]⟩] 76)
  have hs : W1.heap.size = w.heap.size + 1 := by rw [← hW1, World.size_alloc]
  rw [hW1] at hb ⊢
  clear hW1
  rw [← hs]
  have h1 := C_one (d := kF) (x := ⟨t, s, 1⟩) (blk_alloc (blk_new W1 (.cells #[.int .i64 0, .int .i64 t, .int .i64 s, .slice none 0 0, .int .i64 0, .slice none 0 0, .int .i64 0, .int .i64 0, .int .i64 0, .string ⟨#[]⟩, .int .i64 1] 78)) (.cells #[.int .i64 1, .slice (some ⟨W1.heap.size, 0, none⟩) 1 1] 73)) rfl
  have h2 := C_one (d := kT) (x := ⟨1, [⟨t, s, 1⟩]⟩) (blk_new1 W1 (.cells #[.int .i64 0, .int .i64 t, .int .i64 s, .slice none 0 0, .int .i64 0, .slice none 0 0, .int .i64 0, .int .i64 0, .int .i64 0, .string ⟨#[]⟩, .int .i64 1] 78) (.cells #[.int .i64 1, .slice (some ⟨W1.heap.size, 0, none⟩) 1 1] 73)) (kT_mk _ ⟨1, [⟨t, s, 1⟩]⟩ (c := 1) (by simp) h1)
  exact ⟨_, 1, rfl, Nat.le_refl _, h2, below_alloc (below_alloc hb _) _⟩
set_option maxRecDepth 100000 in
theorem clone105_nil (w : World) : Calls Tryz.prog 105 #[.slice none 0 0] w fun e w' => e = .returned (.slice none 0 0) ∧ w = w' := by
  have hq : ∀ wx : World, (binOp .eql 57 (.slice none 0 0) (.slice none 0 0)).run Tryz.prog wx = .ok (.bool true) wx := fun wx => run_eql_nil_slice wx 57 31 none 0 0 0 0 Tryz.underlying57
  go_enter Tryz.func105, Tryz.ntmps105
  go_wp2
  go_ret
  exact ⟨rfl, rfl⟩
set_option maxRecDepth 100000 in
theorem clone106_nil (w : World) : Calls Tryz.prog 106 #[.slice none 0 0] w fun e w' => e = .returned (.slice none 0 0) ∧ w = w' := by
  have hq : ∀ wx : World, (binOp .eql 74 (.slice none 0 0) (.slice none 0 0)).run Tryz.prog wx = .ok (.bool true) wx := fun wx => run_eql_nil_slice wx 74 80 none 0 0 0 0 Tryz.underlying74
  go_enter Tryz.func106, Tryz.ntmps106
  go_wp2
  go_ret
  exact ⟨rfl, rfl⟩
set_option maxRecDepth 100000 in
theorem var_calls (t s : Int) (ht : 1 ≤ t) (hs : 1 ≤ s) (w : World) : Calls Tryz.prog 27 #[.agg #[.int .i64 t, .int .i64 s]] w (AnnPost ⟨1, [⟨t, s, 1⟩]⟩ w) := by
  have HX := Aside0.mk (blk_new w (.cells #[.int .i64 t, .int .i64 s] 65))
  have HW := Aside0.mk (below_alloc (Below.refl w.heap.size w) (.cells #[.int .i64 t, .int .i64 s] 65))
  have HT := Aside0.mk (And.intro ht hs)
  clear ht hs
  go_enter Tryz.func27, Tryz.ntmps27
  go_upto_region 1 with (fail)
  obtain ⟨W, hW⟩ : ∃ W : World, w.alloc (.cells #[.int .i64 t, .int .i64 s] 65) = W := ⟨_, rfl⟩
  rw [hW] at HX HW ⊢
  clear hW
  obtain ⟨a0, a1⟩ := box2 HX.out
  go_wp2_with (first | (go_at_call 39; (with_reducible refine (rowValid_calls t s HT.out.1 HT.out.2 _).mono ?_); rintro e w1 ⟨rfl, hb1⟩; replace a0 := cell_later hb1 a0; replace a1 := cell_later hb1 a1) | (go_at_call 40; refine (single_calls ⟨t, s, 1⟩ rfl _).mono ?_; rintro e w2 ⟨A2, c2, rfl, l2, g2, hb2⟩) | fail)
  go_ret
  exact ⟨A2, c2, rfl, l2, g2, below_then HW.out HW.out.size (below_then hb1 hb1.size hb2)⟩
end Go.Proofs.YtcpngmclhicciaaGreatDoor
/- 'copiedAtom' at a variable. -/
namespace Go.Proofs.YtcpngmclhicciaaGreatDoor
open Go.RowKit Go.Proofs.YtcpngmclhicciaaGreatDoorW.PrintWords PMergejoinGroups
set_option linter.unusedVariables false
set_option linter.unusedSimpArgs false
set_option maxRecDepth 100000 in
set_option maxHeartbeats 4000000 in
theorem copyA_calls (x : Fac) (w : World) : Calls Tryz.prog 90 #[(.agg #[.int .i64 0, .int .i64 x.t, .int .i64 x.s, .slice none 0 0, .int .i64 0, .slice none 0 0, .int .i64 0, .int .i64 0, .int .i64 0, .string ⟨#[]⟩])] w fun e w' => e = .returned (.agg #[.int .i64 0, .int .i64 x.t, .int .i64 x.s, .slice none 0 0, .int .i64 0, .slice none 0 0, .int .i64 0, .int .i64 0, .int .i64 0, .string ⟨#[]⟩]) ∧ Below w.heap.size w w' := by
  have HX := Aside0.mk (blk_alloc (blk_new w (.cells #[.int .i64 0, .int .i64 x.t, .int .i64 x.s, .slice none 0 0, .int .i64 0, .slice none 0 0, .int .i64 0, .int .i64 0, .int .i64 0, .string ⟨#[]⟩] 76)) (.cells #[.int .i64 0, .int .i64 0, .int .i64 0, .slice none 0 0, .int .i64 0, .slice none 0 0, .int .i64 0, .int .i64 0, .int .i64 0, .string ⟨#[]⟩] 76))
  have HY := Aside0.mk (blk_new1 w (.cells #[.int .i64 0, .int .i64 x.t, .int .i64 x.s, .slice none 0 0, .int .i64 0, .slice none 0 0, .int .i64 0, .int .i64 0, .int .i64 0, .string ⟨#[]⟩] 76) (.cells #[.int .i64 0, .int .i64 0, .int .i64 0, .slice none 0 0, .int .i64 0, .slice none 0 0, .int .i64 0, .int .i64 0, .int .i64 0, .string ⟨#[]⟩] 76))
  have HW := Aside0.mk (below_alloc (below_alloc (Below.refl w.heap.size w) (.cells #[.int .i64 0, .int .i64 x.t, .int .i64 x.s, .slice none 0 0, .int .i64 0, .slice none 0 0, .int .i64 0, .int .i64 0, .int .i64 0, .string ⟨#[]⟩] 76)) (.cells #[.int .i64 0, .int .i64 0, .int .i64 0, .slice none 0 0, .int .i64 0, .slice none 0 0, .int .i64 0, .int .i64 0, .int .i64 0, .string ⟨#[]⟩] 76))
  go_enter Tryz.func90, Tryz.ntmps90
  go_upto_region 1 with (fail)
  obtain ⟨W, hW⟩ : ∃ W : World, (w.alloc (.cells #[.int .i64 0, .int .i64 x.t, .int .i64 x.s, .slice none 0 0, .int .i64 0, .slice none 0 0, .int .i64 0, .int .i64 0, .int .i64 0, .string ⟨#[]⟩] 76)).alloc (.cells #[.int .i64 0, .int .i64 0, .int .i64 0, .slice none 0 0, .int .i64 0, .slice none 0 0, .int .i64 0, .int .i64 0, .int .i64 0, .string ⟨#[]⟩] 76) = W := ⟨_, rfl⟩
  rw [hW] at HX HY HW ⊢
  clear hW
  obtain ⟨a0, a1, a2, a3, a4, a5, a6, a7, a8, a9⟩ := boxA10 HX.out
  have f3 := blk_frozen HX.out 3
  go_upto_region 2 with (first | (go_at_call 105; (with_reducible refine (clone105_nil _).mono ?_); rintro e w1 ⟨rfl, rfl⟩) | fail)
  clear a0 a1 a2 a3 a4 a5 a6 a7 a8 a9 f3
  have HX2 := Aside0.mk (show (W.setCell ⟨w.heap.size, 3, none⟩ (.slice none 0 0)).heap[w.heap.size]? = some (.cells #[.int .i64 0, .int .i64 x.t, .int .i64 x.s, .slice none 0 0, .int .i64 0, .slice none 0 0, .int .i64 0, .int .i64 0, .int .i64 0, .string ⟨#[]⟩] 76 (0, 0)) from blk_set HX.out 3 (.slice none 0 0))
  have HY2 := Aside0.mk (show (W.setCell ⟨w.heap.size, 3, none⟩ (.slice none 0 0)).heap[w.heap.size + 1]? = some (.cells #[.int .i64 0, .int .i64 0, .int .i64 0, .slice none 0 0, .int .i64 0, .slice none 0 0, .int .i64 0, .int .i64 0, .int .i64 0, .string ⟨#[]⟩] 76 (0, 0)) from blk_far HY.out (p := ⟨w.heap.size, 3, none⟩) (by simp) (.slice none 0 0))
  have HW2 := Aside0.mk (HW.out.setCell (p := ⟨w.heap.size, 3, none⟩) (Nat.le_refl _) (.slice none 0 0))
  obtain ⟨W2, hW2⟩ : ∃ W2 : World, W.setCell ⟨w.heap.size, 3, none⟩ (.slice none 0 0) = W2 := ⟨_, rfl⟩
  rw [hW2] at HX2 HY2 HW2 ⊢
  clear hW2
  have a3 := (boxA10 HX2.out).2.2.2.1
  go_wp2_with fail
  clear a3
  go_loopg [3, 12] 0 (fun kq v3 v12 wr => v12 = .int .i64 0 ∧ Aside0 (W2 = wr))
  case atStart => exact ⟨rfl, ⟨rfl⟩⟩
  case round =>
    obtain ⟨rfl, HV⟩ := hrel
    obtain rfl := HV.out
    obtain ⟨a0, a1, a2, a3, a4, a5, a6, a7, a8, a9⟩ := boxA10 HX2.out
    have f5 := blk_frozen HX2.out 5
    go_upto_region 8 with (first | (go_at_call 106; (with_reducible refine (clone106_nil _).mono ?_); rintro e w1 ⟨rfl, rfl⟩) | fail)
    clear a0 a1 a2 a3 a4 a5 a6 a7 a8 a9 f5
    have HX3 := Aside0.mk (show (W2.setCell ⟨w.heap.size, 5, none⟩ (.slice none 0 0)).heap[w.heap.size]? = some (.cells #[.int .i64 0, .int .i64 x.t, .int .i64 x.s, .slice none 0 0, .int .i64 0, .slice none 0 0, .int .i64 0, .int .i64 0, .int .i64 0, .string ⟨#[]⟩] 76 (0, 0)) from blk_set HX2.out 5 (.slice none 0 0))
    have HY3 := Aside0.mk (show (W2.setCell ⟨w.heap.size, 5, none⟩ (.slice none 0 0)).heap[w.heap.size + 1]? = some (.cells #[.int .i64 0, .int .i64 0, .int .i64 0, .slice none 0 0, .int .i64 0, .slice none 0 0, .int .i64 0, .int .i64 0, .int .i64 0, .string ⟨#[]⟩] 76 (0, 0)) from blk_far HY2.out (p := ⟨w.heap.size, 5, none⟩) (by simp) (.slice none 0 0))
    have HW3 := Aside0.mk (HW2.out.setCell (p := ⟨w.heap.size, 5, none⟩) (Nat.le_refl _) (.slice none 0 0))
    obtain ⟨W3, hW3⟩ : ∃ W3 : World, W2.setCell ⟨w.heap.size, 5, none⟩ (.slice none 0 0) = W3 := ⟨_, rfl⟩
    rw [hW3] at HX3 HY3 HW3 ⊢
    clear hW3
    have a5 := (boxA10 HX3.out).2.2.2.2.2.1
    go_wp2_with fail
    clear a5
    go_loopg [4, 33] 0 (fun kq v4 v33 wr => v33 = .int .i64 0 ∧ Aside0 (W3 = wr))
    case atStart => exact ⟨rfl, ⟨rfl⟩⟩
    case round =>
      obtain ⟨rfl, HV⟩ := hrel
      obtain rfl := HV.out
      obtain ⟨a0, a1, a2, a3, a4, a5, a6, a7, a8, a9⟩ := boxA10 HX3.out
      go_wp2_with (first | (refine put_event (g := w.heap.size + 1) (vs := [.int .i64 0, .int .i64 x.t, .int .i64 x.s, .slice none 0 0, .int .i64 0, .slice none 0 0, .int .i64 0, .int .i64 0, .int .i64 0, .string ⟨#[]⟩]) rfl rfl rfl HY3.out rfl rfl rfl (by kernel_rfl) (by (intro q hq; simp only [List.mem_cons, List.not_mem_nil, or_false] at hq; rcases hq with rfl | rfl | rfl | rfl | rfl | rfl | rfl | rfl | rfl | rfl <;> rfl)) ?_; intro W4 hx4 hp4) | fail)
      exact bodyPost_ret (results_cell_row rfl _ _ (w.heap.size + 1) 76 #[.int .i64 0, .int .i64 x.t, .int .i64 x.s, .slice none 0 0, .int .i64 0, .slice none 0 0, .int .i64 0, .int .i64 0, .int .i64 0, .string ⟨#[]⟩] (0, 0) _ rfl hx4 Tryz.underlying76 rfl (by kernel_rfl)) rfl ⟨rfl, hp4.below HW3.out (by omega)⟩
end Go.Proofs.YtcpngmclhicciaaGreatDoor
/- 'slices.Clone' of factors. -/
namespace Go.Proofs.YtcpngmclhicciaaGreatDoor
open Go.RowKit Go.Proofs.YtcpngmclhicciaaGreatDoorW.PrintWords PMergejoinGroups
set_option linter.unusedVariables false
set_option linter.unusedSimpArgs false
theorem kF_F {w : World} {A : Option Addr} {n : Nat} {xs : List Fac} (h : Kd.C kF w A n xs) : Kd.F kF w (fun k => k < w.heap.size) A n xs := fun W' hW => by
  refine ⟨h.1, h.2.1, fun hp => ?_⟩
  obtain ⟨ad, e, hc⟩ := h.2.2 hp
  refine ⟨ad, e, fun j p hj => ?_⟩
  obtain ⟨c, h1, h2, h3⟩ := hc j p hj
  refine ⟨c, h1, h2, fun i u hu => ?_⟩
  have h4 := h3 i u hu
  have hlt := World.block_lt_of_cell? w _ h4
  rw [World.cell?_of_block (hW _ hlt hlt)]
  exact h4
theorem info78 : (Tryz.prog.info? 78).map (fun i => (i.zero, i.size, i.bytes)) = some (some (.agg #[.int .i64 0, .int .i64 0, .int .i64 0, .slice none 0 0, .int .i64 0, .slice none 0 0, .int .i64 0, .int .i64 0, .int .i64 0, .string ⟨#[]⟩, .int .i64 0]), 11, 128) := by kernel_rfl
def FacsPost (fs : List Fac) (w : World) (e : Ending) (w' : World) : Prop := ∃ A c, e = .returned (.slice A fs.length c) ∧ fs.length ≤ c ∧ Kd.C kF w' A fs.length fs ∧ Below w.heap.size w w'
set_option maxRecDepth 100000 in
set_option maxHeartbeats 1000000 in
theorem cloneF_calls (fs : List Fac) (ad : Addr) (c : Nat) (w : World) (hl : fs.length ≤ 64) (hA : Kd.C kF w (some ad) fs.length fs) : Calls Tryz.prog 89 #[.slice (some ad) fs.length c] w (FacsPost fs w) := by
  have hq : ∀ wx : World, (binOp .eql 71 (.slice (some ad) fs.length c) (.slice none 0 0)).run Tryz.prog wx = .ok (.bool false) wx := fun wx => Lib.run_eql_slice_nil wx 71 78 (some ad) fs.length c 0 0 Tryz.underlying71
  have HF := Aside0.mk (Kd.F_below (kF_F hA) (below_alloc (Below.refl w.heap.size w) (.cells #[] 78)))
  have HT := Aside0.mk (T_made (d := kF) (e := 78) (base := w.heap.size) (E := fun _ => False) (w := w) (xs := []) (Nat.le_refl _) (by simp) (fun k h => h.elim) (Reps.none _ _))
  have HB := Aside0.mk (below_alloc (Below.refl w.heap.size w) (.cells #[] 78))
  have HL := Aside0.mk hl
  clear hA hl
  go_enter Tryz.func89, Tryz.ntmps89
  have HN := Aside0.mk (Kd.N_mono HT.out.1 (ok' := fun _ => True) (fun _ _ => trivial))
  have HK := Aside0.mk (show ∀ k, k < w.heap.size → True ∧ some k ≠ (Value.slice (some ⟨w.heap.size, 0, none⟩) 0 0).ownBlock from fun k hk => ⟨trivial, by simp [Value.ownBlock]; omega⟩)
  go_wp2_with (first | (refine Kd.N_append_rows kF (w0 := w) w.heap.size rfl (.tmp 5) (.tmp 6) 71 78 (.agg #[.int .i64 0, .int .i64 0, .int .i64 0, .slice none 0 0, .int .i64 0, .slice none 0 0, .int .i64 0, .int .i64 0, .int .i64 0, .string ⟨#[]⟩, .int .i64 0]) 128 rfl Tryz.underlying71 info78 rfl (by decide) (by omega) (.slice (some ⟨w.heap.size, 0, none⟩) 0 0) [] fs (some ad) fs.length c (fun _ => True) (fun k => k < w.heap.size) rfl rfl HN.out HF.out HK.out (fun _ _ => trivial) HB.out HB.out.size (by have := HL.out; simp; omega) ?_; intro v1 w3 hN1 hb1 hg1 hat1; obtain ⟨A1, c1, rfl, l1, g1⟩ := Kd.N_reads hN1) | fail)
  go_ret
  exact ⟨A1, c1, rfl, l1, g1, hb1⟩
end Go.Proofs.YtcpngmclhicciaaGreatDoor
