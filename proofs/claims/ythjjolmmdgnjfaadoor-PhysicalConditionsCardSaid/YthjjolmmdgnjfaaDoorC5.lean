/- The law's 'op', and its examples ('awake'). -/
import Derived.Test.YthjjolmmdgnjfaaDoorC4
namespace Go.Proofs.YthjjolmmdgnjfaaDoor
open Go.RowKit Go.Proofs.YthjjolmmdgnjfaaDoorW.PrintWords PPhysicalConditions
set_option linter.unusedVariables false
def colS (i : Int) : S26 := ⟨1, i, z23, 0, []⟩
def numS (k : Int) : S26 := ⟨0, 0, ⟨0, k, ⟨#[]⟩⟩, 0, []⟩
def opS (code : Int) (a b : S26) : S26 := ⟨2, 0, z23, code, [a, b]⟩
theorem F_nil (W : World) (P : Nat → Prop) : Kd.F k26 W P none 0 [] := fun W' _ => Kd.C_nil _ _
set_option maxRecDepth 100000 in
theorem op_calls (code : Int) (x y : S26) (A B : Option Addr) (c d : Nat) (P : Nat → Prop) (w : World) (hc : x.f4.length ≤ c) (hd : y.f4.length ≤ d) (hF : Kd.F k26 w P A x.f4.length x.f4) (hG : Kd.F k26 w P B y.f4.length y.f4) :
    Calls Tryd.prog 15 #[.int .i64 code, Ag x A c, Ag y B d] w (TreePost w P (opS code x y)) := by
  have HB := Aside0.mk (below_alloc (below_alloc (below_alloc (Below.refl w.heap.size w) (.cells (Cs x A c) 26)) (.cells (Cs y B d) 26)) (.cells ZA 26))
  have HX := Aside0.mk (blk_alloc (blk_alloc (blk_new w (.cells (Cs x A c) 26)) (.cells (Cs y B d) 26)) (.cells ZA 26))
  have HY := Aside0.mk (show (((w.alloc (.cells (Cs x A c) 26)).alloc (.cells (Cs y B d) 26)).alloc (.cells ZA 26)).heap[w.heap.size + 1]? = some (.cells (Cs y B d) 26 (0, 0)) by
    have := blk_new (w.alloc (.cells (Cs x A c) 26)) (.cells (Cs y B d) 26)
    rw [World.size_alloc] at this
    exact blk_alloc this _)
  have HZ := Aside0.mk (show (((w.alloc (.cells (Cs x A c) 26)).alloc (.cells (Cs y B d) 26)).alloc (.cells ZA 26)).heap[w.heap.size + 1 + 1]? = some (.cells ZA 26 (0, 0)) by
    have := blk_new ((w.alloc (.cells (Cs x A c) 26)).alloc (.cells (Cs y B d) 26)) (.cells ZA 26)
    rwa [World.size_alloc, World.size_alloc] at this)
  have HS := Aside0.mk (show (((w.alloc (.cells (Cs x A c) 26)).alloc (.cells (Cs y B d) 26)).alloc (.cells ZA 26)).heap.size = w.heap.size + 3 by simp only [World.size_alloc])
  have HF := Aside0.mk (show x.f4.length ≤ c ∧ Kd.F k26 (((w.alloc (.cells (Cs x A c) 26)).alloc (.cells (Cs y B d) 26)).alloc (.cells ZA 26)) (fun k => (P k ∧ k < w.heap.size) ∨ w.heap.size + 3 ≤ k) A x.f4.length x.f4 from ⟨hc, Kd.F_mono (Kd.F_alloc (Kd.F_alloc (Kd.F_alloc (Kd.F_bound hF) _) _) _) (fun _ h => .inl h)⟩)
  have HG := Aside0.mk (show y.f4.length ≤ d ∧ Kd.F k26 (((w.alloc (.cells (Cs x A c) 26)).alloc (.cells (Cs y B d) 26)).alloc (.cells ZA 26)) (fun k => (P k ∧ k < w.heap.size) ∨ w.heap.size + 3 ≤ k) B y.f4.length y.f4 from ⟨hd, Kd.F_mono (Kd.F_alloc (Kd.F_alloc (Kd.F_alloc (Kd.F_bound hG) _) _) _) (fun _ h => .inl h)⟩)
  clear hc hd hF hG
  go_enter Tryd.func15, Tryd.ntmps15
  go_upto_region 1 with (fail)
  obtain ⟨W0, hW0⟩ : ∃ W0 : World, ((w.alloc (.cells (Cs x A c) 26)).alloc (.cells (Cs y B d) 26)).alloc (.cells ZA 26) = W0 := ⟨_, rfl⟩
  rw [hW0] at HB HX HY HZ HS HF HG ⊢
  clear hW0
  obtain ⟨a0, a1, a2, a3, a4, a5, a6⟩ := box7 HX.out
  obtain ⟨b0, b1, b2, b3, b4, b5, b6⟩ := box7 HY.out
  go_wp2_with (first | (refine put7_event (g := w.heap.size + 1 + 1) rfl rfl rfl (blk_alloc HZ.out _) rfl rfl rfl ?_; intro W3 hx3 hp3) | fail)
  have hF4 := two_made HF.out HG.out (.inr (by have := HS.out; omega))
  exact bodyPost_ret (results_cell_row rfl _ _ (w.heap.size + 1 + 1) 26 (Cs (opS code x y) (some ⟨W0.heap.size, 0, none⟩) 2) (0, 0) _ rfl hx3 Tryd.underlying26 rfl (by kernel_rfl)) rfl ⟨some ⟨W0.heap.size, 0, none⟩, 2, rfl, Nat.le_refl _, Kd.F_mono (hp3.F hF4 (fun k hk => by rcases hk with hk | hk <;> omega)) (fun k hk => hk.imp (fun h => h.1) (fun h => by omega)), hp3.below (below_alloc HB.out _) (by omega)⟩
theorem not_tru {x : S26} (h : x.f0 ≠ 0) : eqS x tru = false := eqS_false.2 (fun e => h (by rw [e]; rfl))
theorem conj_and (n : Nat) (a b : S26) : conjN (n + 1) (and2 a b) = conjN n a ++ conjN n b := by
  have h := not_tru (x := and2 a b) (by simp [and2])
  simp only [conjN, h]
  simp [and2, rd_T26]
theorem conj_leaf (n : Nat) (x : S26) (h0 : x.f0 = 2) (h3 : x.f3 ≠ 11) : conjN (n + 1) x = [x] := by
  have h := not_tru (x := x) (by rw [h0]; decide)
  simp only [conjN, h]
  simp [h3]
def aCond : S26 := and2 (opS 5 (colS 0) (colS 3)) (opS 7 (colS 1) (colS 2))
def bCond : S26 := and2 (opS 5 (colS 1) (numS 5)) (opS 9 (colS 0) (numS 2))
theorem aConj : conjN 30 aCond = [opS 5 (colS 0) (colS 3), opS 7 (colS 1) (colS 2)] := by
  rw [aCond, conj_and 29, conj_leaf 28 _ rfl (by decide), conj_leaf 28 _ rfl (by decide)]; rfl
theorem bConj : conjN 30 bCond = [opS 5 (colS 1) (numS 5), opS 9 (colS 0) (numS 2)] := by
  rw [bCond, conj_and 29, conj_leaf 28 _ rfl (by decide), conj_leaf 28 _ rfl (by decide)]; rfl
theorem aKeys : lsF 2 (conjN 30 aCond) = [0] ∧ rsF 2 (conjN 30 aCond) = [1] ∧ andL (restF 2 (conjN 30 aCond)) = opS 7 (colS 1) (colS 2) := by
  rw [aConj]
  have h1 : keyF (opS 5 (colS 0) (colS 3)) 2 = some (0, 1) := by decide +kernel
  have h2 : keyF (opS 7 (colS 1) (colS 2)) 2 = none := by decide
  simp [lsF, rsF, restF, keysF, h1, h2, andL]
theorem bBnds : bndA (findP ((conjN 30 bCond).filterMap cmpF)) [1, 0] [] [] = ([⟨0, 5, ⟨#[]⟩⟩, ⟨0, 2, ⟨#[]⟩⟩], [⟨0, 5, ⟨#[]⟩⟩]) := by
  rw [bConj]
  have h1 : cmpF (opS 5 (colS 1) (numS 5)) = some ⟨1, 5, ⟨0, 5, ⟨#[]⟩⟩⟩ := by rfl
  have h2 : cmpF (opS 9 (colS 0) (numS 2)) = some ⟨0, 9, ⟨0, 2, ⟨#[]⟩⟩⟩ := by rfl
  simp [h1, h2]
  rfl
theorem okA : okT bCond := by simp [bCond, and2, opS, colS, numS, okT, okT.okL]
end Go.Proofs.YthjjolmmdgnjfaaDoor
