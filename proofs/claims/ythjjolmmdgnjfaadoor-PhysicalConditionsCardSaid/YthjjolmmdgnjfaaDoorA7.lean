/- 'cloneScalar' gives a tree's copy in memory of its own. -/
import Derived.Test.YthjjolmmdgnjfaaDoorA6
namespace Go.Proofs.YthjjolmmdgnjfaaDoor
open Go.RowKit Go.Proofs.YthjjolmmdgnjfaaDoorW.PrintWords PPhysicalConditions
set_option linter.unusedVariables false

section
variable {P : Program} {ops : Array Oper} {rest : List Oper} {o : Oper} {a : Act} {Q : Exit → Act → World → Prop}
/-- One cell of a block of one's own is written. -/
theorem put1_event {W : World} (hgd : o.guard = none) (hN : o.dst = none) {t : TypeId} {p x : Operand} (ho : o.op = .store t p x) {g j : Nat} {cs : Array Value} {v : Value} {T : TypeId}
    (hb : W.heap[g]? = some (.cells cs T (0, 0))) (hp : a.eval p = .pointer (some ⟨g, j, none⟩)) (hv : (a.eval x).cells.toList = [v]) (hs : j + 1 ≤ cs.size) (ht : (P.info? t).map (·.size) = some 1) (h1 : v.oneCell' = true)
    (h : ∀ W1, W1.heap[g]? = some (.cells (cs.setIfInBounds j v) T (0, 0)) → Put W g W1 → wpList P ops Q rest a W1) : wpList P ops Q (o :: rest) a W := by
  have h2 := blk_set hb j v
  obtain ⟨h4, h5, h6, h7⟩ := setCells_same g [v] j W
  have h3 : Put W g (W.setCell ⟨g, j, none⟩ v) := ⟨h4, h5, h6, h7, fun i hi => setCells_far [v] j i hi⟩
  have hrun : (Instr.storeAt t (.pointer (some ⟨g, j, none⟩)) (a.eval x)).run P W = .ok () (W.setCell ⟨g, j, none⟩ v) := run_store_run (P := P) (o := j) t (a.eval x) [v] hb hv ht hs (by simpa using h1)
  refine wpList_plain hgd fun K hK => ?_
  unfold Oper.wp execOp
  simp only [ho, hp, Sem.run_bind, Sem.run_pure, Result.andThen_ok, hrun]
  show K (a.put o.dst undef) _
  rw [hN]
  exact hK a _ (h _ h2 h3)
end
def CloneOk (n : Nat) : Prop := ∀ (x : S26) (A : Option Addr) (c : Nat) (w : World), sz x ≤ n → n ≤ 1000000 → x.f4.length ≤ c → k26.C w A x.f4.length x.f4 → Calls Tryd.prog 21 #[Ag x A c] w (TreePost w (fun _ => False) x)
set_option maxRecDepth 100000 in
set_option maxHeartbeats 2000000 in
theorem clone_step (n : Nat) (IH : Aside0 (CloneOk n)) : CloneOk (n + 1) := by
  intro x A c w hn hm hc hA
  have HN := Aside0.mk hn
  have HM := Aside0.mk (show n ≤ 1000000 by omega)
  have hm : x.f4.length ≤ 9223372036854775807 := hA.2.1
  have HA := Aside0.mk hA
  have HC := Aside0.mk hc
  clear hn hA hc
  go_enter Tryd.func21, Tryd.ntmps21
  go_upto_region 2 with (fail)
  have HB0 := Aside0.mk (below_alloc (below_alloc (Below.refl w.heap.size w) (.cells (Cs x A c) 26)) (.cells ZA 26))
  have HX0 := Aside0.mk (blk_alloc (blk_new w (.cells (Cs x A c) 26)) (.cells ZA 26))
  have HY0 := Aside0.mk (show ((w.alloc (.cells (Cs x A c) 26)).alloc (.cells ZA 26)).heap[w.heap.size + 1]? = some (.cells ZA 26 (0, 0)) by
    have := blk_new (w.alloc (.cells (Cs x A c) 26)) (.cells ZA 26)
    rwa [World.size_alloc] at this)
  have HS0 := Aside0.mk (show ((w.alloc (.cells (Cs x A c) 26)).alloc (.cells ZA 26)).heap.size = w.heap.size + 2 by rw [World.size_alloc, World.size_alloc])
  obtain ⟨W0, hW0⟩ : ∃ W0 : World, (w.alloc (.cells (Cs x A c) 26)).alloc (.cells ZA 26) = W0 := ⟨_, rfl⟩
  rw [hW0] at HB0 HX0 HY0 HS0 ⊢
  clear hW0
  obtain ⟨a0, a1, a2, a3, a4, a5, a6⟩ := box7 HX0.out
  go_wp2
  clear a0 a1 a2 a3 a4 a5 a6
  go_loopg [3, 9] (x.f4.length + 1) (fun kq v3 v9 wr => ∃ i : Int, v9 = .int .i64 i ∧ Aside0 (0 ≤ i ∧ i ≤ x.f4.length ∧ kq = x.f4.length + 1 - i.toNat) ∧ Aside0 (Below w.heap.size w wr ∧ w.heap.size + 2 ≤ wr.heap.size) ∧ Aside0 (wr.heap[w.heap.size]? = some (.cells (Cs x A c) 26 (0, 0))) ∧ Aside0 (wr.heap[w.heap.size + 1]? = some (.cells ZA 26 (0, 0))) ∧ Aside0 (Kd.N k26 26 wr w.heap.size (fun k => w.heap.size + 2 ≤ k) v3 (x.f4.take i.toNat)))
  case atStart => exact ⟨0, rfl, ⟨by omega, by omega, by omega⟩, ⟨HB0.out, by have := HS0.out; omega⟩, HX0, HY0, ⟨Kd.N_nil _ _ _ _ _⟩⟩
  case round =>
    clear HB0 HX0 HY0 HS0
    obtain ⟨i, rfl, HI, HB, HX, HY, HO⟩ := hrel
    obtain ⟨i0, i1, i2⟩ := HI.out
    by_cases hlt : i < x.f4.length
    · have hb0 : decide (i < (x.f4.length : Int)) = true := decide_eq_true hlt
      obtain ⟨ad, A6, c6, e, x0, x1, x2, x3, x4, x5, x6, l6, g6⟩ := at26 HB.out.1 HA.out i i0 hlt
      subst e
      have HR := Aside0.mk (And.intro (rd_mem i0 hlt) (take_rd i0 hlt))
      have HK := Aside0.mk (And.intro l6 g6)
      have HL := Aside0.mk (show ((x.f4.take i.toNat).length + 1) * 80 ≤ 140737488355328 by
        have h1 := HN.out; have h2 := HM.out; have h3 := sz_len x
        rw [List.length_take]; omega)
      clear l6 g6 i1 i2
      obtain ⟨y, hy⟩ : ∃ y, rd_T26 x.f4 i = y := ⟨_, rfl⟩
      rw [hy] at x0 x1 x2 x3 x4 x5 x6 HR HK
      clear hy
      replace hlt := eq_true hlt
      replace i0 := eq_true i0
      go_upto_region 5 with (fail)
      clear x0 x1 x2 x3 x4 x5 x6
      have HB2 := Aside0.mk (And.intro (below_alloc HB.out.1 (.cells (Cs y A6 c6) 26)) (show w.heap.size + 2 ≤ (wr.alloc (.cells (Cs y A6 c6) 26)).heap.size by rw [World.size_alloc]; have := HB.out.2; omega))
      have HX2 := Aside0.mk (blk_alloc HX.out (.cells (Cs y A6 c6) 26))
      have HY2 := Aside0.mk (blk_alloc HY.out (.cells (Cs y A6 c6) 26))
      have HZ2 := Aside0.mk (blk_new wr (.cells (Cs y A6 c6) 26))
      have HO2 := Aside0.mk (Kd.N_alloc HO.out (.cells (Cs y A6 c6) 26))
      obtain ⟨W2, hW2⟩ : ∃ W2 : World, wr.alloc (.cells (Cs y A6 c6) 26) = W2 := ⟨_, rfl⟩
      rw [hW2] at HB2 HX2 HY2 HZ2 HO2 ⊢
      clear hW2
      obtain ⟨b0, b1, b2, b3, b4, b5, b6⟩ := box7 HZ2.out
      go_wp2_with (first | (go_at_call 21; refine (IH.out y A6 c6 _ (by have := sz_mem HR.out.1; have := HN.out; omega) HM.out HK.out.1 (Kd.C_below HK.out.2 HB2.out.1)).mono ?_; rintro e w2 ⟨A2, c2, rfl, l2, f2, hb2⟩) | (refine Kd.N_append k26 (w0 := w) w.heap.size (by rfl) (.tmp 13) (.tmp 16) 24 26 (.agg #[(.int .i64 0), (.int .i64 0), (.int .i64 0), (.int .i64 0), (.string ⟨#[]⟩), (.int .i64 0), (.slice none 0 0)]) 80 rfl Tryd.underlying24 info26 rfl (by decide) (by omega) u3 (x.f4.take i.toNat) y (Cs y A2 c2).toList (fun k => w.heap.size + 2 ≤ k) (fun k => False ∨ W2.heap.size ≤ k) rfl rfl (FK_of_F l2 f2) (fun k hk => ⟨by have := HB2.out.2; rcases hk with hk | hk; exact hk.elim; omega, fun he => by have := Kd.N_lt HO2.out k he.symm; rcases hk with hk | hk; exact hk.elim; omega⟩) (fun k hk => by have := HB2.out.2; have := hb2.size; omega) (Kd.N_below HO2.out hb2) (below_then HB2.out.1 HB2.out.1.size hb2) (Nat.le_trans HB2.out.1.size hb2.size) HL.out ?_; intro v1 w1 hN1 hb1 hg1 hat1) | fail)
      have hS := lt_of_block HY2.out
      have hS2 := hb2.size
      have HB3 := Aside0.mk (And.intro hb1 (show w.heap.size + 2 ≤ w1.heap.size by have := hg1.size; have := HB2.out.2; omega))
      have HX3 := Aside0.mk ((hg1.block w.heap.size (by omega) (fun e => by have := HO2.out.1 _ e.symm; omega)).trans (blk_below HX2.out hb2))
      have HY3 := Aside0.mk ((hg1.block (w.heap.size + 1) (by omega) (fun e => by have := HO2.out.1 _ e.symm; omega)).trans (blk_below HY2.out hb2))
      rw [← HR.out.2] at hN1
      have HN1 := Aside0.mk hN1
      clear hN1 hb1 hg1 hat1 hb2 f2 l2 hS hS2
      have i0' := of_eq_true i0
      have hlt' := of_eq_true hlt
      go_roundg (x.f4.length + 1 - (i + 1).toNat)
      case measure => have := HI.out; omega
      case rel => exact ⟨i + 1, congrArg (Value.int .i64) (wrap_succ i0' hlt' hm), ⟨by omega, by omega, rfl⟩, HB3, HX3, HY3, ⟨by rw [succ_toNat i0']; exact HN1.out⟩⟩
    · have hb0 : decide (i < (x.f4.length : Int)) = false := decide_eq_false hlt
      have e : x.f4.take i.toNat = x.f4 := List.take_of_length_le (by omega)
      rw [e] at HO
      clear e hlt i0 i1 i2 HI
      obtain ⟨B, d, e⟩ := Kd.N_slice HO.out
      subst e
      have HD := Aside0.mk ((Kd.N_reads' HO.out).2.1)
      have HF := Aside0.mk (Kd.N_F HO.out)
      go_wp2_with (first | (refine put1_event (g := w.heap.size) (j := 6) (v := .slice B x.f4.length d) rfl rfl rfl HX.out rfl rfl (Nat.le_refl 7) (by kernel_rfl) rfl ?_; intro W3 hx3 hp3; have hx4 : W3.heap[w.heap.size]? = some (.cells (Cs x B d) 26 (0, 0)) := hx3; obtain ⟨a0, a1, a2, a3, a4, a5, a6⟩ := box7 hx4) | (refine put7_event rfl rfl rfl (hp3.blk HY.out (by omega)) rfl rfl rfl ?_; intro W4 hx5 hp4) | fail)
      exact bodyPost_ret (results_cell_row rfl _ _ (w.heap.size + 1) 26 (Cs x B d) (0, 0) _ rfl hx5 Tryd.underlying26 rfl (by kernel_rfl)) rfl ⟨B, d, rfl, HD.out, Kd.F_mono (hp4.F (hp3.F HF.out (fun k hk => by omega)) (fun k hk => by omega)) (fun k hk => .inr (by omega)), hp4.below (hp3.below HB.out.1 (Nat.le_refl _)) (by omega)⟩
theorem clone_calls : ∀ n, CloneOk n
  | 0 => fun x A c w hn => by have := sz_pos x; omega
  | n + 1 => clone_step n ⟨clone_calls n⟩
end Go.Proofs.YthjjolmmdgnjfaaDoor
