/- Annotations of one variable: formats, the sort of one term, the product: walks of the functions, each with its contract. -/
import Derived.Test.YtcpngmclhicciaaGreatDoorM2
import Derived.Test.YtcpngmclhicciaaGreatDoorShelf
import Derived.Maps.Own
import Derived.Maps.Keyed
import Derived.Lib.AppendZeros
/- 'slices.Clone' of values. -/
namespace Go.Proofs.YtcpngmclhicciaaGreatDoor
open Go.RowKit Go.Proofs.YtcpngmclhicciaaGreatDoorW.PrintWords PMergejoinGroups
set_option linter.unusedVariables false
set_option linter.unusedSimpArgs false
theorem k42_F {w : World} {A : Option Addr} {n : Nat} {xs : List S42} (h : Kd.C k42 w A n xs) : Kd.F k42 w (fun k => k < w.heap.size) A n xs := fun W' hW => by
  refine ⟨h.1, h.2.1, fun hp => ?_⟩
  obtain ⟨ad, e, hc⟩ := h.2.2 hp
  refine ⟨ad, e, fun j p hj => ?_⟩
  obtain ⟨c, h1, h2, h3⟩ := hc j p hj
  refine ⟨c, h1, by rw [k42_open h2]; exact k42_mk W' p, fun i u hu => ?_⟩
  have h4 := h3 i u hu
  have hlt := World.block_lt_of_cell? w _ h4
  rw [World.cell?_of_block (hW _ hlt hlt)]
  exact h4
def ValsPost (vs : List S42) (w : World) (e : Ending) (w' : World) : Prop := ∃ A c, e = .returned (.slice A vs.length c) ∧ vs.length ≤ c ∧ Kd.C k42 w' A vs.length vs ∧ Below w.heap.size w w'
set_option maxRecDepth 100000 in
set_option maxHeartbeats 1000000 in
theorem cloneV_calls (vs : List S42) (ad : Addr) (c : Nat) (w : World) (hl : vs.length ≤ 64) (hA : Kd.C k42 w (some ad) vs.length vs) : Calls Tryz.prog 38 #[.slice (some ad) vs.length c] w (ValsPost vs w) := by
  have hq : ∀ wx : World, (binOp .eql 27 (.slice (some ad) vs.length c) (.slice none 0 0)).run Tryz.prog wx = .ok (.bool false) wx := fun wx => Lib.run_eql_slice_nil wx 27 42 (some ad) vs.length c 0 0 Tryz.underlying27
  have HF := Aside0.mk (Kd.F_below (k42_F hA) (below_alloc (Below.refl w.heap.size w) (.cells #[] 42)))
  have HT := Aside0.mk (T_made (d := k42) (e := 42) (base := w.heap.size) (E := fun _ => False) (w := w) (xs := []) (Nat.le_refl _) (by simp) (fun k h => h.elim) (Reps.none _ _))
  have HB := Aside0.mk (below_alloc (Below.refl w.heap.size w) (.cells #[] 42))
  have HL := Aside0.mk hl
  clear hA hl
  go_enter Tryz.func38, Tryz.ntmps38
  have HN := Aside0.mk (Kd.N_mono HT.out.1 (ok' := fun _ => True) (fun _ _ => trivial))
  have HK := Aside0.mk (show ∀ k, k < w.heap.size → True ∧ some k ≠ (Value.slice (some ⟨w.heap.size, 0, none⟩) 0 0).ownBlock from fun k hk => ⟨trivial, by simp [Value.ownBlock]; omega⟩)
  go_wp2_with (first | (refine Kd.N_append_rows k42 (w0 := w) w.heap.size rfl (.tmp 5) (.tmp 6) 27 42 (.agg #[.int .i64 0, .int .i64 0, .string ⟨#[]⟩]) 32 rfl Tryz.underlying27 info42 rfl (by decide) (by omega) (.slice (some ⟨w.heap.size, 0, none⟩) 0 0) [] vs (some ad) vs.length c (fun _ => True) (fun k => k < w.heap.size) rfl rfl HN.out HF.out HK.out (fun _ _ => trivial) HB.out HB.out.size (by have := HL.out; simp; omega) ?_; intro v1 w3 hN1 hb1 hg1 hat1; obtain ⟨A1, c1, rfl, l1, g1⟩ := Kd.N_reads hN1) | fail)
  go_ret
  exact ⟨A1, c1, rfl, l1, g1, hb1⟩
end Go.Proofs.YtcpngmclhicciaaGreatDoor
/- 'rowset.Format' of a small row's name. -/
namespace Go.Proofs.YtcpngmclhicciaaGreatDoor
open Go.RowKit Go.Proofs.YtcpngmclhicciaaGreatDoorW.PrintWords PMergejoinGroups
set_option linter.unusedVariables false
set_option linter.unusedSimpArgs false
def digs (i : Nat) : ByteArray := ⟨(Lib.decDigits i).toArray⟩
theorem itoa_calls (i : Nat) (hi : i < 100) (w : World) : Calls Tryz.prog 92 #[.int .i64 i] w fun e w' => e = .returned (.string (digs i)) ∧ w = w' := (Tryz.strconv_Itoa_small i hi w).mono fun e w' ⟨h1, h2⟩ => ⟨h1, h2.symm⟩
theorem digs_size {i : Nat} (hi : i < 100) : (digs i).size ≤ 2 := by
  have h : ((List.range 100).all fun i => decide ((digs i).size ≤ 2)) = true := by kernel_rfl
  exact of_decide_eq_true (List.all_eq_true.1 h i (List.mem_range.2 hi))
def fmtR (t s : Nat) : ByteArray := ((⟨#[116]⟩ ++ digs t) ++ ⟨#[46]⟩) ++ digs s
set_option maxRecDepth 100000 in
set_option maxHeartbeats 1000000 in
theorem format_calls (t s : Nat) (ht : 1 ≤ t) (hs : 1 ≤ s) (ht2 : t < 100) (hs2 : s < 100) (w : World) : Calls Tryz.prog 107 #[.agg #[.int .i64 t, .int .i64 s]] w fun e w' => e = .returned (.string (fmtR t s)) ∧ Below w.heap.size w w' := by
  have HX := Aside0.mk (blk_new w (.cells #[.int .i64 t, .int .i64 s] 65))
  have HW := Aside0.mk (below_alloc (Below.refl w.heap.size w) (.cells #[.int .i64 t, .int .i64 s] 65))
  have HT := Aside0.mk (And.intro (show (1 : Int) ≤ t by omega) (And.intro (show (1 : Int) ≤ s by omega) (And.intro ht2 hs2)))
  have z0 := digs_size ht2
  have z1 := digs_size hs2
  have s0 : (⟨#[116]⟩ : ByteArray).size + (digs t).size ≤ 9223372036854775807 := by have : (⟨#[116]⟩ : ByteArray).size = 1 := rfl; omega
  have s1 : ((⟨#[116]⟩ : ByteArray) ++ digs t).size + (⟨#[46]⟩ : ByteArray).size ≤ 9223372036854775807 := by rw [ByteArray.size_append]; have : (⟨#[116]⟩ : ByteArray).size = 1 := rfl; have : (⟨#[46]⟩ : ByteArray).size = 1 := rfl; omega
  have s2 : (((⟨#[116]⟩ : ByteArray) ++ digs t) ++ (⟨#[46]⟩ : ByteArray)).size + (digs s).size ≤ 9223372036854775807 := by rw [ByteArray.size_append, ByteArray.size_append]; have : (⟨#[116]⟩ : ByteArray).size = 1 := rfl; have : (⟨#[46]⟩ : ByteArray).size = 1 := rfl; omega
  have t0 := fun wx : World => run_string_add_sum (P := Tryz.prog) (w := wx) _ _ s0
  have t1 := fun wx : World => run_string_add_sum (P := Tryz.prog) (w := wx) _ _ s1
  have t2 := fun wx : World => run_string_add_sum (P := Tryz.prog) (w := wx) _ _ s2
  clear ht hs ht2 hs2 z0 z1 s0 s1 s2
  go_enter Tryz.func107, Tryz.ntmps107
  go_upto_region 1 with (fail)
  obtain ⟨W, hW⟩ : ∃ W : World, w.alloc (.cells #[.int .i64 t, .int .i64 s] 65) = W := ⟨_, rfl⟩
  rw [hW] at HX HW ⊢
  clear hW
  obtain ⟨a0, a1⟩ := box2 HX.out
  go_upto_region 3 with (first | (go_at_call 39; (with_reducible refine (rowValid_calls _ _ HT.out.1 HT.out.2.1 _).mono ?_); rintro e w1 ⟨rfl, hb1⟩; replace a0 := cell_later hb1 a0; replace a1 := cell_later hb1 a1; have HB1 := Aside0.mk (below_then HW.out HW.out.size hb1); clear hb1) | fail)
  have hba := Aside0.mk (below_drew (Below.refl w1.heap.size w1))
  go_region_held3 (fun w' => w'.cell? ⟨w.heap.size, 0, none⟩ = some (.int .i64 t) ∧ w'.cell? ⟨w.heap.size, 1, none⟩ = some (.int .i64 s)) (refine ⟨?_, ?_⟩ <;> (repeat (first | (with_reducible refine cell_dr ?_) | with_reducible exact a0 | with_reducible exact a1))) (first | (go_at_call 92; (with_reducible refine (itoa_calls t HT.out.2.2.1 _).mono ?_); rintro e w2 ⟨rfl, rfl⟩) | (go_at_call 92; (with_reducible refine (itoa_calls s HT.out.2.2.2 _).mono ?_); rintro e w2 ⟨rfl, rfl⟩) | fail)
  go_wp2
  go_ret
  exact ⟨rfl, below_then HB1.out HB1.out.size hba.out⟩
end Go.Proofs.YtcpngmclhicciaaGreatDoor
/- 'formatAtom' of a variable. -/
namespace Go.Proofs.YtcpngmclhicciaaGreatDoor
open Go.RowKit Go.Proofs.YtcpngmclhicciaaGreatDoorW.PrintWords PMergejoinGroups
set_option linter.unusedVariables false
set_option linter.unusedSimpArgs false
set_option maxRecDepth 100000 in
set_option maxHeartbeats 1000000 in
theorem fatom_calls (x : Fac) (t s : Nat) (h1 : x.t = t) (h2 : x.s = s) (ht : 1 ≤ t) (hs : 1 ≤ s) (ht2 : t < 100) (hs2 : s < 100) (w : World) : Calls Tryz.prog 91 #[(.agg #[.int .i64 0, .int .i64 x.t, .int .i64 x.s, .slice none 0 0, .int .i64 0, .slice none 0 0, .int .i64 0, .int .i64 0, .int .i64 0, .string ⟨#[]⟩])] w fun e w' => e = .returned (.string (fmtR t s)) ∧ Below w.heap.size w w' := by
  obtain ⟨xt, xs, xe⟩ := x
  have h1' : xt = t := h1
  have h2' : xs = s := h2
  subst h1' h2'
  obtain ⟨x, hx⟩ : ∃ x : Fac, (⟨(t : Int), (s : Int), xe⟩ : Fac) = x := ⟨_, rfl⟩
  have HX := Aside0.mk (blk_new w (.cells #[.int .i64 0, .int .i64 (t : Int), .int .i64 (s : Int), .slice none 0 0, .int .i64 0, .slice none 0 0, .int .i64 0, .int .i64 0, .int .i64 0, .string ⟨#[]⟩] 76))
  have HW := Aside0.mk (below_alloc (Below.refl w.heap.size w) (.cells #[.int .i64 0, .int .i64 (t : Int), .int .i64 (s : Int), .slice none 0 0, .int .i64 0, .slice none 0 0, .int .i64 0, .int .i64 0, .int .i64 0, .string ⟨#[]⟩] 76))
  have HT := Aside0.mk (And.intro ht (And.intro hs (And.intro ht2 hs2)))
  clear ht hs ht2 hs2 h1 h2 hx x
  go_enter Tryz.func91, Tryz.ntmps91
  go_upto_region 1 with (fail)
  obtain ⟨W, hW⟩ : ∃ W : World, w.alloc (.cells #[.int .i64 0, .int .i64 (t : Int), .int .i64 (s : Int), .slice none 0 0, .int .i64 0, .slice none 0 0, .int .i64 0, .int .i64 0, .int .i64 0, .string ⟨#[]⟩] 76) = W := ⟨_, rfl⟩
  rw [hW] at HX HW ⊢
  clear hW
  obtain ⟨a0, a1, a2, a3, a4, a5, a6, a7, a8, a9⟩ := boxA10 (x := ⟨(t : Int), (s : Int), xe⟩) HX.out
  dsimp only at a1 a2
  go_wp2_with (first | (go_at_call 107; (with_reducible refine (format_calls t s HT.out.1 HT.out.2.1 HT.out.2.2.1 HT.out.2.2.2 _).mono ?_); rintro e w1 ⟨rfl, hb1⟩) | fail)
  go_ret
  exact ⟨rfl, below_then HW.out HW.out.size hb1⟩
end Go.Proofs.YtcpngmclhicciaaGreatDoor
/- Sorting one term: nothing moves. -/
namespace Go.Proofs.YtcpngmclhicciaaGreatDoor
open Go.RowKit Go.Proofs.YtcpngmclhicciaaGreatDoorW.PrintWords PMergejoinGroups
set_option linter.unusedVariables false
set_option linter.unusedSimpArgs false
set_option maxRecDepth 100000 in
set_option maxHeartbeats 1000000 in
theorem ins_one (v f : Value) (w : World) : Calls Tryz.prog 116 #[v, .int .i64 0, .int .i64 1, f] w fun e w' => (∃ u, e = .returned u) ∧ w = w' := by
  go_enter Tryz.func116, Tryz.ntmps116
  go_wp2
  go_loopg [8, 9] 0 (fun kq v8 v9 wr => v8 = .int .i64 1 ∧ Aside0 (w = wr))
  case atStart => exact ⟨rfl, ⟨rfl⟩⟩
  case round =>
    obtain ⟨rfl, HV⟩ := hrel
    go_wp2
    go_end0
    exact ⟨⟨_, rfl⟩, HV.out⟩
end Go.Proofs.YtcpngmclhicciaaGreatDoor
/- Sorting one term: 'pdqsort'. -/
namespace Go.Proofs.YtcpngmclhicciaaGreatDoor
open Go.RowKit Go.Proofs.YtcpngmclhicciaaGreatDoorW.PrintWords PMergejoinGroups
set_option linter.unusedVariables false
set_option linter.unusedSimpArgs false
set_option maxRecDepth 100000 in
set_option maxHeartbeats 2000000 in
theorem pdq_one (v f : Value) (k : Int) (w : World) : Calls Tryz.prog 94 #[v, .int .i64 0, .int .i64 1, .int .i64 k, f] w fun e w' => (∃ u, e = .returned u) ∧ w = w' := by
  go_enter Tryz.func94, Tryz.ntmps94
  go_wp2
  go_loopg [1, 2, 3, 10, 11, 12, 13, 14] 0 (fun kq v1 v2 v3 v10 v11 v12 v13 v14 wr => v1 = .int .i64 0 ∧ v2 = .int .i64 1 ∧ Aside0 (w = wr))
  case atStart => exact ⟨rfl, rfl, ⟨rfl⟩⟩
  case round =>
    obtain ⟨rfl, rfl, HV⟩ := hrel
    go_wp2_with (first | (go_at_call 116; refine (ins_one _ _ _).mono ?_; rintro e w1 ⟨⟨u, rfl⟩, rfl⟩) | fail)
    refine bodyPost_ret (results_none rfl _ _ _) rfl ?_
    exact ⟨⟨_, rfl⟩, HV.out⟩
end Go.Proofs.YtcpngmclhicciaaGreatDoor
/- Sorting one term: 'slices.SortFunc'. -/
namespace Go.Proofs.YtcpngmclhicciaaGreatDoor
open Go.RowKit Go.Proofs.YtcpngmclhicciaaGreatDoorW.PrintWords PMergejoinGroups
set_option linter.unusedVariables false
set_option linter.unusedSimpArgs false
theorem bits_one (w : World) : Calls Tryz.prog 95 #[.int .u64 1] w fun e w' => e = .returned (.int .i64 (Lib.bitLen 1)) ∧ w = w' := (Tryz.bits_Len 1 w (by decide) (by decide)).mono fun e w' ⟨h1, h2⟩ => ⟨h1, h2.symm⟩
set_option maxRecDepth 100000 in
theorem sort_one (A : Option Addr) (c : Nat) (f : Value) (w : World) : Calls Tryz.prog 64 #[.slice A 1 c, f] w fun e w' => (∃ u, e = .returned u) ∧ w = w' := by
  go_enter Tryz.func64, Tryz.ntmps64
  go_wp2_with (first | (go_at_call 95; (with_reducible refine (bits_one _).mono ?_); rintro e w1 ⟨rfl, rfl⟩) | (go_at_call 94; refine (pdq_one _ _ _ _).mono ?_; rintro e w1 ⟨⟨u, rfl⟩, rfl⟩) | fail)
  first | go_end0 | skip
  exact ⟨⟨_, rfl⟩, rfl⟩
end Go.Proofs.YtcpngmclhicciaaGreatDoor
/- 'formatFactors' of a term of variables. -/
namespace Go.Proofs.YtcpngmclhicciaaGreatDoor
open Go.RowKit Go.Proofs.YtcpngmclhicciaaGreatDoorW.PrintWords PMergejoinGroups
set_option linter.unusedVariables false
set_option linter.unusedSimpArgs false
theorem info9 : (Tryz.prog.info? 9).map (fun i => (i.zero, i.size, i.bytes)) = some (some (.string ⟨#[]⟩), 1, 16) := by kernel_rfl
theorem FK_str (W : World) (ok : Nat → Prop) (x : ByteArray) : Kd.FK Kd.string W ok x [.string x] := fun _ _ => rfl
/-- A factor of a variable with small numbers. -/
structure FmtOk (x : Fac) : Prop where
  ex : ∃ t s e : Nat, x.t = t ∧ x.s = s ∧ x.e = e ∧ 1 ≤ t ∧ 1 ≤ s ∧ t < 100 ∧ s < 100 ∧ e < 100
theorem join_len {bs : List ByteArray} (hl : bs.length ≤ 2) (hb : ∀ b ∈ bs, b.size ≤ 12) : (Lib.join (bs.map (·.data.toList)) (⟨#[42]⟩ : ByteArray).data.toList).length ≤ 140737488355328 := by
  have hsz : ∀ b : ByteArray, b.data.toList.length = b.size := fun b => by rw [Array.length_toList]; rfl
  rcases bs with _ | ⟨a, _ | ⟨b, _ | ⟨c, r⟩⟩⟩
  · simp [Lib.join]
  · have := hb a (by simp); simp [Lib.join, List.intercalate, hsz]; omega
  · have h1 := hb a (by simp)
    have h2 := hb b (by simp)
    simp [Lib.join, List.intercalate, hsz]; omega
  · simp at hl
theorem itoa_calls' (e : Int) (i : Nat) (h : e = i) (hi : i < 100) (w : World) : Calls Tryz.prog 92 #[.int .i64 e] w fun e w' => e = .returned (.string (digs i)) ∧ w = w' := by subst h; exact itoa_calls i hi w
def StrPost (w : World) (e : Ending) (w' : World) : Prop := ∃ b : ByteArray, e = .returned (.string b) ∧ b.size ≤ 140737488355328 ∧ Below w.heap.size w w'
theorem fmtR_size {t s : Nat} (ht : t < 100) (hs : s < 100) : (fmtR t s).size ≤ 6 := by
  have z0 := digs_size ht
  have z1 := digs_size hs
  unfold fmtR
  rw [ByteArray.size_append, ByteArray.size_append, ByteArray.size_append]
  have : (⟨#[116]⟩ : ByteArray).size = 1 := rfl
  have : (⟨#[46]⟩ : ByteArray).size = 1 := rfl
  omega
set_option maxRecDepth 100000 in
set_option maxHeartbeats 4000000 in
theorem fmtF_calls (fs : List Fac) (hl : fs.length ≤ 2) (h1 : 1 ≤ fs.length) (hok : ∀ x ∈ fs, FmtOk x) (A : Option Addr) (c : Nat) (w : World) (hA : Kd.C kF w A fs.length fs) : Calls Tryz.prog 63 #[.slice A fs.length c] w (StrPost w) := by
  have hm : fs.length ≤ 9223372036854775807 := hA.2.1
  have HA := Aside0.mk (And.intro hA (And.intro hl (And.intro h1 hok)))
  clear hA hl h1 hok
  go_enter Tryz.func63, Tryz.ntmps63
  go_wp2
  go_loopg [3, 5, 6, 9] (fs.length + 1) (fun kq v3 v5 v6 v9 wr => ∃ i : Int, v9 = .int .i64 i ∧ Aside0 (0 ≤ i ∧ i ≤ fs.length ∧ kq = fs.length + 1 - i.toNat) ∧ Aside0 (Below w.heap.size w wr) ∧ Aside0 (∃ bs : List ByteArray, bs.length = i.toNat ∧ (∀ b ∈ bs, b.size ≤ 12) ∧ T Kd.string 9 wr w.heap.size (fun _ => False) v3 bs))
  case atStart => exact ⟨0, rfl, ⟨by omega, by omega, by omega⟩, ⟨Below.refl _ _⟩, ⟨[], rfl, (fun b hb => by cases hb), T_nil _ _ _ _ _ (fun k h => h.elim)⟩⟩
  case round =>
    obtain ⟨i, rfl, HI, HW, HT⟩ := hrel
    obtain ⟨wo, rfl⟩ : ∃ wo : World, wo = wr := ⟨_, rfl⟩
    obtain ⟨i0, i1, i2⟩ := HI.out
    obtain ⟨bs, hbl, hbz, hT⟩ := HT.out
    clear HT
    by_cases hlt : i < fs.length
    · have hb : decide (i < (fs.length : Int)) = true := decide_eq_true hlt
      obtain ⟨ad, e1, hc⟩ := at_F HA.out.1 i i0 hlt
      subst e1
      obtain ⟨t, s, n, ht, hs, hn, t1, s1, t2, s2, n2⟩ := (HA.out.2.2.2 _ (rdF_mem i0 hlt)).ex
      have hbn : bs.length ≤ 1 := by have := HA.out.2.1; omega
      obtain ⟨x, hxe⟩ : ∃ x, rdF fs i = x := ⟨_, rfl⟩
      rw [hxe] at hc ht hs hn
      obtain ⟨a0, a1, a2, a3, a4, a5, a6, a7, a8, a9, a10⟩ := hc.later HW.out
      have HX := Aside0.mk (blk_new wo (.cells #[.int .i64 0, .int .i64 x.t, .int .i64 x.s, .slice none 0 0, .int .i64 0, .slice none 0 0, .int .i64 0, .int .i64 0, .int .i64 0, .string ⟨#[]⟩, .int .i64 x.e] 78))
      have HW2 := Aside0.mk (below_alloc HW.out (.cells #[.int .i64 0, .int .i64 x.t, .int .i64 x.s, .slice none 0 0, .int .i64 0, .slice none 0 0, .int .i64 0, .int .i64 0, .int .i64 0, .string ⟨#[]⟩, .int .i64 x.e] 78))
      have HT2 := Aside0.mk (T_below hT (below_alloc (Below.refl wo.heap.size wo) (.cells #[.int .i64 0, .int .i64 x.t, .int .i64 x.s, .slice none 0 0, .int .i64 0, .slice none 0 0, .int .i64 0, .int .i64 0, .int .i64 0, .string ⟨#[]⟩, .int .i64 x.e] 78)))
      have HB := Aside0.mk (And.intro hbl (And.intro hbz hbn))
      have HQ := Aside0.mk (And.intro ht (And.intro hs (And.intro hn (And.intro t1 (And.intro s1 (And.intro t2 (And.intro s2 n2)))))))
      clear hc hxe i1 i2 hbl hbz hT ht hs hn t1 s1 t2 s2 n2 hbn
      replace hlt := eq_true hlt
      replace i0 := eq_true i0
      go_upto_region 5 with (fail)
      clear a0 a1 a2 a3 a4 a5 a6 a7 a8 a9 a10
      obtain ⟨g, hg⟩ : ∃ g, wo.heap.size = g := ⟨_, rfl⟩
      obtain ⟨W2, hW2⟩ : ∃ W2 : World, wo.alloc (.cells #[.int .i64 0, .int .i64 x.t, .int .i64 x.s, .slice none 0 0, .int .i64 0, .slice none 0 0, .int .i64 0, .int .i64 0, .int .i64 0, .string ⟨#[]⟩, .int .i64 x.e] 78) = W2 := ⟨_, rfl⟩
      rw [hW2] at HX HW2 HT2 ⊢
      rw [hg] at HX ⊢
      clear hW2 hg
      obtain ⟨a0, a1, a2, a3, a4, a5, a6, a7, a8, a9, a10⟩ := box11 HX.out
      go_upto_region 6 with (first | (go_at_call 91; (with_reducible refine (fatom_calls x t s HQ.out.1 HQ.out.2.1 HQ.out.2.2.2.1 HQ.out.2.2.2.2.1 HQ.out.2.2.2.2.2.1 HQ.out.2.2.2.2.2.2.1 _).mono ?_); rintro e w1 ⟨rfl, hb1⟩) | fail)
      clear a0 a1 a2 a3 a4 a5 a6 a7 a8 a9 a10
      have HX3 := Aside0.mk (blk_below HX.out hb1)
      have HW3 := Aside0.mk (below_then HW2.out HW2.out.size hb1)
      have HT3 := Aside0.mk (T_below HT2.out hb1)
      clear hb1 HX HW2 HT2
      have a10 := (blk_cell HX3.out 10).trans rfl
      have HF := Aside0.mk (fmtR_size HQ.out.2.2.2.2.2.1 HQ.out.2.2.2.2.2.2.1)
      by_cases hne : x.e = 1
      · have hd : (x.e != 1) = false := by simp [hne]
        go_wp2_with (first | (refine T_append Kd.string (w0 := w) w.heap.size (fun _ => False) (by rfl) (.tmp 25) (.tmp 27) 136 9 (.string ⟨#[]⟩) 16 rfl Tryz.underlying136 info9 rfl (by decide) (by omega) u3 bs (fmtR t s) [.string (fmtR t s)] rfl rfl (FK_str _ _ _) HT3.out HW3.out HW3.out.size (by have := HB.out.2.2; omega) ?_; intro v1 w3 hN1 hb1 hg1 hat1) | fail)
        have HB3 := Aside0.mk hb1
        have HT3' := Aside0.mk hN1
        clear hb1 hN1 hg1 hat1 a10
        have i0' := of_eq_true i0
        have hlt' := of_eq_true hlt
        go_roundg (fs.length + 1 - (i + 1).toNat)
        case measure => have := HI.out.2.2; omega
        case rel => exact ⟨i + 1, congrArg (Value.int .i64) (wrap_succ i0' hlt' hm), ⟨by omega, by omega, rfl⟩, HB3, ⟨bs ++ [fmtR t s], by have := HB.out.1; simp; omega, (fun b hb => by rcases List.mem_append.1 hb with h | h; exact HB.out.2.1 b h; rw [List.mem_singleton.1 h]; have := HF.out; omega), HT3'.out⟩⟩
      · have hd : (x.e != 1) = true := by simp [hne]
        have z0 := digs_size HQ.out.2.2.2.2.2.2.2
        have q0 : (⟨#[94]⟩ : ByteArray).size + (digs n).size ≤ 9223372036854775807 := by have : (⟨#[94]⟩ : ByteArray).size = 1 := rfl; omega
        have q1 : (fmtR t s).size + ((⟨#[94]⟩ : ByteArray) ++ digs n).size ≤ 9223372036854775807 := by rw [ByteArray.size_append]; have := HF.out; have : (⟨#[94]⟩ : ByteArray).size = 1 := rfl; omega
        have r0 := fun wx : World => run_string_add_sum (P := Tryz.prog) (w := wx) _ _ q0
        have r1 := fun wx : World => run_string_add_sum (P := Tryz.prog) (w := wx) _ _ q1
        have HF2 := Aside0.mk (show (fmtR t s ++ ((⟨#[94]⟩ : ByteArray) ++ digs n)).size ≤ 12 by rw [ByteArray.size_append, ByteArray.size_append]; have := HF.out; have : (⟨#[94]⟩ : ByteArray).size = 1 := rfl; omega)
        clear q0 q1 z0 hne
        go_wp2_with (first | (go_at_call 92; (with_reducible refine (itoa_calls' x.e n HQ.out.2.2.1 HQ.out.2.2.2.2.2.2.2 _).mono ?_); rintro e w2 ⟨rfl, rfl⟩) | (refine T_append Kd.string (w0 := w) w.heap.size (fun _ => False) (by rfl) (.tmp 25) (.tmp 27) 136 9 (.string ⟨#[]⟩) 16 rfl Tryz.underlying136 info9 rfl (by decide) (by omega) u3 bs (fmtR t s ++ ((⟨#[94]⟩ : ByteArray) ++ digs n)) [.string (fmtR t s ++ ((⟨#[94]⟩ : ByteArray) ++ digs n))] rfl rfl (FK_str _ _ _) HT3.out HW3.out HW3.out.size (by have := HB.out.2.2; omega) ?_; intro v1 w3 hN1 hb1 hg1 hat1) | fail)
        have HB3 := Aside0.mk hb1
        have HT3' := Aside0.mk hN1
        clear hb1 hN1 hg1 hat1 a10 r0 r1
        have i0' := of_eq_true i0
        have hlt' := of_eq_true hlt
        go_roundg (fs.length + 1 - (i + 1).toNat)
        case measure => have := HI.out.2.2; omega
        case rel => exact ⟨i + 1, congrArg (Value.int .i64) (wrap_succ i0' hlt' hm), ⟨by omega, by omega, rfl⟩, HB3, ⟨bs ++ [fmtR t s ++ ((⟨#[94]⟩ : ByteArray) ++ digs n)], by have := HB.out.1; simp; omega, (fun b hb => by rcases List.mem_append.1 hb with h | h; exact HB.out.2.1 b h; rw [List.mem_singleton.1 h]; exact HF2.out), HT3'.out⟩⟩
    · have hb : decide (i < (fs.length : Int)) = false := decide_eq_false hlt
      have hbl2 : bs.length = fs.length := by omega
      obtain ⟨g, cp, rfl, hg0, hg1, _⟩ := Kd.N_form hT.1 (by have := HA.out.2.2.1; omega)
      obtain ⟨_, hcp, hC⟩ := Kd.N_reads' hT.1
      have hcells : ∀ (j : Nat) (x : ByteArray), bs[j]? = some x → wo.cell? ⟨g, 0 + j, none⟩ = some (.string x) := fun j x hj => by
        obtain ⟨ad, e1, hx⟩ := Kd.at_string hC (j : Int) (by omega) (by have := (List.getElem?_eq_some_iff.1 hj).1; omega)
        cases e1
        have e2 : (⟨g, 0, none⟩ : Addr).add ((j : Int).toNat) = ⟨g, 0 + j, none⟩ := by
          unfold Addr.add
          split
          · rename_i hi; have : j = 0 := by simpa using hi
            subst this; rfl
          · simp
        rw [e2] at hx
        rw [hx]
        simp [rdOf, List.getD_eq_getElem?_getD, hj]
      have HK := Aside0.mk (And.intro hcells (And.intro hg1 (And.intro (show bs.length ≤ 140737488355328 by have := HA.out.2.1; omega) (And.intro hcp (join_len (by have := HA.out.2.1; omega) hbz)))))
      clear i0 i1 i2 hlt HI hcells hC hcp hg0 hg1 hT hbz hbl hbl2
      go_wp2_with (first | (go_at_call 93; (with_reducible refine (Tryz.strings_Join g 0 cp bs ⟨#[42]⟩ _ HK.out.1 HK.out.2.1 HK.out.2.2.1 HK.out.2.2.2.1 HK.out.2.2.2.2).mono ?_); rintro e w2 ⟨rfl, hb2⟩) | fail)
      go_ret
      exact ⟨_, rfl, by have := HK.out.2.2.2.2; simpa [ByteArray.size] using this, below_then HW.out HW.out.size hb2⟩
end Go.Proofs.YtcpngmclhicciaaGreatDoor
/- 'collect' of one term. -/
namespace Go.Proofs.YtcpngmclhicciaaGreatDoor
open Go.RowKit Go.Proofs.YtcpngmclhicciaaGreatDoorW.PrintWords PMergejoinGroups
set_option linter.unusedVariables false
set_option linter.unusedSimpArgs false
theorem info73 : (Tryz.prog.info? 73).map (fun i => (i.zero, i.size, i.bytes)) = some (some (.agg #[.int .i64 0, .slice none 0 0]), 2, 32) := by kernel_rfl
theorem kT_FK {w W : World} {x : Tm} {A : Option Addr} {c : Nat} (hc : x.fs.length ≤ c) (hA : Kd.C kF w A x.fs.length x.fs) (hb : Below w.heap.size w W) : Kd.FK kT W (fun k => k < w.heap.size) x [.int .i64 x.co, .slice A x.fs.length c] := fun W' hW =>
  kT_mk W' x hc (kF_F hA W' (fun k hk _ => (hW k hk (Nat.lt_of_lt_of_le hk hb.size)).trans (hb.block k hk)))
theorem key9 : Go.Maps.Keyed Tryz.prog 9 := Go.Maps.string_keyed Tryz.underlying9
theorem zero3 (w : World) : (zeroValue 3).run Tryz.prog w = .ok (.int .i64 0) w := Tryz.zeroValue3 w
/-- A look-up in a map without entries. -/
theorem look_none {w : World} {g : Nat} (hb : w.heap[g]? = some (.map #[] 0)) {s : ByteArray} (hs : s.size ≤ maxLen) : (Instr.lookup 110 (.map (some g)) (.string s) true).run Tryz.prog w = .ok (.tuple #[.int .i64 0, .bool false]) w := by
  have F : Go.WideElems.Fit (H := Unit) Tryz.prog 9 (plainElem Tryz.prog 3) #[] 0 := ⟨by simp, Go.MapKept.stamped_empty 0, by simp⟩
  rcases Go.Maps.fit_look true key9 Tryz.underlying110 (zero3 w) hb F (Go.WideMaps.keyOf_string_mk Tryz.underlying9 hs) with ⟨h, _⟩ | ⟨e0, y, h, _⟩
  · exact h
  · simp at h
theorem map_own {w : World} {g : Nat} (hb : w.heap[g]? = some (.map #[] 0)) : w.ownsMap (H := Unit) Tryz.prog 9 (plainElem Tryz.prog 3) g 0 (.map []) := ⟨#[], 0, hb, ⟨by simp, Go.MapKept.stamped_empty 0, by simp⟩, Nat.le_refl _, rfl⟩
set_option maxRecDepth 100000 in
set_option maxHeartbeats 4000000 in
theorem collect_calls (x : Tm) (hl : x.fs.length ≤ 2) (h1 : 1 ≤ x.fs.length) (hok : ∀ y ∈ x.fs, FmtOk y) (A : Option Addr) (c : Nat) (w : World) (hA : Kd.C kT w A 1 [x]) : Calls Tryz.prog 53 #[.slice A 1 c] w (AnnPost x w) := by
  obtain ⟨ad, A1, c1, rfl, x0, x1, l0, g0⟩ := at_T1 hA
  have HA := Aside0.mk (And.intro g0 (And.intro x0 (And.intro x1 (And.intro hl (And.intro h1 (And.intro hok l0))))))
  have HM := Aside0.mk (blk_new w (.map #[] 0))
  have HW := Aside0.mk (below_alloc (Below.refl w.heap.size w) (.map #[] 0))
  clear hA hl h1 hok x0 x1 l0 g0
  have hmm := @run_makeMap Tryz.prog
  go_enter Tryz.func53, Tryz.ntmps53
  go_upto_region 2 with (fail)
  obtain ⟨W1, hW1⟩ : ∃ W2 : World, w.alloc (.map #[] 0) = W2 := ⟨_, rfl⟩
  rw [hW1] at HM HW ⊢
  clear hW1 hmm
  go_wp2
  go_loopg [4, 6, 7, 8, 9, 13] 2 (fun kq v4 v6 v7 v8 v9 v13 wr => ∃ i : Int, v13 = .int .i64 i ∧ Aside0 (kq = 2 - i.toNat) ∧ ((i = 0 ∧ v4 = .slice none 0 0 ∧ Aside0 (W1 = wr)) ∨ (i = 1 ∧ ∃ A c, v4 = .slice A 1 c ∧ Aside0 (1 ≤ c ∧ Kd.C kT wr A 1 [x] ∧ Below w.heap.size w wr))))
  case atStart => exact ⟨0, rfl, ⟨by omega⟩, .inl ⟨rfl, rfl, ⟨rfl⟩⟩⟩
  case round =>
    obtain ⟨i, rfl, HI, hi⟩ := hrel
    rcases hi with ⟨rfl, rfl, HV⟩ | ⟨rfl, A2, c2, rfl, HV⟩
    · obtain rfl := HV.out
      have x0 := cell_later HW.out HA.out.2.1
      have x1 := cell_later HW.out HA.out.2.2.1
      have HX := Aside0.mk (blk_new W1 (.cells #[.int .i64 x.co, .slice A1 x.fs.length c1] 73))
      have HM2 := Aside0.mk (blk_alloc HM.out (.cells #[.int .i64 x.co, .slice A1 x.fs.length c1] 73))
      have HW2 := Aside0.mk (below_alloc HW.out (.cells #[.int .i64 x.co, .slice A1 x.fs.length c1] 73))
      have HG := Aside0.mk (show w.heap.size < W1.heap.size from lt_of_heap HM.out)
      go_upto_region 6 with (fail)
      obtain ⟨g, hg⟩ : ∃ g, W1.heap.size = g := ⟨_, rfl⟩
      obtain ⟨W2, hW2⟩ : ∃ W2 : World, W1.alloc (.cells #[.int .i64 x.co, .slice A1 x.fs.length c1] 73) = W2 := ⟨_, rfl⟩
      rw [hW2] at HX HW2 HM2 ⊢
      rw [hg] at HX HG ⊢
      clear hW2 hg x0 x1
      obtain ⟨b0, b1⟩ := box2 HX.out
      go_upto_region 7 with (first | (go_at_call 63; (with_reducible refine (fmtF_calls x.fs HA.out.2.2.2.1 HA.out.2.2.2.2.1 HA.out.2.2.2.2.2.1 _ _ _ (Kd.C_below HA.out.1 HW2.out)).mono ?_); rintro e w3 ⟨b, rfl, hbs, hb3⟩) | fail)
      clear b0 b1
      have HX3 := Aside0.mk (blk_below HX.out hb3)
      have HM3 := Aside0.mk (blk_below HM2.out hb3)
      have HW3 := Aside0.mk (below_then HW2.out HW2.out.size hb3)
      have HL := Aside0.mk hbs
      clear hb3 hbs
      have hlk := look_none HM3.out (s := b) (by have := HL.out; unfold maxLen; omega)
      go_upto_region 10 with (fail)
      clear hlk
      go_upto_region 11 with (first | (at_mapUpdate; refine wpList_mapUpdate_own _ rfl _ _ _ 110 rfl 9 3 key9 Tryz.underlying110 (plainElem Tryz.prog 3) _ 0 (.map []) rfl (map_own HM3.out) (by unfold maxLen; omega) _ _ _ rfl rfl (Go.WideMaps.keyOf_string_mk Tryz.underlying9 (by have := HL.out; unfold maxLen; omega)) _ [] (plainElem_int (a := 0) Tryz.underlying3 (by decide)) ?_; intro W4 hown hgr) | fail)
      have HX4 := Aside0.mk (show W4.heap[g]? = some (.cells #[.int .i64 x.co, .slice A1 x.fs.length c1] 73 (0, 0)) from (hgr.block g (lt_of_heap HX3.out) (by have := HG.out; simp; omega)).trans HX3.out)
      have HW4 := Aside0.mk (pw_below_grown HW3.out _ HW3.out.size hgr (fun k h => by cases h; exact Nat.le_refl _))
      clear hown hgr
      obtain ⟨b0, b1⟩ := box2 HX4.out
      have HT := Aside0.mk (T_nil kT 73 W4 w.heap.size (fun k => k < w.heap.size) (fun k hk => Nat.lt_of_lt_of_le hk HW4.out.size))
      have HK := Aside0.mk (kT_FK HA.out.2.2.2.2.2.2 HA.out.1 HW4.out)
      go_wp2_with (first | (refine T_append kT (w0 := w) w.heap.size (fun k => k < w.heap.size) (by rfl) (.tmp 44) (.tmp 46) 31 73 (.agg #[.int .i64 0, .slice none 0 0]) 32 rfl Tryz.underlying31 info73 rfl (by decide) (by omega) (.slice none 0 0) [] x [.int .i64 x.co, .slice A1 x.fs.length c1] rfl rfl HK.out HT.out HW4.out HW4.out.size (by simp) ?_; intro v1 w3 hN1 hb1 hg1 hat1; obtain ⟨A5, c5, rfl, l5, g5⟩ := T_reads hN1) | fail)
      have HE := Aside0.mk (show 1 ≤ c5 ∧ Kd.C kT w3 A5 1 [x] ∧ Below w.heap.size w w3 from ⟨l5, g5, hb1⟩)
      clear hN1 hg1 hat1 b0 b1 l5 g5 hb1
      go_roundg 1
      case measure => have := HI.out; omega
      case rel => exact ⟨1, rfl, ⟨by omega⟩, .inr ⟨rfl, A5, c5, rfl, HE⟩⟩
    · go_wp2_with (first | (go_at_call 64; (with_reducible refine (sort_one A2 c2 _ _).mono ?_); rintro e w3 ⟨⟨u, rfl⟩, rfl⟩) | fail)
      go_ret
      exact ⟨A2, c2, rfl, HV.out⟩
end Go.Proofs.YtcpngmclhicciaaGreatDoor
/- 'slices.Grow' of nil. -/
namespace Go.Proofs.YtcpngmclhicciaaGreatDoor
open Go.RowKit Go.Proofs.YtcpngmclhicciaaGreatDoorW.PrintWords PMergejoinGroups
set_option linter.unusedVariables false
set_option linter.unusedSimpArgs false
theorem own_zeros {w : World} {n c sz : Nat} {e : TypeId} {z : Array Value} (hz : z.size = sz) (hc : c ≤ maxLen) (hn : n ≤ c) : (w.drew.alloc (.cells (Builtin.zeroCells z n ++ Builtin.zeroCells z (c - n)) e)).ownsRow w.heap.size e sz (.slice (some ⟨w.heap.size, 0, none⟩) 0 c) 0 [] := by
  refine ⟨by simp, .inr ⟨w.heap.size, c, Builtin.zeroCells z n ++ Builtin.zeroCells z (c - n), rfl, Nat.le_refl _, blk_new w.drew _, Nat.zero_le _, hc, ?_, by simp⟩⟩
  rw [Array.size_append, size_zeroCells, size_zeroCells, hz, ← Nat.add_mul, Nat.add_sub_cancel' hn]
def GrowPost (w : World) (e : Ending) (w' : World) : Prop := ∃ g c, e = .returned (.slice (some ⟨g, 0, none⟩) 0 c) ∧ Kd.N kF 78 w' w.heap.size (fun _ => True) (.slice (some ⟨g, 0, none⟩) 0 c) [] ∧ Below w.heap.size w w'
/-- 'append(nil, make([]Factor, n)...)'. -/
theorem make_event {ops : Array Oper} {rest : List Oper} {o : Oper} {a : Act} {Q : Exit → Act → World → Prop} (w : World) (hgd : o.guard = none) (s x : Operand) (ho : o.op = .call { callee := .builtin .append, args := #[s, x], argTypes := #[71, 3] })
    (n : Nat) (h1 : 1 ≤ n) (h2 : n ≤ 64) (hs : a.eval s = .slice none 0 0) (hx : a.eval x = .int .i64 n)
    (h : ∀ c W', n ≤ c → c ≤ 9223372036854775807 → Kd.N kF 78 W' w.heap.size (fun _ => True) (.slice (some ⟨w.heap.size, 0, none⟩) 0 c) [] → Below w.heap.size w W' → wpList Tryz.prog ops Q rest (a.put o.dst (.slice (some ⟨w.heap.size, 0, none⟩) n c)) W') : wpList Tryz.prog ops Q (o :: rest) a w := by
  obtain ⟨i0, hi, hz0, hz1, hz2⟩ := info_parts info78
  have hc : grownCap w n 0 78 ≤ maxLen := grownCap_le_maxLen w n 0 78 (by unfold maxLen; omega)
  refine Lib.wpList_append_run w hgd s x 71 3 ho _ _ hs hx _ _ (Lib.run_append_nil_zeros w 71 3 o.type 78 i0 _ .i64 .i64 Tryz.underlying71 Tryz.underlying3 hi hz0 n (by omega) (by rw [hz1]; decide) (by omega) (by rw [hz2]; omega)) ?_
  exact h _ _ (grownCap_ge w n 0 78) (by unfold maxLen at hc; exact hc) (Kd.N_mono (T_cap kF (E := fun _ => False) (own_zeros (w := w) (n := n) (sz := 11) (e := 78) (z := #[.int .i64 0, .int .i64 0, .int .i64 0, .slice none 0 0, .int .i64 0, .slice none 0 0, .int .i64 0, .int .i64 0, .int .i64 0, .string ⟨#[]⟩, .int .i64 0]) rfl hc (grownCap_ge w n 0 78)) (fun k h => h.elim)).1 (fun _ _ => trivial)) (below_alloc (below_drew (Below.refl _ _)) _)
set_option maxRecDepth 100000 in
set_option maxHeartbeats 4000000 in
theorem grow_calls (n : Nat) (h1 : 1 ≤ n) (h2 : n ≤ 64) (w : World) : Calls Tryz.prog 88 #[.slice none 0 0, .int .i64 n] w (GrowPost w) := by
  have HI := Aside0.mk (And.intro h1 h2)
  have hd0 : decide ((n : Int) < 0) = false := decide_eq_false (by omega)
  have hd1 : 0 < n := h1
  have hw0 : wrap64 (n : Int) = n := IntWalk.wrap64_in _ (by omega)
  have HW := Aside0.mk hw0
  clear h1 h2
  go_enter Tryz.func88, Tryz.ntmps88
  go_wp2_with (first | (refine make_event _ rfl _ _ rfl n HI.out.1 HI.out.2 rfl (congrArg (Value.int .i64) HW.out) ?_; intro c W' c1 c2 hN hB; have HN := Aside0.mk hN; have HB := Aside0.mk hB; clear hN hB) | fail)
  go_ret
  exact ⟨w.heap.size, c, rfl, HN.out, HB.out⟩
/-- A row of rows of factors. -/
def rdS (xss : List (List Fac)) (i : Int) : List Fac := xss.getD i.toNat []
theorem at_S {w : World} {A : Option Addr} {n : Nat} {xss : List (List Fac)} (h : Kd.C (Kd.slice 78 kF) w A n xss) (i : Int) (h0 : 0 ≤ i) (h1 : i < n) : ∃ ad A1 c1, A = some ad ∧ w.cell? (ad.add i.toNat) = some (.slice A1 (rdS xss i).length c1) ∧ (rdS xss i).length ≤ c1 ∧ Kd.C kF w A1 (rdS xss i).length (rdS xss i) := by
  obtain ⟨ad, c, e, _, hK, hc0⟩ := Kd.C_get h [] i h0 h1
  have hc : ∀ j u, c[j]? = some u → w.cell? (ad.add (i.toNat * 1 + j)) = some u := hc0
  obtain ⟨A0, c0, rfl, l0, g0⟩ := hK
  have h2 := hc 0 _ rfl
  rw [Nat.mul_one, Nat.add_zero] at h2
  exact ⟨ad, A0, c0, e, h2, l0, g0⟩
theorem takeS {xss : List (List Fac)} {i : Int} (h0 : 0 ≤ i) (h1 : i < xss.length) : (xss.take (i.toNat + 1)).flatten = (xss.take i.toNat).flatten ++ rdS xss i := by
  rw [List.take_add_one, List.getElem?_eq_getElem (by omega), rdS, List.getD_eq_getElem?_getD, List.getElem?_eq_getElem (by omega)]
  simp only [Option.toList_some, List.flatten_append, List.flatten_cons, List.flatten_nil, List.append_nil, Option.getD_some]
theorem takeS_le (xss : List (List Fac)) (n : Nat) : (xss.take n).flatten.length ≤ xss.flatten.length := by
  conv => rhs; rw [← List.take_append_drop n xss, List.flatten_append, List.length_append]
  omega
set_option maxRecDepth 100000 in
set_option maxHeartbeats 4000000 in
theorem concat_calls (xss : List (List Fac)) (h1 : 1 ≤ xss.flatten.length) (h2 : xss.flatten.length ≤ 64) (A : Option Addr) (c : Nat) (w : World) (hA : Kd.C (Kd.slice 78 kF) w A xss.length xss) : Calls Tryz.prog 61 #[.slice A xss.length c] w (FacsPost xss.flatten w) := by
  have hm : xss.length ≤ 9223372036854775807 := hA.2.1
  have HA := Aside0.mk (And.intro hA (And.intro h1 h2))
  clear hA h1 h2
  go_enter Tryz.func61, Tryz.ntmps61
  go_wp2
  go_loopg [3, 5, 11] (xss.length + 1) (fun kq v3 v5 v11 wr => ∃ i : Int, v11 = .int .i64 i ∧ v3 = .int .i64 ((xss.take i.toNat).flatten.length : Nat) ∧ Aside0 (0 ≤ i ∧ i ≤ xss.length ∧ kq = xss.length + 1 - i.toNat) ∧ Aside0 (w = wr))
  case atStart => exact ⟨0, rfl, rfl, ⟨by omega, by omega, by omega⟩, ⟨rfl⟩⟩
  case round =>
    obtain ⟨i, rfl, rfl, HI, HV⟩ := hrel
    obtain ⟨i0, i1, i2⟩ := HI.out
    obtain rfl := HV.out
    by_cases hlt : i < xss.length
    · have hb : decide (i < (xss.length : Int)) = true := decide_eq_true hlt
      obtain ⟨ad, A1, c1, rfl, x0, l1, g1⟩ := at_S HA.out.1 i i0 hlt
      have hT := takeS i0 hlt
      have hle := takeS_le xss (i.toNat + 1)
      have h64 := HA.out.2.2
      obtain ⟨y, hye⟩ : ∃ y, rdS xss i = y := ⟨_, rfl⟩
      rw [hye] at x0 l1 g1 hT
      obtain ⟨m, hme⟩ : ∃ m, (xss.take i.toNat).flatten.length = m := ⟨_, rfl⟩
      have hmn : (xss.take (i.toNat + 1)).flatten.length = m + y.length := by rw [hT, List.length_append, hme]
      rw [hme]
      have hw1 : wrap64 ((m : Int) + y.length) = (m : Int) + y.length := IntWalk.wrap64_in _ (by omega)
      have hd1 : decide ((m : Int) + y.length < 0) = false := decide_eq_false (Int.not_lt.2 (Int.add_nonneg (Int.natCast_nonneg _) (Int.natCast_nonneg _)))
      have HE := Aside0.mk (show ((m : Int) + y.length) = ((xss.take (i.toNat + 1)).flatten.length : Nat) by rw [hmn]; simp)
      clear hye i1 i2 l1 g1 hT hle h64 hmn hme
      replace hlt := eq_true hlt
      replace i0 := eq_true i0
      go_wp2
      have i0' := of_eq_true i0
      have hlt' := of_eq_true hlt
      go_roundg (xss.length + 1 - (i + 1).toNat)
      case measure => have := HI.out.2.2; omega
      case rel => exact ⟨i + 1, congrArg (Value.int .i64) (wrap_succ i0' hlt' hm), congrArg (Value.int .i64) (by rw [succ_toNat i0']; exact HE.out), ⟨by omega, by omega, rfl⟩, ⟨rfl⟩⟩
    · have hb : decide (i < (xss.length : Int)) = false := decide_eq_false hlt
      have hT : (xss.take i.toNat) = xss := List.take_of_length_le (by omega)
      rw [hT]
      obtain ⟨m, hme⟩ : ∃ m, xss.flatten.length = m := ⟨_, rfl⟩
      have HM := Aside0.mk (show 1 ≤ m ∧ m ≤ 64 from hme ▸ HA.out.2)
      rw [hme]
      clear hT i0 i1 i2 hlt HI hme
      go_upto_region 10 with (first | (go_at_call 88; (with_reducible refine (grow_calls m HM.out.1 HM.out.2 _).mono ?_); rintro e w1 ⟨g, cp, rfl, hN, hB⟩; have HN := Aside0.mk hN; have HB := Aside0.mk hB; clear hN hB) | fail)
      go_wp2
      go_loopg [6, 8, 27] (xss.length + 1) (fun kq v6 v8 v27 wr => ∃ i : Int, v27 = .int .i64 i ∧ Aside0 (0 ≤ i ∧ i ≤ xss.length ∧ kq = xss.length + 1 - i.toNat) ∧ Aside0 (Below w.heap.size w wr ∧ Kd.N kF 78 wr w.heap.size (fun _ => True) v6 ((xss.take i.toNat).flatten)))
      case atStart => exact ⟨0, rfl, ⟨by omega, by omega, by omega⟩, ⟨HB.out, HN.out⟩⟩
      case round =>
        clear HN HB
        obtain ⟨j, rfl, HJ, HV2⟩ := hrel
        obtain ⟨wo, rfl⟩ : ∃ wo : World, wo = wr := ⟨_, rfl⟩
        obtain ⟨j0, j1, j2⟩ := HJ.out
        by_cases hlj : j < xss.length
        · have hb2 : decide (j < (xss.length : Int)) = true := decide_eq_true hlj
          obtain ⟨ad, A1, c1, rfl, x0, l1, g1⟩ := at_S HA.out.1 j j0 hlj
          have hT := takeS j0 hlj
          have hle := takeS_le xss (j.toNat + 1)
          have h64 := HA.out.2.2
          obtain ⟨y, hye⟩ : ∃ y, rdS xss j = y := ⟨_, rfl⟩
          rw [hye] at x0 l1 g1 hT
          have HQ := Aside0.mk (show ((xss.take j.toNat).flatten.length + y.length) * 128 ≤ 140737488355328 by rw [hT, List.length_append] at hle; omega)
          have HT := Aside0.mk hT
          have HF := Aside0.mk (Kd.F_below (kF_F g1) HV2.out.1)
          have HK := Aside0.mk (show ∀ k, k < w.heap.size → True ∧ some k ≠ u6.ownBlock from fun k hk => ⟨trivial, fun he => by have := Kd.N_base HV2.out.2 k he.symm; omega⟩)
          replace x0 := cell_later HV2.out.1 x0
          clear hye j1 j2 l1 g1 hT hle h64
          replace hlj := eq_true hlj
          replace j0 := eq_true j0
          go_wp2_with (first | (refine Kd.N_append_rows kF (w0 := w) w.heap.size rfl (.tmp 31) (.tmp 32) 71 78 (.agg #[.int .i64 0, .int .i64 0, .int .i64 0, .slice none 0 0, .int .i64 0, .slice none 0 0, .int .i64 0, .int .i64 0, .int .i64 0, .string ⟨#[]⟩, .int .i64 0]) 128 rfl Tryz.underlying71 info78 rfl (by decide) (by omega) u6 ((xss.take j.toNat).flatten) y A1 y.length c1 (fun _ => True) (fun k => k < w.heap.size) rfl rfl HV2.out.2 HF.out HK.out (fun _ _ => trivial) HV2.out.1 HV2.out.1.size HQ.out ?_; intro v1 w3 hN1 hb1 hg1 hat1; have HN1 := Aside0.mk hN1; have HB1 := Aside0.mk hb1; clear hN1 hb1 hg1 hat1) | fail)
          have j0' := of_eq_true j0
          have hlj' := of_eq_true hlj
          go_roundg (xss.length + 1 - (j + 1).toNat)
          case measure => have := HJ.out.2.2; omega
          case rel => exact ⟨j + 1, congrArg (Value.int .i64) (wrap_succ j0' hlj' hm), ⟨by omega, by omega, rfl⟩, ⟨HB1.out, by rw [succ_toNat j0', HT.out]; exact HN1.out⟩⟩
        · have hb2 : decide (j < (xss.length : Int)) = false := decide_eq_false hlj
          have hT : (xss.take j.toNat) = xss := List.take_of_length_le (by omega)
          obtain ⟨A5, c5, e5, l5, g5⟩ := Kd.N_reads HV2.out.2
          rw [hT] at e5 l5 g5
          subst e5
          have HE := Aside0.mk (And.intro l5 (And.intro g5 HV2.out.1))
          clear hT j0 j1 j2 hlj HJ HV2 l5 g5
          go_wp2
          go_ret
          exact ⟨A5, c5, rfl, HE.out⟩
end Go.Proofs.YtcpngmclhicciaaGreatDoor
/- 'join' of two terms of one factor each. -/
namespace Go.Proofs.YtcpngmclhicciaaGreatDoor
open Go.RowKit Go.Proofs.YtcpngmclhicciaaGreatDoorW.PrintWords PMergejoinGroups
set_option linter.unusedVariables false
set_option linter.unusedSimpArgs false
def joinR (x y : Fac) : List Fac := if 0 < cmpA x y then [y, x] else [⟨x.t, x.s, x.e + y.e⟩]
theorem C_three {α : Type} {d : Kd α} (hd : d.sz = 1) {w : World} {g : Nat} {v0 v1 v2 : Value} {T : TypeId} {x0 x1 x2 : α} (h : w.heap[g]? = some (.cells #[v0, v1, v2] T (0, 0))) (k0 : d.K w x0 [v0]) (k1 : d.K w x1 [v1]) (k2 : d.K w x2 [v2]) : Kd.C d w (some ⟨g, 0, none⟩) 3 [x0, x1, x2] := by
  refine ⟨rfl, by decide, fun _ => ⟨⟨g, 0, none⟩, rfl, fun j p hj => ?_⟩⟩
  obtain ⟨c0, c1, c2⟩ := box3 h
  have e0 : ∀ n : Nat, (⟨g, 0, none⟩ : Addr).add n = ⟨g, n, none⟩ := fun n => by
    unfold Addr.add
    split
    · rename_i hi; rw [hi]
    · simp
  rw [hd]
  have one : ∀ (v : Value) (n : Nat), w.cell? ⟨g, n, none⟩ = some v → ∀ (i : Nat) (u : Value), [v][i]? = some u → w.cell? ((⟨g, 0, none⟩ : Addr).add (n * 1 + i)) = some u := fun v n hv i u hu => by
    have hi : i = 0 := by have := (List.getElem?_eq_some_iff.1 hu).1; simp at this; exact this
    subst hi
    rw [e0, Nat.mul_one, Nat.add_zero, hv]
    simpa using hu
  match j, hj with
  | 0, hj => cases hj; exact ⟨[v0], rfl, k0, one v0 0 c0⟩
  | 1, hj => cases hj; exact ⟨[v1], rfl, k1, one v1 1 c1⟩
  | 2, hj => cases hj; exact ⟨[v2], rfl, k2, one v2 2 c2⟩
  | j + 3, hj => simp at hj
theorem concat3_calls (a b c : List Fac) (h1 : 1 ≤ [a, b, c].flatten.length) (h2 : [a, b, c].flatten.length ≤ 64) (A : Option Addr) (k : Nat) (w : World) (hA : Kd.C (Kd.slice 78 kF) w A 3 [a, b, c]) : Calls Tryz.prog 61 #[.slice A 3 k] w (FacsPost [a, b, c].flatten w) := concat_calls [a, b, c] h1 h2 A k w hA
set_option maxRecDepth 100000 in
set_option maxHeartbeats 4000000 in
theorem join_calls (x y : Fac) (hc : 0 ≤ cmpA x y) (hx : 0 ≤ x.e ∧ x.e ≤ 32) (hy : 0 ≤ y.e ∧ y.e ≤ 32) (A B : Option Addr) (c d : Nat) (w : World) (hc1 : 1 ≤ c) (hd1 : 1 ≤ d) (hA : Kd.C kF w A 1 [x]) (hB : Kd.C kF w B 1 [y]) : Calls Tryz.prog 51 #[.slice A 1 c, .slice B 1 d] w (FacsPost (joinR x y) w) := by
  obtain ⟨ad, rfl, hX⟩ := at_F1 hA
  obtain ⟨bd, rfl, hY⟩ := at_F1 hB
  have HA := Aside0.mk (And.intro hA (And.intro hB (And.intro hX (And.intro hY (And.intro hx (And.intro hy (And.intro hc1 hd1)))))))
  have HC := Aside0.mk hc
  clear hA hB hX hY hx hy hc hc1 hd1
  go_enter Tryz.func51, Tryz.ntmps51
  go_wp2
  go_loopg [0, 1, 5, 6, 7, 48, 59] 2 (fun kq v0 v1 v5 v6 v7 v48 v59 wr => (kq = 2 ∧ v0 = .slice (some ad) 1 c ∧ v1 = .slice (some bd) 1 d ∧ v5 = .slice none 0 0 ∧ Aside0 (w = wr)) ∨ (∃ (os us : List Fac) (A0 A1 A5 : Option Addr) (c0 c1 c5 : Nat), kq = 1 ∧ v0 = .slice A0 us.length c0 ∧ v1 = .slice A1 0 c1 ∧ v5 = .slice A5 os.length c5 ∧ Aside0 (joinR x y = os ++ us ∧ os.length = 1 ∧ us.length ≤ c0 ∧ os.length ≤ c5 ∧ Kd.C kF wr A0 us.length us ∧ Kd.C kF wr A5 os.length os ∧ Below w.heap.size w wr)))
  case atStart => exact .inl ⟨rfl, rfl, rfl, rfl, ⟨rfl⟩⟩
  case round =>
    rcases hrel with ⟨hk, rfl, rfl, rfl, HV⟩ | ⟨os, us, A0, A1, A5, c0, c1, c5, hk, rfl, rfl, rfl, HV⟩
    · obtain rfl := HV.out
      obtain ⟨a0, a1, a2, a3, a4, a5, a6, a7, a8, a9, a10⟩ := HA.out.2.2.1
      obtain ⟨b0, b1, b2, b3, b4, b5, b6, b7, b8, b9, b10⟩ := HA.out.2.2.2.1
      go_upto_region 3 with (fail)
      have hba := Aside0.mk (below_drew (Below.refl w.heap.size w))
      go_region_held3 (fun w' => w'.cell? ad = some (.int .i64 0) ∧ w'.cell? ⟨ad.block, ad.off + 1, none⟩ = some (.int .i64 x.t) ∧ w'.cell? ⟨ad.block, ad.off + 2, none⟩ = some (.int .i64 x.s) ∧ w'.cell? ⟨ad.block, ad.off + 3, none⟩ = some (.slice none 0 0) ∧ w'.cell? ⟨ad.block, ad.off + 4, none⟩ = some (.int .i64 0) ∧ w'.cell? ⟨ad.block, ad.off + 5, none⟩ = some (.slice none 0 0) ∧ w'.cell? ⟨ad.block, ad.off + 6, none⟩ = some (.int .i64 0) ∧ w'.cell? ⟨ad.block, ad.off + 7, none⟩ = some (.int .i64 0) ∧ w'.cell? ⟨ad.block, ad.off + 8, none⟩ = some (.int .i64 0) ∧ w'.cell? ⟨ad.block, ad.off + 9, none⟩ = some (.string ⟨#[]⟩) ∧ w'.cell? bd = some (.int .i64 0) ∧ w'.cell? ⟨bd.block, bd.off + 1, none⟩ = some (.int .i64 y.t) ∧ w'.cell? ⟨bd.block, bd.off + 2, none⟩ = some (.int .i64 y.s) ∧ w'.cell? ⟨bd.block, bd.off + 3, none⟩ = some (.slice none 0 0) ∧ w'.cell? ⟨bd.block, bd.off + 4, none⟩ = some (.int .i64 0) ∧ w'.cell? ⟨bd.block, bd.off + 5, none⟩ = some (.slice none 0 0) ∧ w'.cell? ⟨bd.block, bd.off + 6, none⟩ = some (.int .i64 0) ∧ w'.cell? ⟨bd.block, bd.off + 7, none⟩ = some (.int .i64 0) ∧ w'.cell? ⟨bd.block, bd.off + 8, none⟩ = some (.int .i64 0) ∧ w'.cell? ⟨bd.block, bd.off + 9, none⟩ = some (.string ⟨#[]⟩)) (refine ⟨?_, ?_, ?_, ?_, ?_, ?_, ?_, ?_, ?_, ?_, ?_, ?_, ?_, ?_, ?_, ?_, ?_, ?_, ?_, ?_⟩ <;> (repeat (first | (with_reducible refine cell_dr ?_) | with_reducible exact a0 | with_reducible exact a1 | with_reducible exact a2 | with_reducible exact a3 | with_reducible exact a4 | with_reducible exact a5 | with_reducible exact a6 | with_reducible exact a7 | with_reducible exact a8 | with_reducible exact a9 | with_reducible exact b0 | with_reducible exact b1 | with_reducible exact b2 | with_reducible exact b3 | with_reducible exact b4 | with_reducible exact b5 | with_reducible exact b6 | with_reducible exact b7 | with_reducible exact b8 | with_reducible exact b9 | with_reducible exact cell_later hc1 a0 | with_reducible exact cell_later hc1 a1 | with_reducible exact cell_later hc1 a2 | with_reducible exact cell_later hc1 a3 | with_reducible exact cell_later hc1 a4 | with_reducible exact cell_later hc1 a5 | with_reducible exact cell_later hc1 a6 | with_reducible exact cell_later hc1 a7 | with_reducible exact cell_later hc1 a8 | with_reducible exact cell_later hc1 a9 | with_reducible exact cell_later hc1 b0 | with_reducible exact cell_later hc1 b1 | with_reducible exact cell_later hc1 b2 | with_reducible exact cell_later hc1 b3 | with_reducible exact cell_later hc1 b4 | with_reducible exact cell_later hc1 b5 | with_reducible exact cell_later hc1 b6 | with_reducible exact cell_later hc1 b7 | with_reducible exact cell_later hc1 b8 | with_reducible exact cell_later hc1 b9))) (first | (go_at_call 59; (with_reducible refine (cmpA_calls x y _).mono ?_); rintro e w1 ⟨rfl, hb1⟩; have hc1 := below_then hba.out hba.out.size hb1) | fail)
      have HW1 := Aside0.mk hc1
      clear a0 a1 a2 a3 a4 a5 a6 a7 a8 a9 a10 b0 b1 b2 b3 b4 b5 b6 b7 b8 b9 b10 hba hb1 hc1 HV
      obtain ⟨k, hke⟩ : ∃ k, cmpA x y = k := ⟨_, rfl⟩
      rw [hke] at HC ⊢
      have h00 : decide (k < 0) = false := decide_eq_false (Int.not_lt.2 HC.out)
      by_cases h0 : 0 < k
      · have h01 : decide (0 < k) = true := decide_eq_true h0
        have HR := Aside0.mk (show joinR x y = [y, x] by unfold joinR; rw [hke, if_pos h0])
        clear hke h0
        go_upto_region 11 with (fail)
        obtain ⟨b0, b1, b2, b3, b4, b5, b6, b7, b8, b9, b10⟩ := HA.out.2.2.2.1.later HW1.out
        have hbd := Aside0.mk (below_drew (Below.refl w1.heap.size w1))
        have HT := Aside0.mk (T_nil kF 78 w1 w.heap.size (fun _ => False) (fun k h => h.elim))
        have HR1 := Aside0.mk (show ∀ k, (Value.slice none 0 0).ownBlock = some k → w1.heap.size ≤ k from fun k h => by cases h)
        go_region_held3 (fun w' => w'.cell? bd = some (.int .i64 0) ∧ w'.cell? ⟨bd.block, bd.off + 1, none⟩ = some (.int .i64 y.t) ∧ w'.cell? ⟨bd.block, bd.off + 2, none⟩ = some (.int .i64 y.s) ∧ w'.cell? ⟨bd.block, bd.off + 3, none⟩ = some (.slice none 0 0) ∧ w'.cell? ⟨bd.block, bd.off + 4, none⟩ = some (.int .i64 0) ∧ w'.cell? ⟨bd.block, bd.off + 5, none⟩ = some (.slice none 0 0) ∧ w'.cell? ⟨bd.block, bd.off + 6, none⟩ = some (.int .i64 0) ∧ w'.cell? ⟨bd.block, bd.off + 7, none⟩ = some (.int .i64 0) ∧ w'.cell? ⟨bd.block, bd.off + 8, none⟩ = some (.int .i64 0) ∧ w'.cell? ⟨bd.block, bd.off + 9, none⟩ = some (.string ⟨#[]⟩) ∧ w'.cell? ⟨bd.block, bd.off + 10, none⟩ = some (.int .i64 y.e)) (refine ⟨(by repeat (first | (with_reducible refine cell_dr ?_) | (with_reducible refine cell_al ?_ _) | with_reducible exact b0 | with_reducible exact cell_own b0 (cell_later hbd.out b0) hg1 HR1.out)), (by repeat (first | (with_reducible refine cell_dr ?_) | (with_reducible refine cell_al ?_ _) | with_reducible exact b1 | with_reducible exact cell_own b1 (cell_later hbd.out b1) hg1 HR1.out)), (by repeat (first | (with_reducible refine cell_dr ?_) | (with_reducible refine cell_al ?_ _) | with_reducible exact b2 | with_reducible exact cell_own b2 (cell_later hbd.out b2) hg1 HR1.out)), (by repeat (first | (with_reducible refine cell_dr ?_) | (with_reducible refine cell_al ?_ _) | with_reducible exact b3 | with_reducible exact cell_own b3 (cell_later hbd.out b3) hg1 HR1.out)), (by repeat (first | (with_reducible refine cell_dr ?_) | (with_reducible refine cell_al ?_ _) | with_reducible exact b4 | with_reducible exact cell_own b4 (cell_later hbd.out b4) hg1 HR1.out)), (by repeat (first | (with_reducible refine cell_dr ?_) | (with_reducible refine cell_al ?_ _) | with_reducible exact b5 | with_reducible exact cell_own b5 (cell_later hbd.out b5) hg1 HR1.out)), (by repeat (first | (with_reducible refine cell_dr ?_) | (with_reducible refine cell_al ?_ _) | with_reducible exact b6 | with_reducible exact cell_own b6 (cell_later hbd.out b6) hg1 HR1.out)), (by repeat (first | (with_reducible refine cell_dr ?_) | (with_reducible refine cell_al ?_ _) | with_reducible exact b7 | with_reducible exact cell_own b7 (cell_later hbd.out b7) hg1 HR1.out)), (by repeat (first | (with_reducible refine cell_dr ?_) | (with_reducible refine cell_al ?_ _) | with_reducible exact b8 | with_reducible exact cell_own b8 (cell_later hbd.out b8) hg1 HR1.out)), (by repeat (first | (with_reducible refine cell_dr ?_) | (with_reducible refine cell_al ?_ _) | with_reducible exact b9 | with_reducible exact cell_own b9 (cell_later hbd.out b9) hg1 HR1.out)), (by repeat (first | (with_reducible refine cell_dr ?_) | (with_reducible refine cell_al ?_ _) | with_reducible exact b10 | with_reducible exact cell_own b10 (cell_later hbd.out b10) hg1 HR1.out))⟩) ((refine T_append_step kF (w0 := w) (W := w1.drew) w.heap.size (fun _ => False) (by rfl) (.tmp 62) (.tmp 66) 71 78 (.agg #[.int .i64 0, .int .i64 0, .int .i64 0, .slice none 0 0, .int .i64 0, .slice none 0 0, .int .i64 0, .int .i64 0, .int .i64 0, .string ⟨#[]⟩, .int .i64 0]) 128 rfl Tryz.underlying71 info78 rfl (by decide) (by omega) (.slice none 0 0) [] y (encF y) rfl rfl (kF_mkF _ _ y) rfl (T_below HT.out hbd.out) (below_drew HW1.out) HW1.out.size (by simp) ?_; intro v1 w3 hN1 hb1 hg1 hat1))
        obtain ⟨A5, c5, rfl, l5, g5⟩ := T_reads hN1
        have HB5 := Aside0.mk (And.intro l5 (And.intro g5 hb1))
        clear b0 b1 b2 b3 b4 b5 b6 b7 b8 b9 b10 hN1 hb1 hg1 hat1 HR1 hbd HT l5 g5
        go_wp2_with fail
        all_goals (go_roundg 1)
        all_goals first | (case measure => omega) | skip
        all_goals exact .inr ⟨[y], [x], some ad, _, A5, c, _, c5, rfl, rfl, rfl, rfl, ⟨HR.out, rfl, HA.out.2.2.2.2.2.2.1, HB5.out.1, Kd.C_below HA.out.1 HB5.out.2.2, HB5.out.2.1, HB5.out.2.2⟩⟩
      · have h01 : decide (0 < k) = false := decide_eq_false h0
        have HR := Aside0.mk (show joinR x y = [⟨x.t, x.s, x.e + y.e⟩] by unfold joinR; rw [hke, if_neg h0])
        clear hke h0
        obtain ⟨a0, a1, a2, a3, a4, a5, a6, a7, a8, a9, a10⟩ := HA.out.2.2.1.later HW1.out
        have HG := Aside0.mk (blk_new w1 (.cells #[.int .i64 0, .int .i64 x.t, .int .i64 x.s, .slice none 0 0, .int .i64 0, .slice none 0 0, .int .i64 0, .int .i64 0, .int .i64 0, .string ⟨#[]⟩, .int .i64 x.e] 78))
        have HW2 := Aside0.mk (below_alloc HW1.out (.cells #[.int .i64 0, .int .i64 x.t, .int .i64 x.s, .slice none 0 0, .int .i64 0, .slice none 0 0, .int .i64 0, .int .i64 0, .int .i64 0, .string ⟨#[]⟩, .int .i64 x.e] 78))
        go_upto_region 5 with (fail)
        clear a0 a1 a2 a3 a4 a5 a6 a7 a8 a9 a10
        obtain ⟨g, hg⟩ : ∃ g, w1.heap.size = g := ⟨_, rfl⟩
        obtain ⟨W2, hW2⟩ : ∃ W2 : World, w1.alloc (.cells #[.int .i64 0, .int .i64 x.t, .int .i64 x.s, .slice none 0 0, .int .i64 0, .slice none 0 0, .int .i64 0, .int .i64 0, .int .i64 0, .string ⟨#[]⟩, .int .i64 x.e] 78) = W2 := ⟨_, rfl⟩
        have HGE := Aside0.mk (show w.heap.size ≤ g from hg ▸ HW1.out.size)
        rw [hW2] at HG HW2 ⊢
        rw [hg] at HG ⊢
        clear hW2 hg
        obtain ⟨a0, a1, a2, a3, a4, a5, a6, a7, a8, a9, a10⟩ := box11 HG.out
        go_upto_region 6 with (first | (go_at_call 58; (with_reducible refine (idem_calls x _).mono ?_); rintro e w3 ⟨rfl, hb3⟩) | fail)
        clear a0 a1 a2 a3 a4 a5 a6 a7 a8 a9 a10
        have HG3 := Aside0.mk (blk_below HG.out hb3)
        have HW3 := Aside0.mk (below_then HW2.out HW2.out.size hb3)
        clear hb3 HG HW2
        have hge := (blk_cell HG3.out 10).trans rfl
        have b10 := cell_later HW3.out HA.out.2.2.2.1.2.2.2.2.2.2.2.2.2.2
        have hf := blk_frozen HG3.out 10
        go_region
        clear hge b10 hf
        obtain ⟨z, hz⟩ : ∃ z : Fac, z = ⟨x.t, x.s, x.e + y.e⟩ := ⟨_, rfl⟩
        have HZ := Aside0.mk (show (w3.setCell ⟨g, 10, none⟩ (.int .i64 (wrap64 (x.e + y.e)))).drew.heap[g]? = some (.cells #[.int .i64 0, .int .i64 z.t, .int .i64 z.s, .slice none 0 0, .int .i64 0, .slice none 0 0, .int .i64 0, .int .i64 0, .int .i64 0, .string ⟨#[]⟩, .int .i64 z.e] 78 (0, 0)) by
          rw [IntWalk.wrap64_in _ (by have := HA.out.2.2.2.2.1; have := HA.out.2.2.2.2.2.1; omega), hz]
          exact blk_set HG3.out 10 (.int .i64 (x.e + y.e)))
        have HW4 := Aside0.mk (below_drew (HW3.out.setCell (p := ⟨g, 10, none⟩) HGE.out (.int .i64 (wrap64 (x.e + y.e)))))
        have HR2 := Aside0.mk (show joinR x y = [z] from hz ▸ HR.out)
        obtain ⟨W4, hW4⟩ : ∃ W4 : World, (w3.setCell ⟨g, 10, none⟩ (.int .i64 (wrap64 (x.e + y.e)))).drew = W4 := ⟨_, rfl⟩
        rw [hW4] at HZ HW4 ⊢
        clear hW4 hz HR HG3 HW3
        obtain ⟨b0, b1, b2, b3, b4, b5, b6, b7, b8, b9, b10⟩ := box11 HZ.out
        have hbd := Aside0.mk (below_drew (Below.refl W4.heap.size W4))
        have HT := Aside0.mk (T_nil kF 78 W4 w.heap.size (fun _ => False) (fun k h => h.elim))
        have HR1 := Aside0.mk (show ∀ k, (Value.slice none 0 0).ownBlock = some k → W4.heap.size ≤ k from fun k h => by cases h)
        go_upto_region 7 with (fail)
        go_region_held3 (fun w' => w'.cell? ⟨g, 0, none⟩ = some (.int .i64 0) ∧ w'.cell? ⟨g, 1, none⟩ = some (.int .i64 z.t) ∧ w'.cell? ⟨g, 2, none⟩ = some (.int .i64 z.s) ∧ w'.cell? ⟨g, 3, none⟩ = some (.slice none 0 0) ∧ w'.cell? ⟨g, 4, none⟩ = some (.int .i64 0) ∧ w'.cell? ⟨g, 5, none⟩ = some (.slice none 0 0) ∧ w'.cell? ⟨g, 6, none⟩ = some (.int .i64 0) ∧ w'.cell? ⟨g, 7, none⟩ = some (.int .i64 0) ∧ w'.cell? ⟨g, 8, none⟩ = some (.int .i64 0) ∧ w'.cell? ⟨g, 9, none⟩ = some (.string ⟨#[]⟩) ∧ w'.cell? ⟨g, 10, none⟩ = some (.int .i64 z.e)) (refine ⟨(by repeat (first | (with_reducible refine cell_dr ?_) | (with_reducible refine cell_al ?_ _) | with_reducible exact b0 | with_reducible exact cell_own b0 (cell_later hbd.out b0) hg1 HR1.out)), (by repeat (first | (with_reducible refine cell_dr ?_) | (with_reducible refine cell_al ?_ _) | with_reducible exact b1 | with_reducible exact cell_own b1 (cell_later hbd.out b1) hg1 HR1.out)), (by repeat (first | (with_reducible refine cell_dr ?_) | (with_reducible refine cell_al ?_ _) | with_reducible exact b2 | with_reducible exact cell_own b2 (cell_later hbd.out b2) hg1 HR1.out)), (by repeat (first | (with_reducible refine cell_dr ?_) | (with_reducible refine cell_al ?_ _) | with_reducible exact b3 | with_reducible exact cell_own b3 (cell_later hbd.out b3) hg1 HR1.out)), (by repeat (first | (with_reducible refine cell_dr ?_) | (with_reducible refine cell_al ?_ _) | with_reducible exact b4 | with_reducible exact cell_own b4 (cell_later hbd.out b4) hg1 HR1.out)), (by repeat (first | (with_reducible refine cell_dr ?_) | (with_reducible refine cell_al ?_ _) | with_reducible exact b5 | with_reducible exact cell_own b5 (cell_later hbd.out b5) hg1 HR1.out)), (by repeat (first | (with_reducible refine cell_dr ?_) | (with_reducible refine cell_al ?_ _) | with_reducible exact b6 | with_reducible exact cell_own b6 (cell_later hbd.out b6) hg1 HR1.out)), (by repeat (first | (with_reducible refine cell_dr ?_) | (with_reducible refine cell_al ?_ _) | with_reducible exact b7 | with_reducible exact cell_own b7 (cell_later hbd.out b7) hg1 HR1.out)), (by repeat (first | (with_reducible refine cell_dr ?_) | (with_reducible refine cell_al ?_ _) | with_reducible exact b8 | with_reducible exact cell_own b8 (cell_later hbd.out b8) hg1 HR1.out)), (by repeat (first | (with_reducible refine cell_dr ?_) | (with_reducible refine cell_al ?_ _) | with_reducible exact b9 | with_reducible exact cell_own b9 (cell_later hbd.out b9) hg1 HR1.out)), (by repeat (first | (with_reducible refine cell_dr ?_) | (with_reducible refine cell_al ?_ _) | with_reducible exact b10 | with_reducible exact cell_own b10 (cell_later hbd.out b10) hg1 HR1.out))⟩) ((refine T_append_step kF (w0 := w) (W := W4.drew) w.heap.size (fun _ => False) (by rfl) (.tmp 40) (.tmp 42) 71 78 (.agg #[.int .i64 0, .int .i64 0, .int .i64 0, .slice none 0 0, .int .i64 0, .slice none 0 0, .int .i64 0, .int .i64 0, .int .i64 0, .string ⟨#[]⟩, .int .i64 0]) 128 rfl Tryz.underlying71 info78 rfl (by decide) (by omega) (.slice none 0 0) [] z (encF z) rfl rfl (kF_mkF _ _ z) rfl (T_below HT.out hbd.out) (below_drew HW4.out) HW4.out.size (by simp) ?_; intro v1 w5 hN1 hb1 hg1 hat1))
        obtain ⟨A5, c5, rfl, l5, g5⟩ := T_reads hN1
        have HB5 := Aside0.mk (And.intro l5 (And.intro g5 hb1))
        clear b0 b1 b2 b3 b4 b5 b6 b7 b8 b9 b10 hN1 hb1 hg1 hat1 HR1 hbd HT l5 g5
        go_wp2_with fail
        all_goals (go_roundg 1)
        all_goals first | (case measure => omega) | skip
        all_goals exact .inr ⟨[z], [], _, _, A5, _, _, c5, rfl, rfl, rfl, rfl, ⟨HR2.out, rfl, Nat.zero_le _, HB5.out.1, ⟨rfl, by decide, fun h => absurd h (Nat.lt_irrefl _)⟩, HB5.out.2.1, HB5.out.2.2⟩⟩
    · have HJ := Aside0.mk (show FacsPost (joinR x y) w = FacsPost [os, us, []].flatten w by rw [HV.out.1]; simp)
      have HL := Aside0.mk (show 1 ≤ [os, us, []].flatten.length ∧ [os, us, []].flatten.length ≤ 64 by
        have h1 : [os, us, []].flatten = joinR x y := by rw [HV.out.1]; simp
        rw [h1]; unfold joinR; split <;> simp)
      have HC3 := Aside0.mk (C_three (d := Kd.slice 78 kF) rfl (blk_new wr (.cells #[.slice A5 os.length c5, .slice A0 us.length c0, .slice A1 0 c1] 71))
        ⟨A5, c5, rfl, HV.out.2.2.2.1, Kd.C_below HV.out.2.2.2.2.2.1 (below_alloc (Below.refl _ _) _)⟩ ⟨A0, c0, rfl, HV.out.2.2.1, Kd.C_below HV.out.2.2.2.2.1 (below_alloc (Below.refl _ _) _)⟩ (x2 := []) ⟨A1, c1, rfl, Nat.zero_le _, ⟨rfl, by decide, fun h => absurd h (Nat.lt_irrefl _)⟩⟩)
      have HW5 := Aside0.mk (below_alloc HV.out.2.2.2.2.2.2 (.cells #[.slice A5 os.length c5, .slice A0 us.length c0, .slice A1 0 c1] 71))
      clear HC
      by_cases hu : 0 < us.length
      · have hd : decide (0 < (us.length : Int)) = true := decide_eq_true (by omega)
        go_wp2_with (first | (go_at_call 61; (with_reducible refine (concat3_calls os us [] HL.out.1 HL.out.2 _ 3 _ HC3.out).mono ?_); rintro e w7 ⟨A7, c7, rfl, h7⟩; have H7 := Aside0.mk h7; clear h7) | fail)
        go_ret
        rw [HJ.out]
        exact ⟨A7, c7, congrArg (fun n => Ending.returned (.slice A7 n c7)) (show os.length + us.length = [os, us, []].flatten.length by simp), H7.out.1, H7.out.2.1, below_then HW5.out HW5.out.size H7.out.2.2⟩
      · have hd : decide (0 < (us.length : Int)) = false := decide_eq_false (by omega)
        go_wp2_with (first | (go_at_call 61; (with_reducible refine (concat3_calls os us [] HL.out.1 HL.out.2 _ 3 _ HC3.out).mono ?_); rintro e w7 ⟨A7, c7, rfl, h7⟩; have H7 := Aside0.mk h7; clear h7) | fail)
        go_ret
        rw [HJ.out]
        exact ⟨A7, c7, congrArg (fun n => Ending.returned (.slice A7 n c7)) (show os.length + us.length = [os, us, []].flatten.length by simp), H7.out.1, H7.out.2.1, below_then HW5.out HW5.out.size H7.out.2.2⟩
end Go.Proofs.YtcpngmclhicciaaGreatDoor
/- 'copied' of one term, 'limited'. -/
namespace Go.Proofs.YtcpngmclhicciaaGreatDoor
open Go.RowKit Go.Proofs.YtcpngmclhicciaaGreatDoorW.PrintWords PMergejoinGroups
set_option linter.unusedVariables false
set_option linter.unusedSimpArgs false
theorem add_head (g n : Nat) : (⟨g, 0, none⟩ : Addr).add n = ⟨g, n, none⟩ := by
  unfold Addr.add
  split
  · rename_i hi; rw [hi]
  · simp
theorem set_rdF (fs : List Fac) {i : Int} (h0 : 0 ≤ i) (h1 : i < fs.length) : fs.set i.toNat (rdF fs i) = fs := by
  unfold rdF
  rw [List.getD_eq_getElem?_getD, List.getElem?_eq_getElem (by omega)]
  simp
/-- The clone of factors is a row of one's own. -/
def ClonePost (fs : List Fac) (w : World) (e : Ending) (w' : World) : Prop := ∃ g c, e = .returned (.slice (some ⟨g, 0, none⟩) fs.length c) ∧ Kd.N kF 78 w' w.heap.size (fun _ => True) (.slice (some ⟨g, 0, none⟩) fs.length c) fs ∧ Below w.heap.size w w'
set_option maxRecDepth 100000 in
set_option maxHeartbeats 1000000 in
theorem cloneN_calls (fs : List Fac) (ad : Addr) (c : Nat) (w : World) (h1 : 0 < fs.length) (hl : fs.length ≤ 64) (hA : Kd.C kF w (some ad) fs.length fs) : Calls Tryz.prog 89 #[.slice (some ad) fs.length c] w (ClonePost fs w) := by
  have hq : ∀ wx : World, (binOp .eql 71 (.slice (some ad) fs.length c) (.slice none 0 0)).run Tryz.prog wx = .ok (.bool false) wx := fun wx => Lib.run_eql_slice_nil wx 71 78 (some ad) fs.length c 0 0 Tryz.underlying71
  have HF := Aside0.mk (Kd.F_below (kF_F hA) (below_alloc (Below.refl w.heap.size w) (.cells #[] 78)))
  have HT := Aside0.mk (T_made (d := kF) (e := 78) (base := w.heap.size) (E := fun _ => False) (w := w) (xs := []) (Nat.le_refl _) (by simp) (fun k h => h.elim) (Reps.none _ _))
  have HB := Aside0.mk (below_alloc (Below.refl w.heap.size w) (.cells #[] 78))
  have HL := Aside0.mk (And.intro hl h1)
  clear hA hl h1
  go_enter Tryz.func89, Tryz.ntmps89
  have HN := Aside0.mk (Kd.N_mono HT.out.1 (ok' := fun _ => True) (fun _ _ => trivial))
  have HK := Aside0.mk (show ∀ k, k < w.heap.size → True ∧ some k ≠ (Value.slice (some ⟨w.heap.size, 0, none⟩) 0 0).ownBlock from fun k hk => ⟨trivial, by simp [Value.ownBlock]; omega⟩)
  go_wp2_with (first | (refine Kd.N_append_rows kF (w0 := w) w.heap.size rfl (.tmp 5) (.tmp 6) 71 78 (.agg #[.int .i64 0, .int .i64 0, .int .i64 0, .slice none 0 0, .int .i64 0, .slice none 0 0, .int .i64 0, .int .i64 0, .int .i64 0, .string ⟨#[]⟩, .int .i64 0]) 128 rfl Tryz.underlying71 info78 rfl (by decide) (by omega) (.slice (some ⟨w.heap.size, 0, none⟩) 0 0) [] fs (some ad) fs.length c (fun _ => True) (fun k => k < w.heap.size) rfl rfl HN.out HF.out HK.out (fun _ _ => trivial) HB.out HB.out.size (by have := HL.out; simp; omega) ?_; intro v1 w3 hN1 hb1 hg1 hat1; obtain ⟨g, c1, rfl, _⟩ := Kd.N_form hN1 (by have := HL.out; simpa using this.2)) | fail)
  go_ret
  exact ⟨g, c1, rfl, hN1, hb1⟩
theorem cloneN_calls' (fs : List Fac) (A : Option Addr) (c : Nat) (w : World) (h1 : 0 < fs.length) (hl : fs.length ≤ 64) (hA : Kd.C kF w A fs.length fs) : Calls Tryz.prog 89 #[.slice A fs.length c] w (ClonePost fs w) := by
  obtain ⟨ad, rfl, _⟩ := hA.2.2 h1
  exact cloneN_calls fs ad c w h1 hl hA
def kW : Kd (Int × Option Addr × Nat × Nat) := Kd.pair (Kd.int .i64) kSl
theorem kW_mk (W : World) (ok : Nat → Prop) (k : Int) (A : Option Addr) (n c : Nat) : Kd.FK kW W ok (k, A, n, c) [.int .i64 k, .slice A n c] := fun _ _ => ⟨[.int .i64 k], [.slice A n c], rfl, rfl, rfl⟩
def SlPost (w : World) (e : Ending) (w' : World) : Prop := ∃ A n c, e = .returned (.slice A n c) ∧ Below w.heap.size w w'
set_option maxRecDepth 100000 in
set_option maxHeartbeats 4000000 in
theorem copied_calls (x : Tm) (h1 : 0 < x.fs.length) (hl : x.fs.length ≤ 64) (A : Option Addr) (c : Nat) (w : World) (hA : Kd.C kT w A 1 [x]) : Calls Tryz.prog 62 #[.slice A 1 c] w (SlPost w) := by
  obtain ⟨ad, A1, c1, rfl, x0, x1, l0, g0⟩ := at_T1 hA
  have hm : x.fs.length ≤ 9223372036854775807 := g0.2.1
  have HA := Aside0.mk (And.intro g0 (And.intro x0 (And.intro x1 (And.intro h1 hl))))
  clear hA x0 x1 g0 h1 hl l0
  go_enter Tryz.func62, Tryz.ntmps62
  go_wp2
  go_loopg [3, 5, 6, 7, 10, 19] 2 (fun kq v3 v5 v6 v7 v10 v19 wr => (kq = 2 ∧ v10 = .int .i64 0 ∧ v3 = .slice none 0 0 ∧ Aside0 (w = wr)) ∨ (∃ A n c, kq = 1 ∧ v10 = .int .i64 1 ∧ v3 = .slice A n c ∧ Aside0 (Below w.heap.size w wr)))
  case atStart => exact .inl ⟨rfl, rfl, rfl, ⟨rfl⟩⟩
  case round =>
    rcases hrel with ⟨hk, rfl, rfl, HV⟩ | ⟨A2, n2, c2, hk, rfl, rfl, HV⟩
    · obtain rfl := HV.out
      have x0 := HA.out.2.1
      have x1 := HA.out.2.2.1
      have HX := Aside0.mk (blk_new w (.cells #[.int .i64 x.co, .slice A1 x.fs.length c1] 73))
      have HW2 := Aside0.mk (below_alloc (Below.refl w.heap.size w) (.cells #[.int .i64 x.co, .slice A1 x.fs.length c1] 73))
      go_upto_region 5 with (fail)
      clear HV
      obtain ⟨g, hg⟩ : ∃ g, w.heap.size = g := ⟨_, rfl⟩
      obtain ⟨W2, hW2⟩ : ∃ W2 : World, w.alloc (.cells #[.int .i64 x.co, .slice A1 x.fs.length c1] 73) = W2 := ⟨_, rfl⟩
      rw [hW2] at HX HW2 ⊢
      have HG := Aside0.mk (hg.symm)
      rw [hg] at HX ⊢
      clear hW2 hg x0 x1
      obtain ⟨b0, b1⟩ := box2 HX.out
      go_upto_region 6 with (first | (go_at_call 89; (with_reducible refine (cloneN_calls' x.fs A1 c1 _ HA.out.2.2.2.1 HA.out.2.2.2.2 (Kd.C_below HA.out.1 HW2.out)).mono ?_); rintro e w3 ⟨g3, c3, rfl, hN3, hb3⟩; have HN3 := Aside0.mk (And.intro hN3 hb3); clear hN3 hb3) | fail)
      clear b0 b1
      go_wp2_with fail
      go_loopg [7, 19] (x.fs.length + 1) (fun kq v7 v19 wi => ∃ j : Int, v19 = .int .i64 j ∧ Aside0 (0 ≤ j ∧ j ≤ x.fs.length ∧ kq = x.fs.length + 1 - j.toNat) ∧ Aside0 (Kd.N kF 78 wi W2.heap.size (fun _ => True) (.slice (some ⟨g3, 0, none⟩) x.fs.length c3) x.fs ∧ Below W2.heap.size W2 wi))
      case atStart => exact ⟨0, rfl, ⟨by omega, by omega, by omega⟩, HN3⟩
      case round =>
        clear HN3
        obtain ⟨j, rfl, HJ, HN⟩ := hrel
        obtain ⟨wo, rfl⟩ : ∃ wo : World, wo = wr := ⟨_, rfl⟩
        obtain ⟨j0, j1, j2⟩ := HJ.out
        by_cases hlt : j < x.fs.length
        · have hb : decide (j < (x.fs.length : Int)) = true := decide_eq_true hlt
          obtain ⟨_, _, hC⟩ := Kd.N_reads' HN.out.1
          obtain ⟨ad9, e9, hc⟩ := at_F hC j j0 hlt
          cases e9
          obtain ⟨_, cs, e8, hcl, hK8, hc8⟩ := Kd.C_get hC z78 j j0 hlt
          cases e8
          have hs := Aside0.mk (set_rdF x.fs j0 hlt)
          have hK9 : cs = encF (rdF x.fs j) := hK8
          subst hK9
          have hcc : ∀ (q : Nat) (u : Value), (encF (rdF x.fs j))[q]? = some u → wo.cell? ⟨g3, j.toNat * 11 + q, none⟩ = some u := fun q u hq => by rw [← add_head]; exact hc8 q u hq
          obtain ⟨y, hye⟩ : ∃ y, rdF x.fs j = y := ⟨_, rfl⟩
          change rdF x.fs j = y at hye
          rw [hye] at hc hs hcc
          rw [add_head] at hc
          obtain ⟨a0, a1, a2, a3, a4, a5, a6, a7, a8, a9, a10⟩ := hc
          have HCC := Aside0.mk hcc
          clear hc8 hK8 hcl hcc hye j1 j2 hC
          replace hlt := eq_true hlt
          replace j0 := eq_true j0
          go_wp2_with (first | (go_at_call 90; (with_reducible refine (copyA_calls y _).mono ?_); rintro e w4 ⟨rfl, hb4⟩; have HN4 := Aside0.mk (And.intro (Kd.N_below HN.out.1 hb4) (below_then HN.out.2 HN.out.2.size hb4)); have HCC4 := Aside0.mk (show ∀ (q : Nat) (u : Value), (encF y)[q]? = some u → w4.cell? ⟨g3, j.toNat * 11 + q, none⟩ = some u from fun q u hq => cell_later hb4 (HCC.out q u hq)); clear hb4) | (refine Kd.N_store kF (w0 := W2) W2.heap.size rfl rfl 76 (.tmp 31) (.tmp 29) rfl 78 (n := x.fs.length) (cap := c3) j 0 x.fs y (.agg #[.int .i64 0, .int .i64 y.t, .int .i64 y.s, .slice none 0 0, .int .i64 0, .slice none 0 0, .int .i64 0, .int .i64 0, .int .i64 0, .string ⟨#[]⟩]) [.int .i64 0, .int .i64 y.t, .int .i64 y.s, .slice none 0 0, .int .i64 0, .slice none 0 0, .int .i64 0, .int .i64 0, .int .i64 0, .string ⟨#[]⟩] (encF y) (fun _ => True) (fun _ => False) rfl rfl rfl rfl (by kernel_rfl) (by (intro q hq; simp only [List.mem_cons, List.not_mem_nil, or_false] at hq; rcases hq with rfl | rfl | rfl | rfl | rfl | rfl | rfl | rfl | rfl | rfl <;> rfl)) HN4.out.1 (of_eq_true j0) (of_eq_true hlt) rfl HCC4.out (show 0 + 10 ≤ 11 from by decide) (kF_mkF _ _ y) (fun k h => h.elim) HN4.out.2 ?_; intro w5 hN5 hb5 hg5; have HN5 := Aside0.mk (And.intro hN5 hb5); clear hN5 hb5 hg5) | fail)
          rw [hs.out] at HN5
          clear a0 a1 a2 a3 a4 a5 a6 a7 a8 a9 a10 HN4 HCC4 HCC HN
          have j0' := of_eq_true j0
          have hlt' := of_eq_true hlt
          go_roundg (x.fs.length + 1 - (j + 1).toNat)
          case measure => have := HJ.out.2.2; omega
          case rel => exact ⟨j + 1, congrArg (Value.int .i64) (wrap_succ j0' hlt' hm), ⟨by omega, by omega, rfl⟩, HN5⟩
        · have hb : decide (j < (x.fs.length : Int)) = false := decide_eq_false hlt
          have HX5 := Aside0.mk (blk_below HX.out HN.out.2)
          have HW5 := Aside0.mk (below_then HW2.out HW2.out.size HN.out.2)
          clear j0 j1 j2 hlt HJ HN
          obtain ⟨b0, b1⟩ := box2 HX5.out
          have HT := Aside0.mk (T_nil kW 73 wo w.heap.size (fun _ => False) (fun k h => h.elim))
          go_wp2_with (first | (refine T_append kW (w0 := w) w.heap.size (fun _ => False) (by rfl) (.tmp 33) (.tmp 38) 31 73 (.agg #[.int .i64 0, .slice none 0 0]) 32 rfl Tryz.underlying31 info73 rfl (by decide) (by omega) (.slice none 0 0) [] (x.co, some ⟨g3, 0, none⟩, x.fs.length, c3) [.int .i64 x.co, .slice (some ⟨g3, 0, none⟩) x.fs.length c3] rfl rfl (kW_mk _ _ _ _ _ _) HT.out HW5.out HW5.out.size (by simp) ?_; intro v1 w6 hN1 hb1 hg1 hat1; obtain ⟨A6, c6, rfl, _⟩ := T_reads hN1) | fail)
          have HE := Aside0.mk hb1
          clear hN1 hg1 hat1 hb1 b0 b1
          go_roundg 1
          case measure => omega
          case rel => exact .inr ⟨A6, _, c6, rfl, rfl, rfl, HE⟩
    · go_wp2
      go_ret
      exact ⟨A2, n2, c2, rfl, HV.out⟩
end Go.Proofs.YtcpngmclhicciaaGreatDoor
/- 'limited', 'Mul' of two annotations of one variable each. -/
namespace Go.Proofs.YtcpngmclhicciaaGreatDoor
open Go.RowKit Go.Proofs.YtcpngmclhicciaaGreatDoorW.PrintWords PMergejoinGroups
set_option linter.unusedVariables false
set_option linter.unusedSimpArgs false
def SlOkPost (w : World) (e : Ending) (w' : World) : Prop := ∃ A n c, e = .returned (.tuple #[.slice A n c, .int .i64 0]) ∧ Below w.heap.size w w'
set_option maxRecDepth 100000 in
set_option maxHeartbeats 1000000 in
theorem limited_calls (x : Tm) (h1 : 0 < x.fs.length) (hs : Small x.fs) (A : Option Addr) (c : Nat) (w : World) (hA : Kd.C kT w A 1 [x]) : Calls Tryz.prog 52 #[.slice A 1 c] w (SlOkPost w) := by
  have HS := Aside0.mk (show x.fs.length ≤ 64 from hs.1)
  have HA := Aside0.mk (And.intro hA (And.intro h1 hs))
  clear hA h1 hs
  go_enter Tryz.func52, Tryz.ntmps52
  go_wp2_with (first | (go_at_call 56; (with_reducible refine (within_calls x A c _ HA.out.2.2 HA.out.1).mono ?_); rintro e w1 ⟨rfl, hb1⟩; have HB := Aside0.mk hb1; clear hb1) | (go_at_call 62; (with_reducible refine (copied_calls x HA.out.2.1 HS.out A c _ (Kd.C_below HA.out.1 HB.out)).mono ?_); rintro e w2 ⟨A2, n2, c2, rfl, hb2⟩; have HB2 := Aside0.mk (below_then HB.out HB.out.size hb2); clear hb2) | fail)
  go_ret2
  exact ⟨A2, n2, c2, rfl, HB2.out⟩
theorem joinR_len (x y : Fac) : 0 < (joinR x y).length ∧ (joinR x y).length ≤ 2 := by unfold joinR; split <;> simp
set_option maxRecDepth 100000 in
set_option maxHeartbeats 4000000 in
theorem mul_calls (x y : Fac) (hx : OkF x) (hy : OkF y) (hfx : FmtOk x) (hc : 0 ≤ cmpA x y) (hj : ∀ z ∈ joinR x y, FmtOk z ∧ z.e ≤ 64) (hx2 : 0 ≤ x.e ∧ x.e ≤ 32) (hy2 : 0 ≤ y.e ∧ y.e ≤ 32) (A B : Option Addr) (c d : Nat) (w : World) (hA : Kd.C kT w A 1 [⟨1, [x]⟩]) (hB : Kd.C kT w B 1 [⟨1, [y]⟩]) : Calls Tryz.prog 37 #[.slice A 1 c, .slice B 1 d] w (SlOkPost w) := by
  obtain ⟨ad, A1, c1, rfl, x0, x1, l0, g0⟩ := at_T1 hA
  obtain ⟨bd, B1, d1, rfl, y0, y1, m0, k0⟩ := at_T1 hB
  have HA := Aside0.mk (And.intro hA (And.intro hx (And.intro (show Kd.C kF w A1 1 [x] from g0) (And.intro (show 1 ≤ c1 from l0) (And.intro x0 x1)))))
  have HB := Aside0.mk (And.intro hB (And.intro hy (And.intro (show Kd.C kF w B1 1 [y] from k0) (And.intro (show 1 ≤ d1 from m0) (And.intro y0 y1)))))
  have HC := Aside0.mk (And.intro hc (And.intro hx2 (And.intro hy2 hj)))
  clear hA hB hx hy x0 x1 l0 g0 y0 y1 m0 k0 hc hx2 hy2 hj hfx
  have HS := Aside0.mk (show Small (joinR x y) from ⟨Nat.le_trans (joinR_len x y).2 (by decide), fun z hz => (HC.out.2.2.2 z hz).2⟩)
  have HL1 := Aside0.mk (show 1 ≤ (joinR x y).length from (joinR_len x y).1)
  go_enter Tryz.func37, Tryz.ntmps37
  go_upto_region 3 with (first | (go_at_call 49; (with_reducible refine (valid_calls x HA.out.2.1 _ c _ HA.out.1).mono ?_); rintro e w1 ⟨rfl, hb1⟩; have HW1 := Aside0.mk hb1; clear hb1) | (go_at_call 49; (with_reducible refine (valid_calls y HB.out.2.1 _ d _ (Kd.C_below HB.out.1 HW1.out)).mono ?_); rintro e w2 ⟨rfl, hb2⟩; have HW2 := Aside0.mk (below_then HW1.out HW1.out.size hb2); clear hb2) | fail)
  go_wp2
  go_loopg [6, 8, 10, 21, 27] 2 (fun kq v6 v8 v10 v21 v27 wr => (kq = 2 ∧ v21 = .int .i64 0 ∧ v6 = .slice none 0 0 ∧ Aside0 (Below w.heap.size w wr)) ∨ (∃ A c, kq = 1 ∧ v21 = .int .i64 1 ∧ v6 = .slice A 1 c ∧ Aside0 (Kd.C kT wr A 1 [⟨1, joinR x y⟩] ∧ Below w.heap.size w wr)))
  case atStart => exact .inl ⟨rfl, rfl, rfl, HW2⟩
  case round =>
    clear HW1 HW2
    rcases hrel with ⟨hk, rfl, rfl, HV⟩ | ⟨A2, c2, hk, rfl, rfl, HV⟩
    · have x0 := cell_later HV.out HA.out.2.2.2.2.1
      have x1 := cell_later HV.out HA.out.2.2.2.2.2
      have HX := Aside0.mk (blk_new wr (.cells #[.int .i64 1, .slice A1 1 c1] 73))
      have HV2 := Aside0.mk (below_alloc HV.out (.cells #[.int .i64 1, .slice A1 1 c1] 73))
      go_upto_region 7 with (fail)
      obtain ⟨g, hg⟩ : ∃ g, wr.heap.size = g := ⟨_, rfl⟩
      obtain ⟨W3, hW3⟩ : ∃ W2 : World, wr.alloc (.cells #[.int .i64 1, .slice A1 1 c1] 73) = W2 := ⟨_, rfl⟩
      rw [hW3] at HX HV2 ⊢
      rw [hg] at HX ⊢
      clear hW3 hg x0 x1 HV
      go_wp2
      go_loopg [6, 10, 27] 2 (fun kq v6 v10 v27 wi => (kq = 2 ∧ v27 = .int .i64 0 ∧ v6 = .slice none 0 0 ∧ Aside0 (W3 = wi)) ∨ (∃ A c, kq = 1 ∧ v27 = .int .i64 1 ∧ v6 = .slice A 1 c ∧ Aside0 (Kd.C kT wi A 1 [⟨1, joinR x y⟩] ∧ Below w.heap.size w wi)))
      case atStart => exact .inl ⟨rfl, rfl, rfl, ⟨rfl⟩⟩
      case round =>
        rcases hrel with ⟨hk2, rfl, rfl, HI⟩ | ⟨A2, c2, hk2, rfl, rfl, HI⟩
        · obtain rfl := HI.out
          clear HI
          have y0 := cell_later HV2.out HB.out.2.2.2.2.1
          have y1 := cell_later HV2.out HB.out.2.2.2.2.2
          have HY := Aside0.mk (blk_new W3 (.cells #[.int .i64 1, .slice B1 1 d1] 73))
          have HX2 := Aside0.mk (blk_alloc HX.out (.cells #[.int .i64 1, .slice B1 1 d1] 73))
          have HV3 := Aside0.mk (below_alloc HV2.out (.cells #[.int .i64 1, .slice B1 1 d1] 73))
          go_upto_region 10 with (fail)
          obtain ⟨h, hh⟩ : ∃ g, W3.heap.size = g := ⟨_, rfl⟩
          obtain ⟨W4, hW4⟩ : ∃ W2 : World, W3.alloc (.cells #[.int .i64 1, .slice B1 1 d1] 73) = W2 := ⟨_, rfl⟩
          rw [hW4] at HX2 HY HV3 ⊢
          rw [hh] at HY ⊢
          clear hW4 hh y0 y1 HV2
          obtain ⟨a0, a1⟩ := box2 HX2.out
          obtain ⟨b0, b1⟩ := box2 HY.out
          have hbd := Aside0.mk (below_drew (Below.refl W4.heap.size W4))
          have hbw := Aside0.mk (below_drew HV3.out)
          have HR9 := Aside0.mk (show ∀ (W0 : World) k, (Value.slice none 0 0).ownBlock = some k → W0.heap.size ≤ k from fun W0 k h => by cases h)
          go_region_held3 (fun w' => w'.cell? ⟨g, 0, none⟩ = some (.int .i64 1) ∧ w'.cell? ⟨g, 1, none⟩ = some (.slice A1 1 c1) ∧ w'.cell? ⟨h, 0, none⟩ = some (.int .i64 1) ∧ w'.cell? ⟨h, 1, none⟩ = some (.slice B1 1 d1)) (refine ⟨(by repeat (first | (with_reducible refine cell_dr ?_) | (with_reducible refine cell_al ?_ _) | with_reducible exact a0 | with_reducible exact cell_later HJ.out.2.2.2 a0 | with_reducible exact cell_own (cell_later HJ.out.2.2.2 a0) (cell_later HJ.out.2.2.2 a0) hg1 (HR9.out w9))), (by repeat (first | (with_reducible refine cell_dr ?_) | (with_reducible refine cell_al ?_ _) | with_reducible exact a1 | with_reducible exact cell_later HJ.out.2.2.2 a1 | with_reducible exact cell_own (cell_later HJ.out.2.2.2 a1) (cell_later HJ.out.2.2.2 a1) hg1 (HR9.out w9))), (by repeat (first | (with_reducible refine cell_dr ?_) | (with_reducible refine cell_al ?_ _) | with_reducible exact b0 | with_reducible exact cell_later HJ.out.2.2.2 b0 | with_reducible exact cell_own (cell_later HJ.out.2.2.2 b0) (cell_later HJ.out.2.2.2 b0) hg1 (HR9.out w9))), (by repeat (first | (with_reducible refine cell_dr ?_) | (with_reducible refine cell_al ?_ _) | with_reducible exact b1 | with_reducible exact cell_later HJ.out.2.2.2 b1 | with_reducible exact cell_own (cell_later HJ.out.2.2.2 b1) (cell_later HJ.out.2.2.2 b1) hg1 (HR9.out w9)))⟩) (first | (go_at_call 50; (with_reducible refine (times_one _).mono ?_); rintro e w5 ⟨rfl, rfl⟩) | (go_at_call 51; (with_reducible refine (join_calls x y HC.out.1 HC.out.2.1 HC.out.2.2.1 _ _ c1 d1 _ HA.out.2.2.2.1 HB.out.2.2.2.1 (Kd.C_below HA.out.2.2.1 hbw.out) (Kd.C_below HB.out.2.2.1 hbw.out)).mono ?_); rintro e w9 ⟨A9, c9, rfl, l9, g9, hb9⟩; have HJ := Aside0.mk (And.intro l9 (And.intro g9 (And.intro (below_then hbw.out hbw.out.size hb9) (below_then hbd.out hbd.out.size hb9)))); clear l9 g9 hb9) | (refine T_append_step kT (w0 := w) (W := w9) w.heap.size (fun k => k < w9.heap.size) (by rfl) (.tmp 31) (.tmp 43) 30 73 (.agg #[.int .i64 0, .slice none 0 0]) 32 rfl Tryz.underlying30 info73 rfl (by decide) (by omega) (.slice none 0 0) [] ⟨1, joinR x y⟩ [.int .i64 1, .slice A9 (joinR x y).length c9] rfl rfl (kT_FK (x := ⟨1, joinR x y⟩) HJ.out.1 HJ.out.2.1 (Below.refl _ _)) rfl (T_nil kT 73 w9 w.heap.size (fun k => k < w9.heap.size) (fun k h => h)) HJ.out.2.2.1 HJ.out.2.2.1.size (by simp) ?_; intro v1 w3 hN1 hb1 hg1 hat1) | fail)
          obtain ⟨A6, c6, rfl, l6, g6⟩ := T_reads hN1
          have HE := Aside0.mk (show Kd.C kT w3 A6 1 [⟨1, joinR x y⟩] ∧ Below w.heap.size w w3 from ⟨g6, hb1⟩)
          clear hN1 hb1 hg1 hat1 a0 a1 b0 b1 l6 g6 HJ hbd hbw
          go_wp2_with fail
          go_roundg 1
          case measure => omega
          case rel => exact .inr ⟨A6, c6, rfl, rfl, rfl, HE⟩
        · go_wp2
          go_roundg 1
          case measure => omega
          case rel => exact .inr ⟨A2, c2, rfl, rfl, rfl, HI⟩
    · go_wp2_with (first | (go_at_call 53; (with_reducible refine (collect_calls ⟨1, joinR x y⟩ (joinR_len x y).2 HL1.out (fun z hz => (HC.out.2.2.2 z hz).1) A2 c2 _ HV.out.1).mono ?_); rintro e w3 ⟨A3, c3, rfl, l3, g3, hb3⟩; have H3 := Aside0.mk (And.intro g3 (below_then HV.out.2 HV.out.2.size hb3)); clear l3 g3 hb3) | (go_at_call 52; (with_reducible refine (limited_calls ⟨1, joinR x y⟩ (joinR_len x y).1 HS.out A3 c3 _ H3.out.1).mono ?_); rintro e w4 ⟨A4, n4, c4, rfl, hb4⟩; have H4 := Aside0.mk (below_then H3.out.2 H3.out.2.size hb4); clear hb4) | fail)
      go_ret2
      exact ⟨A4, n4, c4, rfl, H4.out⟩
end Go.Proofs.YtcpngmclhicciaaGreatDoor
