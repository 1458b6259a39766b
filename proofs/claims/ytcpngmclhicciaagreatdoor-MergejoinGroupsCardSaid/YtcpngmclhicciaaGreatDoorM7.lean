/- The arguments opened, and the row. -/
import Derived.Test.YtcpngmclhicciaaGreatDoorM6
import Derived.Test.YtcpngmclhicciaaGreatDoorRows
import Derived.ProofKit
import Derived.LaidMore
import Derived.OpenShut
import Derived.Stop.Joined
import Derived.Lay
import Derived.ShutString
import Derived.ChangeOld
/- How the data of the arguments read: rows with their annotations, keys, for the walks. -/
namespace Go.Proofs.YtcpngmclhicciaaGreatDoor
open Go.ChangeShapes Go.WideShapes Go.ChangeAt Go.WideElems Go.RowKit Go.Proofs.YtcpngmclhicciaaGreatDoorW.PrintWords PMergejoinGroups
set_option linter.unusedVariables false
set_option linter.unusedSimpArgs false
set_option maxRecDepth 100000
section
variable {H : Type} {enc : TypeId × Value → H} {W : World} {base : Nat} {sp : Nat → Bool} {held : Bool}
theorem co2 : Tryz.prog.cellsOf 2 = 1 := by kernel_rfl
theorem co3 : Tryz.prog.cellsOf 3 = 1 := by kernel_rfl
theorem co9 : Tryz.prog.cellsOf 9 = 1 := by kernel_rfl
theorem co27 : Tryz.prog.cellsOf 27 = 1 := by kernel_rfl
theorem co31 : Tryz.prog.cellsOf 31 = 1 := by kernel_rfl
theorem co33 : Tryz.prog.cellsOf 33 = 2 := by kernel_rfl
theorem co42 : Tryz.prog.cellsOf 42 = 3 := by kernel_rfl
theorem co57 : Tryz.prog.cellsOf 57 = 1 := by kernel_rfl
theorem co65 : Tryz.prog.cellsOf 65 = 2 := by kernel_rfl
theorem co71 : Tryz.prog.cellsOf 71 = 1 := by kernel_rfl
theorem co73 : Tryz.prog.cellsOf 73 = 2 := by kernel_rfl
theorem co74 : Tryz.prog.cellsOf 74 = 1 := by kernel_rfl
theorem co76 : Tryz.prog.cellsOf 76 = 10 := by kernel_rfl
theorem co78 : Tryz.prog.cellsOf 78 = 11 := by kernel_rfl
theorem co80 : Tryz.prog.cellsOf 80 = 4 := by kernel_rfl
/-- A row whose elements read one by one, as one row. -/
theorem row_of {α : Type} (d : Kd α) (Good : α → Prop) (a : Addr) (len : Nat) (hm : len ≤ 9223372036854775807) (h : ∀ i, i < len → ∃ x c, Good x ∧ c.length = d.sz ∧ d.K W x c ∧ ∀ k u, c[k]? = some u → W.cell? (a.add (i * d.sz + k)) = some u) :
    ∃ xs : List α, xs.length = len ∧ (∀ x ∈ xs, Good x) ∧ Kd.C d W (some a) len xs := by
  have key : ∀ m, m ≤ len → ∃ xs : List α, xs.length = m ∧ ∀ j x, xs[j]? = some x → Good x ∧ ∃ c, c.length = d.sz ∧ d.K W x c ∧ ∀ k u, c[k]? = some u → W.cell? (a.add (j * d.sz + k)) = some u := by
    intro m
    induction m with
    | zero => intro _; exact ⟨[], rfl, fun j x hj => by simp at hj⟩
    | succ m ih =>
      intro hle
      obtain ⟨xs, hl, hx⟩ := ih (by omega)
      obtain ⟨x, c, hg, hc, hk, hu⟩ := h m (by omega)
      refine ⟨xs ++ [x], by rw [List.length_append, hl]; rfl, fun j y hj => ?_⟩
      rcases Nat.lt_or_ge j xs.length with hlt | hge
      · rw [List.getElem?_append_left hlt] at hj
        exact hx j y hj
      · rw [List.getElem?_append_right hge] at hj
        obtain ⟨h0, rfl⟩ : j - xs.length = 0 ∧ x = y := by
          rcases hq : j - xs.length with _ | q
          · rw [hq] at hj
            exact ⟨rfl, by simpa using hj⟩
          · rw [hq] at hj
            simp at hj
        obtain rfl : j = m := by omega
        exact ⟨hg, c, hc, hk, hu⟩
  obtain ⟨xs, hl, hx⟩ := key len (Nat.le_refl _)
  refine ⟨xs, hl, fun x hm => ?_, hl, hm, fun _ => ⟨a, rfl, fun j p hj => (hx j p hj).2⟩⟩
  obtain ⟨j, hj⟩ := List.getElem?_of_mem hm
  exact (hx j x hj).1
/-- A slice's elements, each with its cells. -/
theorem elems_of {T e sz fuel : Nat} (hu : Tryz.prog.underlying T = some (.slice e)) (hsz : Tryz.prog.cellsOf e = sz) {cs : List Value} {y : DataW H × List MemPlace} (h : DataW.trod enc Tryz.prog W base sp held fuel T cs = some y) :
    ∃ (A : Option Addr) (n c : Nat), cs = [.slice A n c] ∧ n ≤ c ∧ n ≤ 9223372036854775807 ∧ ∀ i, i < n → ∃ a cs' y' n2, A = some a ∧ DataW.trod enc Tryz.prog W base sp held n2 e cs' = some y' ∧ cs'.length = sz ∧ ∀ k u, cs'[k]? = some u → W.cell? (a.add (i * sz + k)) = some u := by
  rcases DataW.trod_slice hu h with ⟨e4, _⟩ | ⟨a, len, cap, elems, rest, n2, rfl, e4, _, _, hle, hcap, hel, hi, _, _⟩
  · exact ⟨none, 0, 0, e4, Nat.le_refl _, by decide, fun i hi => absurd hi (Nat.not_lt_zero _)⟩
  · refine ⟨some a, len, cap, e4, hle, by unfold maxLen at hcap; omega, fun i hlt => ?_⟩
    have hb := hi i hlt
    rw [List.getElem?_eq_getElem (by omega)] at hb
    obtain ⟨cs', hc, ht⟩ := Option.bind_eq_some_iff.1 hb
    obtain ⟨_, hs, hcell⟩ := World.cells?_some hc
    rw [hsz] at hs hcell
    refine ⟨a, cs', _, n2, rfl, ht, hs, fun k u hu => ?_⟩
    have hk : k < sz := by rw [← hs]; exact (List.getElem?_eq_some_iff.1 hu).1
    have := hcell k hk
    rw [Addr.add_add] at this
    exact this.trans hu
theorem open42 {fuel : Nat} {cs : List Value} {y : DataW H × List MemPlace} (h : DataW.trod enc Tryz.prog W base sp held fuel 42 cs = some y) : ∃ x : S42, cs = [.int .i64 x.f0, .int .i64 x.f1, .string x.f2] ∧ x.f2.size ≤ 9223372036854775807 := by
  obtain ⟨xs, n, rfl, _, hl, hn, hf⟩ := DataW.trod_struct Tryz.underlying42 h
  have h0 : DataW.trod enc Tryz.prog W base sp held n 3 (List.take (Tryz.prog.cellsOf 3) (List.drop 0 cs)) = xs[0]? := hf 0 _ rfl
  rw [co3] at h0
  have h1 : DataW.trod enc Tryz.prog W base sp held n 2 (List.take (Tryz.prog.cellsOf 2) (List.drop 1 cs)) = xs[1]? := hf 1 _ rfl
  rw [co2] at h1
  have h2 : DataW.trod enc Tryz.prog W base sp held n 9 (List.take (Tryz.prog.cellsOf 9) (List.drop 2 cs)) = xs[2]? := hf 2 _ rfl
  rw [co9] at h2
  rw [co42] at hl
  match cs, hl, xs, hn with
  | [c0, c1, c2], _, [x0, x1, x2], _ =>
    obtain ⟨f0, e0, _⟩ := DataW.trod_int Tryz.underlying3 h0
    obtain ⟨f1, e1, _⟩ := DataW.trod_int Tryz.underlying2 h1
    obtain ⟨f2, e2, _, s2⟩ := DataW.trod_string Tryz.underlying9 h2
    simp only [List.drop_zero, List.drop_succ_cons, List.take_succ_cons, List.take_zero, List.cons.injEq, and_true] at e0 e1 e2
    subst e0 e1 e2
    exact ⟨⟨f0, f1, f2⟩, rfl, by unfold maxLen at s2; exact s2⟩
theorem open65 {fuel : Nat} {cs : List Value} {y : DataW H × List MemPlace} (h : DataW.trod enc Tryz.prog W base sp held fuel 65 cs = some y) : ∃ a b : Int, cs = [.int .i64 a, .int .i64 b] := by
  obtain ⟨xs, n, rfl, _, hl, hn, hf⟩ := DataW.trod_struct Tryz.underlying65 h
  have h0 : DataW.trod enc Tryz.prog W base sp held n 3 (List.take (Tryz.prog.cellsOf 3) (List.drop 0 cs)) = xs[0]? := hf 0 _ rfl
  rw [co3] at h0
  have h1 : DataW.trod enc Tryz.prog W base sp held n 3 (List.take (Tryz.prog.cellsOf 3) (List.drop 1 cs)) = xs[1]? := hf 1 _ rfl
  rw [co3] at h1
  rw [co65] at hl
  match cs, hl, xs, hn with
  | [c0, c1], _, [x0, x1], _ =>
    obtain ⟨f0, e0, _⟩ := DataW.trod_int Tryz.underlying3 h0
    obtain ⟨f1, e1, _⟩ := DataW.trod_int Tryz.underlying3 h1
    simp only [List.drop_zero, List.drop_succ_cons, List.take_succ_cons, List.take_zero, List.cons.injEq, and_true] at e0 e1
    subst e0 e1
    exact ⟨f0, f1, rfl⟩
theorem fld (a : Addr) (m k : Nat) (hk : 0 < k) : (a.add (m + k)) = ⟨(a.add m).block, (a.add m).off + k, none⟩ := (add_field a m k hk).symm ▸ rfl
/-- An annotation reads, however deep. -/
theorem ann_of : ∀ (d : Nat) {fuel : Nat} {cs : List Value} {y : DataW H × List MemPlace}, DataW.trod enc Tryz.prog W base sp held fuel 31 cs = some y → ∃ A n c, cs = [.slice A n c] ∧ RAnn d W A n := by
  intro d
  induction d with
  | zero =>
    intro fuel cs y h
    obtain ⟨A, n, c, e, _⟩ := elems_of Tryz.underlying31 co73 h
    exact ⟨A, n, c, e, trivial⟩
  | succ d ih =>
    intro fuel cs y h
    obtain ⟨A, n, c, e, _, hn, hel⟩ := elems_of Tryz.underlying31 co73 h
    refine ⟨A, n, c, e, hn, fun i h0 h1 => ?_⟩
    obtain ⟨ad, c1, y1, n1, rfl, t1, l1, g1⟩ := hel i.toNat (by omega)
    obtain ⟨xs, n2, rfl, _, _, hx, hf⟩ := DataW.trod_struct Tryz.underlying73 t1
    have k0 : DataW.trod enc Tryz.prog W base sp held n2 2 (List.take (Tryz.prog.cellsOf 2) (List.drop 0 c1)) = xs[0]? := hf 0 _ rfl
    have k1 : DataW.trod enc Tryz.prog W base sp held n2 71 (List.take (Tryz.prog.cellsOf 71) (List.drop 1 c1)) = xs[1]? := hf 1 _ rfl
    rw [co2] at k0
    rw [co71] at k1
    match c1, l1, xs, hx with
    | [u0, u1], _, [x0, x1], _ =>
      obtain ⟨co, e0, _⟩ := DataW.trod_int Tryz.underlying2 k0
      obtain ⟨B, nf, cf, e1, _, hnf, hfe⟩ := elems_of Tryz.underlying71 co78 k1
      simp only [List.drop_zero, List.drop_succ_cons, List.take_succ_cons, List.take_zero, List.cons.injEq, and_true] at e0 e1
      subst e0 e1
      refine ⟨ad, co, B, nf, cf, rfl, g1 0 _ rfl, by have := g1 1 _ rfl; rwa [fld _ _ _ (by decide)] at this, hnf, fun j j0 j1 => ?_⟩
      obtain ⟨bd, c2, y2, n3, rfl, t2, l2, g2⟩ := hfe j.toNat (by omega)
      obtain ⟨zs, n4, rfl, _, _, hz, hg⟩ := DataW.trod_struct Tryz.underlying78 t2
      have q0 : DataW.trod enc Tryz.prog W base sp held n4 76 (List.take (Tryz.prog.cellsOf 76) (List.drop 0 c2)) = zs[0]? := hg 0 _ rfl
      rw [co76] at q0
      match c2, l2, zs, hz with
      | [w0, w1, w2, w3, w4, w5, w6, w7, w8, w9, w10], _, [z0, z1], _ =>
        obtain ⟨vs, n5, rfl, _, _, hv, hh⟩ := DataW.trod_struct Tryz.underlying76 q0
        have r0 : DataW.trod enc Tryz.prog W base sp held n5 3 (List.take (Tryz.prog.cellsOf 3) (List.drop 0 [w0, w1, w2, w3, w4, w5, w6, w7, w8, w9])) = vs[0]? := hh 0 _ rfl
        have r1 : DataW.trod enc Tryz.prog W base sp held n5 65 (List.take (Tryz.prog.cellsOf 65) (List.drop 1 [w0, w1, w2, w3, w4, w5, w6, w7, w8, w9])) = vs[1]? := hh 1 _ rfl
        have r2 : DataW.trod enc Tryz.prog W base sp held n5 57 (List.take (Tryz.prog.cellsOf 57) (List.drop 3 [w0, w1, w2, w3, w4, w5, w6, w7, w8, w9])) = vs[2]? := hh 2 _ rfl
        have r3 : DataW.trod enc Tryz.prog W base sp held n5 3 (List.take (Tryz.prog.cellsOf 3) (List.drop 4 [w0, w1, w2, w3, w4, w5, w6, w7, w8, w9])) = vs[3]? := hh 3 _ rfl
        have r4 : DataW.trod enc Tryz.prog W base sp held n5 74 (List.take (Tryz.prog.cellsOf 74) (List.drop 5 [w0, w1, w2, w3, w4, w5, w6, w7, w8, w9])) = vs[4]? := hh 4 _ rfl
        have r5 : DataW.trod enc Tryz.prog W base sp held n5 3 (List.take (Tryz.prog.cellsOf 3) (List.drop 6 [w0, w1, w2, w3, w4, w5, w6, w7, w8, w9])) = vs[5]? := hh 5 _ rfl
        have r6 : DataW.trod enc Tryz.prog W base sp held n5 42 (List.take (Tryz.prog.cellsOf 42) (List.drop 7 [w0, w1, w2, w3, w4, w5, w6, w7, w8, w9])) = vs[6]? := hh 6 _ rfl
        rw [co3] at r0 r3 r5
        rw [co65] at r1
        rw [co57] at r2
        rw [co74] at r4
        rw [co42] at r6
        match vs, hv with
        | [a0, a1, a2, a3, a4, a5, a6], _ =>
          obtain ⟨k, ek, _⟩ := DataW.trod_int Tryz.underlying3 r0
          obtain ⟨t, s, ets⟩ := open65 r1
          obtain ⟨C, na, ca, eC, _, hna, hCe⟩ := elems_of Tryz.underlying57 co31 r2
          obtain ⟨fn, efn, _⟩ := DataW.trod_int Tryz.underlying3 r3
          obtain ⟨D, ni, ci, eD, _, hni, hDe⟩ := elems_of Tryz.underlying74 co80 r4
          obtain ⟨op, eop, _⟩ := DataW.trod_int Tryz.underlying3 r5
          obtain ⟨⟨bk, bi, bt⟩, ebb, hbt⟩ := open42 r6
          simp only [List.drop_zero, List.drop_succ_cons, List.take_succ_cons, List.take_zero, List.cons.injEq, and_true] at ek ets eC efn eD eop ebb
          obtain ⟨et, es⟩ := ets
          obtain ⟨eb0, eb1, eb2⟩ := ebb
          subst ek et es eC efn eD eop eb0 eb1 eb2
          have f := fun (k : Nat) (hk : 0 < k) (u : Value) (hu : W.cell? (bd.add (j.toNat * 11 + k)) = some u) => (show W.cell? ⟨(bd.add (j.toNat * 11)).block, (bd.add (j.toNat * 11)).off + k, none⟩ = some u by rwa [fld _ _ _ hk] at hu)
          refine ⟨bd, k, t, s, fn, op, bk, bi, bt, C, D, na, ca, ni, ci, rfl, g2 0 _ rfl, f 1 (by decide) _ (g2 1 _ rfl), f 2 (by decide) _ (g2 2 _ rfl), f 3 (by decide) _ (g2 3 _ rfl), f 4 (by decide) _ (g2 4 _ rfl), f 5 (by decide) _ (g2 5 _ rfl), f 6 (by decide) _ (g2 6 _ rfl), f 7 (by decide) _ (g2 7 _ rfl), f 8 (by decide) _ (g2 8 _ rfl), f 9 (by decide) _ (g2 9 _ rfl), hbt, ⟨hna, fun m m0 m1 => ?_⟩, ⟨hni, fun m m0 m1 => ?_⟩⟩
          · obtain ⟨cd, c3, y3, n6, rfl, t3, l3, g3⟩ := hCe m.toNat (by omega)
            obtain ⟨A', n', c', rfl, hA'⟩ := ih t3
            exact ⟨cd, A', n', c', rfl, by have := g3 0 _ rfl; simpa using this, hA'⟩
          · obtain ⟨cd, c3, y3, n6, rfl, t3, l3, g3⟩ := hDe m.toNat (by omega)
            obtain ⟨ps, n7, rfl, _, _, hp, hk⟩ := DataW.trod_struct Tryz.underlying80 t3
            have s0 : DataW.trod enc Tryz.prog W base sp held n7 42 (List.take (Tryz.prog.cellsOf 42) (List.drop 0 c3)) = ps[0]? := hk 0 _ rfl
            have s1 : DataW.trod enc Tryz.prog W base sp held n7 31 (List.take (Tryz.prog.cellsOf 31) (List.drop 3 c3)) = ps[1]? := hk 1 _ rfl
            rw [co42] at s0
            rw [co31] at s1
            match c3, l3, ps, hp with
            | [v0, v1, v2, v3], _, [b0, b1], _ =>
              obtain ⟨⟨x0, x1, x2⟩, ex, hx2⟩ := open42 s0
              obtain ⟨A', n', c', eA, hA'⟩ := ih s1
              simp only [List.drop_zero, List.drop_succ_cons, List.take_succ_cons, List.take_zero, List.cons.injEq, and_true] at ex eA
              obtain ⟨ex0, ex1, ex2⟩ := ex
              subst ex0 ex1 ex2 eA
              have f3 := fun (k : Nat) (hk : 0 < k) (u : Value) (hu : W.cell? (cd.add (m.toNat * 4 + k)) = some u) => (show W.cell? ⟨(cd.add (m.toNat * 4)).block, (cd.add (m.toNat * 4)).off + k, none⟩ = some u by rwa [fld _ _ _ hk] at hu)
              exact ⟨cd, x0, x1, x2, A', n', c', rfl, g3 0 _ rfl, f3 1 (by decide) _ (g3 1 _ rfl), f3 2 (by decide) _ (g3 2 _ rfl), f3 3 (by decide) _ (g3 3 _ rfl), hx2, hA'⟩
theorem open27 {fuel : Nat} {cs : List Value} {y : DataW H × List MemPlace} (h : DataW.trod enc Tryz.prog W base sp held fuel 27 cs = some y) : ∃ (A : Option Addr) (c : Nat) (l : List S42), cs = [.slice A l.length c] ∧ l.length ≤ c ∧ Kd.C k42 W A l.length l := by
  obtain ⟨A, n, c, e, hc, hn, hel⟩ := elems_of Tryz.underlying27 co42 h
  rcases Nat.eq_zero_or_pos n with rfl | hp
  · exact ⟨A, c, [], e, Nat.zero_le _, ⟨rfl, by decide, fun h => absurd h (Nat.lt_irrefl _)⟩⟩
  · obtain ⟨a, _, _, _, rfl, _⟩ := hel 0 hp
    obtain ⟨l, h1, _, h3⟩ := row_of (W := W) k42 (fun _ => True) a n hn (fun i hi => by
      obtain ⟨a', cs', y', n2, ea, ht, hl, hg⟩ := hel i hi
      cases ea
      obtain ⟨x, rfl, _⟩ := open42 ht
      exact ⟨x, _, trivial, rfl, k42_mk W x, hg⟩)
    exact ⟨some a, c, l, by rw [h1]; exact e, by rw [h1]; exact hc, by rw [h1]; exact h3⟩
theorem open33 {fuel : Nat} {cs : List Value} {y : DataW H × List MemPlace} (h : DataW.trod enc Tryz.prog W base sp held fuel 33 cs = some y) : ∃ x : R33, RAnn 12 W x.ann.1 x.ann.2.1 ∧ cs.length = 2 ∧ kR.K W x cs := by
  obtain ⟨xs, n, rfl, _, hl, hn, hf⟩ := DataW.trod_struct Tryz.underlying33 h
  have h0 : DataW.trod enc Tryz.prog W base sp held n 27 (List.take (Tryz.prog.cellsOf 27) (List.drop 0 cs)) = xs[0]? := hf 0 _ rfl
  rw [co27] at h0
  have h1 : DataW.trod enc Tryz.prog W base sp held n 31 (List.take (Tryz.prog.cellsOf 31) (List.drop 1 cs)) = xs[1]? := hf 1 _ rfl
  rw [co31] at h1
  rw [co33] at hl
  match cs, hl, xs, hn with
  | [c0, c1], _, [x0, x1], _ =>
    obtain ⟨A, c, l, e0, hc, hC⟩ := open27 h0
    obtain ⟨B, m, d, e1, hA⟩ := ann_of 12 h1
    simp only [List.drop_zero, List.drop_succ_cons, List.take_succ_cons, List.take_zero, List.cons.injEq, and_true] at e0 e1
    subst e0 e1
    exact ⟨⟨l, (B, m, d)⟩, hA, rfl, kR_mk W ⟨l, (B, m, d)⟩ hc hC⟩
theorem open22 {fuel : Nat} {cs : List Value} {y : DataW H × List MemPlace} (h : DataW.trod enc Tryz.prog W base sp held fuel 22 cs = some y) : ∃ (A : Option Addr) (c : Nat) (l : List R33), cs = [.slice A l.length c] ∧ l.length ≤ c ∧ Kd.C kR W A l.length l ∧ AnnsOk W l := by
  obtain ⟨A, n, c, e, hc, hn, hel⟩ := elems_of Tryz.underlying22 co33 h
  rcases Nat.eq_zero_or_pos n with rfl | hp
  · exact ⟨A, c, [], e, Nat.zero_le _, ⟨rfl, by decide, fun h => absurd h (Nat.lt_irrefl _)⟩, fun r hr => by cases hr⟩
  · obtain ⟨a, _, _, _, rfl, _⟩ := hel 0 hp
    obtain ⟨l, h1, h2, h3⟩ := row_of (W := W) kR (fun x => RAnn 12 W x.ann.1 x.ann.2.1) a n hn (fun i hi => by
      obtain ⟨a', cs', y', n2, ea, ht, hl, hg⟩ := hel i hi
      cases ea
      obtain ⟨x, q1, q2, q3⟩ := open33 ht
      exact ⟨x, cs', q1, q2, q3, hg⟩)
    exact ⟨some a, c, l, by rw [h1]; exact e, by rw [h1]; exact hc, by rw [h1]; exact h3, h2⟩
theorem open23 {fuel : Nat} {cs : List Value} {y : DataW H × List MemPlace} (h : DataW.trod enc Tryz.prog W base sp held fuel 23 cs = some y) : ∃ (A : Option Addr) (c : Nat) (l : List Int), cs = [.slice A l.length c] ∧ Kd.C (Kd.int .i64) W A l.length l := by
  obtain ⟨A, n, c, e, hc, hn, hel⟩ := elems_of Tryz.underlying23 co3 h
  rcases Nat.eq_zero_or_pos n with rfl | hp
  · exact ⟨A, c, [], e, ⟨rfl, by decide, fun h => absurd h (Nat.lt_irrefl _)⟩⟩
  · obtain ⟨a, _, _, _, rfl, _⟩ := hel 0 hp
    obtain ⟨l, h1, _, h3⟩ := row_of (W := W) (Kd.int .i64) (fun _ => True) a n hn (fun i hi => by
      obtain ⟨a', cs', y', n2, ea, ht, hl, hg⟩ := hel i hi
      cases ea
      obtain ⟨x, rfl, _⟩ := DataW.trod_int Tryz.underlying3 ht
      exact ⟨x, [.int .i64 x], trivial, rfl, rfl, hg⟩)
    exact ⟨some a, c, l, by rw [h1]; exact e, by rw [h1]; exact h3⟩
end
end Go.Proofs.YtcpngmclhicciaaGreatDoor
/- The row of 'MergejoinGroups'. -/
namespace Go.Proofs.YtcpngmclhicciaaGreatDoor
open Go.ChangeShapes Go.WideShapes Go.ChangeAt Go.WideElems Go.RowKit Go.Proofs.YtcpngmclhicciaaGreatDoorW.PrintWords PMergejoinGroups
set_option linter.unusedVariables false
set_option linter.unusedSimpArgs false
theorem own : ownKnob Tryz.prog.godebug = none := by kernel_rfl
theorem laidOut : laidOutB Tryz.prog = true := by kernel_rfl
abbrev laidL : List (String × DataW Unit) := [("math/bits.deBruijn32tab", Rows.laid_math_bits_deBruijn32tab), ("math/bits.deBruijn64tab", Rows.laid_math_bits_deBruijn64tab), ("internal/strconv.uint64pow10", Rows.laid_internal_strconv_uint64pow10), ("unicode/utf8.acceptRanges", Rows.laid_unicode_utf8_acceptRanges), ("unicode/utf8.first", Rows.laid_unicode_utf8_first)]
theorem awakeOk : AwakeOk (fun _ => True) := ⟨fun _ _ _ _ => trivial, fun w _ => awake_calls w⟩
theorem law_any (rows : List R33) (ks : List Int) (A B : Option Addr) (c d : Nat) (w : World) (hc : rows.length ≤ c) (hA : Kd.C kR w A rows.length rows) (hR : AnnsOk w rows) (hB : Kd.C (Kd.int .i64) w B ks.length ks) :
    Calls Tryz.prog 3 #[.slice A rows.length c, .slice B ks.length d] w fun e w' => e = .returned (.bool true) ∧ Below w.heap.size w w' := law_of_awake (fun _ => True) awakeOk rows ks A B c d w trivial hc hA hR hB
set_option maxRecDepth 100000 in
set_option maxHeartbeats 1600000 in
theorem lifted (os : Os) (started : os.Started) (H : Type) (enc : TypeId × Value → H) :
    ReturnsInHanded {} Tryz.checked os 3 .any (fun w args => (Rows.mergejoinGroupsSpec.pre enc Tryz.prog Tryz.f3 [] false w args ∧ laidMetH Tryz.prog laidL w) ∧ sizedMet enc Tryz.prog Tryz.f3 (OpenSpec.ofChange Rows.mergejoinGroupsSpec) false w args)
      (Rows.mergejoinGroupsSpec.post enc Tryz.prog Tryz.f3 false true false false) := by
  refine returnsInHanded_of_change_and (C := Tryz.checked) (X := fun w _ => laidMetH Tryz.prog laidL w) (fun _ _ _ hh h => h.of_heap hh) own started (by kernel_rfl) Tryz.func3
    (ChangeSpec.witness_shaped (enc := enc) (C := Tryz.checked) (os := os) (X := fun w _ => laidMetH Tryz.prog laidL w) false (World.laidAll Tryz.prog os laidL) #[.slice none 0 0, .slice none 0 0] 8 (World.laidAll_os _ _ _)
      (World.shaped_of_ZipB (by kernel_rfl) (by kernel_rfl)) (by kernel_rfl) (by kernel_rfl) (by kernel_rfl)
      (by rw [MakeChecks.laidMetH_plain _ _ _ (by kernel_rfl)]; exact laidMet_laidAll _ (by kernel_rfl) (by kernel_rfl))) ?_
  intro W base args ds gs before hval0 hW _ _ hL _
  have hval : ∀ (j : Nat) t v, Tryz.f3.params[j]? = some t → args[j]? = some v → Value.okWide Tryz.prog W .any base t v := hval0
  have hW' := hW
  obtain ⟨p, q, hA0, hV, rfl, hfz, hnd⟩ := hW
  have hA : DataW.TrodAll enc Tryz.prog W 0 (fun _ => true) true Tryz.f3.params.toList args.toList ds p := hA0
  rw [Tryz.params3] at hA hval
  obtain ⟨v0, vs0, d0, ds0, p0, q0, hargs, rfl, rfl, h0, r0⟩ := trodAll_cons hA
  obtain ⟨v1, vs1, d1, ds1, p1, q1, rfl, rfl, rfl, h1, r1⟩ := trodAll_cons r0
  obtain ⟨rfl, rfl, rfl⟩ := trodAll_nil r1
  obtain rfl : args = #[v0, v1] := by cases args; simp_all
  obtain ⟨rfl, rfl⟩ := trodVars_none hV
  obtain ⟨A, n0, c, rfl⟩ := okWide_slice Tryz.underlying22 (hval 0 22 v0 rfl rfl)
  obtain ⟨B, n1, d, rfl⟩ := okWide_slice Tryz.underlying23 (hval 1 23 v1 rfl rfl)
  have k0 := h0
  have k1 := h1
  have lt0 : ∀ x ∈ p0, x.block < W.heap.size := by obtain ⟨m, hm⟩ := k0; exact DataW.trod_lt m _ _ _ hm
  have lt1 : ∀ x ∈ p1, x.block < W.heap.size := by obtain ⟨m, hm⟩ := k1; exact DataW.trod_lt m _ _ _ hm
  obtain ⟨m0, hm0⟩ := h0
  obtain ⟨m1, hm1⟩ := h1
  obtain ⟨A', c', rows, e0, hc, hC, hR⟩ := open22 hm0
  obtain ⟨B', d', ks, e1, hD⟩ := open23 hm1
  obtain ⟨rfl, rfl, rfl⟩ : A' = A ∧ rows.length = n0 ∧ c' = c := by simp [Value.cells] at e0; exact ⟨e0.1.symm, e0.2.1.symm, e0.2.2.symm⟩
  obtain ⟨rfl, rfl, rfl⟩ : B' = B ∧ ks.length = n1 ∧ d' = d := by simp [Value.cells] at e1; exact ⟨e1.1.symm, e1.2.1.symm, e1.2.2.symm⟩
  clear hA0 hval0 hm0 hm1 e0 e1
  refine (law_any rows ks A' B' c' d' W hc hC hR hD).mono fun e W' ⟨he, bel⟩ => ?_
  subst he
  exact ⟨_, rfl, _, _, _, [], _, [], hW', trodAll_mk1 (shut_bool Tryz.underlying4 _), (trodAll_cons_mk (Below.trod laidOut (by kernel_rfl) (of_decide_eq_true (by kernel_rfl)) k0 bel lt0) (trodAll_cons_mk (Below.trod laidOut (by kernel_rfl) (of_decide_eq_true (by kernel_rfl)) k1 bel lt1) trodAll_mk0)), rfl, bel.frame _, fun h => by cases h⟩
theorem groups_row : Rows.MergejoinGroupsSaid :=
  OpenClaim.holds_of_wide 3 Tryz.f3 rfl rfl rfl rfl rfl rfl rfl ⟨rfl, rfl, rfl, rfl, rfl⟩ rfl rfl rfl rfl rfl (by kernel_rfl) Tryz.func3 (by kernel_rfl)
    (of_decide_eq_true (by kernel_rfl)) (by unfold Func.isWrapper; first | (rw [if_pos (by decide +kernel)]; kernel_rfl) | (rw [if_neg (by decide +kernel)]; exact ⟨rfl, rfl⟩))
    (fun os started H enc _ => lifted os started H enc)
end Go.Proofs.YtcpngmclhicciaaGreatDoor
