/- The plain law of groups, the law given awake, and awake. -/
import Derived.Test.YtcpngmclhicciaaGreatDoorM5
import Derived.Test.YtcpngmclhicciaaGreatDoorM4
/- A drawn region by what each operation leaves: no order is gone through. -/
namespace Go.Proofs.YtcpngmclhicciaaGreatDoor
open Go.RowKit Go.Proofs.YtcpngmclhicciaaGreatDoorW.PrintWords PMergejoinGroups
set_option linter.unusedVariables false
set_option linter.unusedSimpArgs false
theorem cnt_set : ∀ (L : List Bool) (i : Nat), L[i]? = some false → (L.set i true).count false + 1 = L.count false
  | [], i, h => by simp at h
  | b :: L, 0, h => by
    simp at h
    subst h
    simp [List.count_cons]
  | b :: L, i + 1, h => by
    have h2 : L[i]? = some false := by simpa using h
    have := cnt_set L i h2
    simp only [List.set_cons_succ, List.count_cons]
    omega
theorem getD_some {L : Array Bool} {i : Nat} (h : L.getD i true = false) : L.toList[i]? = some false := by
  rw [Array.getElem?_toList]
  cases he : L[i]? with
  | none => rw [Array.getD_eq_getD_getElem?, he] at h; simp at h
  | some b => rw [Array.getD_eq_getD_getElem?, he] at h; simp at h; rw [h]
section
variable {P : Program} {ops : Array Oper} {Q : Exit → Act → World → Prop} {md : Region.Mode}
theorem wpAny_free (R : Array Bool → Act → World → Prop)
    (step : ∀ L a w i, L.size = ops.size → R L a w → i ∈ Region.ready md ops L → wpOp P ops Q i (fun a' w' => R (L.setIfInBounds i true) a' w') a w)
    (fin : ∀ L a w, L.size = ops.size → R L a w → Region.ready md ops L = [] → Q .normal a w) :
    ∀ (fuel : Nat) (L : Array Bool) (a : Act) (w : World), L.size = ops.size → L.toList.count false ≤ fuel → R L a w → wpAny P md ops Q fuel L a w
  | 0, L, a, w, hs, hc, hR => by
    have hr : Region.ready md ops L = [] := by
      cases hl : Region.ready md ops L with
      | nil => rfl
      | cons i r =>
        have hi : i ∈ Region.ready md ops L := by rw [hl]; simp
        have := cnt_set L.toList i (getD_some (mem_ready.1 hi).1)
        omega
    exact ⟨hr, fin L a w hs hR hr⟩
  | fuel + 1, L, a, w, hs, hc, hR => ⟨fun hr => fin L a w hs hR hr, fun i hi => wpOp_mono (fun a' w' h' => wpAny_free R step fin fuel _ a' w' (by simpa using hs) (by
      have := cnt_set L.toList i (getD_some (mem_ready.1 hi).1)
      rw [Array.toList_setIfInBounds]
      omega) h') (step L a w i hs hR hi)⟩
theorem wp_region_free (R : Array Bool → Act → World → Prop) {id : Nat} {a : Act} {w : World} (hm : P.follows .mixedOrders = true) (h0 : R (Array.replicate ops.size false) a w.drew)
    (step : ∀ L a w i, L.size = ops.size → R L a w → i ∈ Region.ready .any ops L → wpOp P ops Q i (fun a' w' => R (L.setIfInBounds i true) a' w') a w)
    (fin : ∀ L a w, L.size = ops.size → R L a w → Region.ready .any ops L = [] → Q .normal a w) : (Code.region id ops true).wp P Q a w :=
  wp_region_any hm (wpAny_free R step fin ops.size _ a _ (by simp) (by
    rw [Array.toList_replicate]
    exact Nat.le_trans List.count_le_length (by simp)) h0)
theorem wpOp_at {i : Nat} {o : Oper} {K : Act → World → Prop} {a : Act} {w : World} (ho : ops[i]? = some o) (hw : Region.wanted o (yielded ops a.tmps) = true) (h : o.wp P a w K Q) : wpOp P ops Q i K a w := by
  unfold wpOp
  rw [ho]
  dsimp only
  rw [if_pos hw]
  exact .inl h
/-- An operation that has nothing left to wait for may come up. -/
theorem ready_of {k : Nat} {o : Oper} {L : Array Bool} (hr : Region.ready md ops L = []) (hs : L.size = ops.size) (ho : ops[k]? = some o) (hd : ∀ e ∈ o.after, Region.binds md e = true → L.getD e.on false = true) : L.getD k false = true := by
  by_cases h : L.getD k true = false
  · have hm : k ∈ Region.ready md ops L := mem_ready.2 ⟨h, o, ho, hd⟩
    rw [hr] at hm
    cases hm
  · have hk : k < L.size := by rw [hs]; exact (Array.getElem?_eq_some_iff.1 ho).1
    rw [Array.getD_eq_getD_getElem?, Array.getElem?_eq_getElem hk] at h ⊢
    simpa using h
end
/-- What the slots hold, once they are filled. -/
def FI (l : List Int) (u : Value) (w : World) : Prop := ∃ A c, u = .slice A 3 c ∧ Kd.C (Kd.int .i64) w A 3 l
def F1 (u : Value) (w : World) : Prop := ∃ A c, u = .slice A 1 c ∧ Kd.C (Kd.int .i64) w A 1 [0]
def FL (u : Value) (w : World) : Prop := ∃ ad c a0 a1 a2, u = .slice (some ad) 3 (c + 3) ∧ Kd.C kR w (some ad) 3 (lsR a0 a1 a2) ∧ RowsOk w (lsR a0 a1 a2) (fsN 3)
def FR (u : Value) (w : World) : Prop := ∃ ad c a0 a1 a2, u = .slice (some ad) 3 (c + 3) ∧ Kd.C kR w (some ad) 3 (rsR a0 a1 a2) ∧ RowsOk w (rsR a0 a1 a2) (fsN 3)
def F4 (u : Value) : Prop := ∃ A c, u = .tuple #[.slice A 4 c, .int .i64 0]
def FS (u : Value) : Prop := ∃ A c, u = .slice A 4 c
theorem FI.later {l : List Int} {u : Value} {w w' : World} (h : FI l u w) (hb : Below w.heap.size w w') : FI l u w' := let ⟨A, c, h1, h2⟩ := h; ⟨A, c, h1, Kd.C_below h2 hb⟩
theorem F1.later {u : Value} {w w' : World} (h : F1 u w) (hb : Below w.heap.size w w') : F1 u w' := let ⟨A, c, h1, h2⟩ := h; ⟨A, c, h1, Kd.C_below h2 hb⟩
theorem FL.later {u : Value} {w w' : World} (h : FL u w) (hb : Below w.heap.size w w') : FL u w' := let ⟨ad, c, a0, a1, a2, h1, h2, h3⟩ := h; ⟨ad, c, a0, a1, a2, h1, Kd.C_below h2 hb, h3.later hb⟩
theorem FR.later {u : Value} {w w' : World} (h : FR u w) (hb : Below w.heap.size w w') : FR u w' := let ⟨ad, c, a0, a1, a2, h1, h2, h3⟩ := h; ⟨ad, c, a0, a1, a2, h1, Kd.C_below h2 hb, h3.later hb⟩
theorem Join_calls (a0 a1 a2 b0 b1 b2 : Sl) (ad bd : Addr) (KA KB : Option Addr) (c d e f : Nat) (w : World) (hJ : JArgs w (lsR a0 a1 a2) (rsR b0 b1 b2) (some ad) (some bd) KA KB) :
    Calls Tryz.prog 17 #[.slice (some ad) 3 (c + 3), .slice (some bd) 3 (d + 3), .slice KA 1 e, .slice KB 1 f, (.agg #[.int .i64 0, .int .i64 0, .int .i64 2, .int .i64 1, .string ⟨#[]⟩, .int .i64 0, .slice none 0 0])] w (LenOkPost 4 w) := callsIn_wide.1 (Join_in 3 (Nat.le_refl _) a0 a1 a2 b0 b1 b2 ad bd KA KB c d e f w hJ)
/-- Three rows of one number each. -/
theorem rows3 {rows : List R33} {x y z : Int} (hl : rows.length = 3) (hv : ∀ k : Int, 0 ≤ k → k < 3 → (rdR rows k).vals = [⟨0, rd [x, y, z] k, ⟨#[]⟩⟩]) : ∃ a b c : Sl, rows = [⟨[⟨0, x, ⟨#[]⟩⟩], a⟩, ⟨[⟨0, y, ⟨#[]⟩⟩], b⟩, ⟨[⟨0, z, ⟨#[]⟩⟩], c⟩] := by
  match rows, hl with
  | [⟨v0, a⟩, ⟨v1, b⟩, ⟨v2, c⟩], _ =>
    have h0 : v0 = [⟨0, x, ⟨#[]⟩⟩] := hv 0 (by decide) (by decide)
    have h1 : v1 = [⟨0, y, ⟨#[]⟩⟩] := hv 1 (by decide) (by decide)
    have h2 : v2 = [⟨0, z, ⟨#[]⟩⟩] := hv 2 (by decide) (by decide)
    exact ⟨a, b, c, by rw [h0, h1, h2]⟩
theorem rowsL (A : Option Addr) (c : Nat) (w : World) (hA : Kd.C (Kd.int .i64) w A 3 [1, 2, 2]) : Calls Tryz.prog 18 #[.slice A 3 c] w fun e w' => ∃ u, e = .returned u ∧ FL u w' ∧ Below w.heap.size w w' :=
  (rows_calls [1, 2, 2] (by decide) A c w hA).mono fun e w' ⟨A', c', rows, h1, h2, h3, h4, h5, h6, h7⟩ => by
    obtain ⟨a, b, d, rfl⟩ := rows3 h3 h5
    obtain ⟨ad, rfl, _⟩ := h4.2.2 (by decide)
    refine ⟨_, h1, ⟨ad, c' - 3, a, b, d, ?_, h4, h6⟩, h7⟩
    have : c' - 3 + 3 = c' := Nat.sub_add_cancel h2
    rw [this]; rfl
theorem rowsR (A : Option Addr) (c : Nat) (w : World) (hA : Kd.C (Kd.int .i64) w A 3 [2, 2, 3]) : Calls Tryz.prog 18 #[.slice A 3 c] w fun e w' => ∃ u, e = .returned u ∧ FR u w' ∧ Below w.heap.size w w' :=
  (rows_calls [2, 2, 3] (by decide) A c w hA).mono fun e w' ⟨A', c', rows, h1, h2, h3, h4, h5, h6, h7⟩ => by
    obtain ⟨a, b, d, rfl⟩ := rows3 h3 h5
    obtain ⟨ad, rfl, _⟩ := h4.2.2 (by decide)
    refine ⟨_, h1, ⟨ad, c' - 3, a, b, d, ?_, h4, h6⟩, h7⟩
    have : c' - 3 + 3 = c' := Nat.sub_add_cancel h2
    rw [this]; rfl
end Go.Proofs.YtcpngmclhicciaaGreatDoor
/- The plain law of the groups of sorted rows. -/
namespace Go.Proofs.YtcpngmclhicciaaGreatDoor
open Go.RowKit Go.Proofs.YtcpngmclhicciaaGreatDoorW.PrintWords PMergejoinGroups
set_option linter.unusedVariables false
set_option linter.unusedSimpArgs false
/-- A comparison that orders. -/
structure Good {α : Type} (f : α → α → Int) : Prop where
  anti : ∀ a b, f a b = -f b a
  le : ∀ a b c, f a b ≤ 0 → f b c ≤ 0 → f a c ≤ 0
theorem Good.self {α : Type} {f : α → α → Int} (h : Good f) (a : α) : f a a = 0 := by have := h.anti a a; omega
theorem Good.lt_le {α : Type} {f : α → α → Int} (h : Good f) {a b c : α} (h1 : f a b < 0) (h2 : f b c ≤ 0) : f a c < 0 := by
  have h3 := h.le a b c (by omega) h2
  by_cases hz : f a c = 0
  · have h4 := h.anti c a
    have h5 := h.le b c a h2 (by omega)
    have h6 := h.anti a b
    omega
  · omega
theorem Good.le_lt {α : Type} {f : α → α → Int} (h : Good f) {a b c : α} (h1 : f a b ≤ 0) (h2 : f b c < 0) : f a c < 0 := by
  have h3 := h.le a b c h1 (by omega)
  by_cases hz : f a c = 0
  · have h4 := h.anti c a
    have h5 := h.le c a b (by omega) h1
    have h6 := h.anti b c
    omega
  · omega
theorem Good.eq {α : Type} {f : α → α → Int} (h : Good f) {a b c : α} (h1 : f a b = 0) (h2 : f b c = 0) : f a c = 0 := by
  have h3 := h.le a b c (by omega) (by omega)
  have h4 := h.anti a b
  have h5 := h.anti b c
  have h6 := h.le c b a (by omega) (by omega)
  have h7 := h.anti a c
  omega
theorem Good.map {α β : Type} {f : α → α → Int} (h : Good f) (g : β → α) : Good (fun x y => f (g x) (g y)) := ⟨fun a b => h.anti _ _, fun a b c => h.le _ _ _⟩
theorem Good.lex {α : Type} {f g : α → α → Int} (h : Good f) (k : Good g) : Good (fun a b => if f a b = 0 then g a b else f a b) := by
  refine ⟨fun a b => ?_, fun a b c h1 h2 => ?_⟩
  · have h1 := h.anti a b
    have h2 := k.anti a b
    split <;> split <;> omega
  · by_cases e1 : f a b = 0
    · rw [if_pos e1] at h1
      by_cases e2 : f b c = 0
      · rw [if_pos e2] at h2
        rw [if_pos (h.eq e1 e2)]
        exact k.le _ _ _ h1 h2
      · rw [if_neg e2] at h2
        have := h.le_lt (show f a b ≤ 0 by omega) (show f b c < 0 by omega)
        rw [if_neg (by omega)]
        omega
    · rw [if_neg e1] at h1
      have h3 : f b c ≤ 0 := by
        by_cases e2 : f b c = 0
        · omega
        · rw [if_neg e2] at h2; exact h2
      have := h.lt_le (show f a b < 0 by omega) h3
      rw [if_neg (by omega)]
      omega
/-- Two lists by their elements; the shorter first. -/
def cmpL {α : Type} (f : α → α → Int) : List α → List α → Int
  | [], [] => 0
  | [], _ :: _ => -1
  | _ :: _, [] => 1
  | x :: r, y :: s => if f x y = 0 then cmpL f r s else f x y
theorem Good.list {α : Type} {f : α → α → Int} (h : Good f) : Good (cmpL f) := by
  refine ⟨fun a => ?_, fun a => ?_⟩
  · induction a with
    | nil => intro b; cases b <;> simp [cmpL]
    | cons x r ih =>
      intro b
      cases b with
      | nil => simp [cmpL]
      | cons y s =>
        have h1 := h.anti x y
        have h2 := ih s
        simp only [cmpL]
        split <;> split <;> omega
  · induction a with
    | nil => intro b c h1 h2; cases b <;> cases c <;> simp_all [cmpL]
    | cons x r ih =>
      intro b c h1 h2
      cases b with
      | nil => simp [cmpL] at h1
      | cons y s =>
        cases c with
        | nil => simp [cmpL] at h2
        | cons z t =>
          simp only [cmpL] at h1 h2 ⊢
          by_cases e1 : f x y = 0
          · rw [if_pos e1] at h1
            by_cases e2 : f y z = 0
            · rw [if_pos e2] at h2
              rw [if_pos (h.eq e1 e2)]
              exact ih _ _ h1 h2
            · rw [if_neg e2] at h2
              have := h.le_lt (show f x y ≤ 0 by omega) (show f y z < 0 by omega)
              rw [if_neg (by omega)]
              omega
          · rw [if_neg e1] at h1
            have h3 : f y z ≤ 0 := by
              by_cases e2 : f y z = 0
              · omega
              · rw [if_neg e2] at h2; exact h2
            have := h.lt_le (show f x y < 0 by omega) h3
            rw [if_neg (by omega)]
            omega
theorem good_int : Good Lib.compareInt := by
  refine ⟨fun a b => ?_, fun a b c => ?_⟩
  · unfold Lib.compareInt; split <;> split <;> (try split) <;> (try split) <;> omega
  · unfold Lib.compareInt; split <;> split <;> (try split) <;> (try split) <;> (try split) <;> omega
def cmp8 (a b : UInt8) : Int := Lib.compareInt a.toNat b.toNat
theorem bytes_cmpL : ∀ a b : List UInt8, Lib.compareBytes a b = cmpL cmp8 a b
  | [], [] => rfl
  | [], _ :: _ => rfl
  | _ :: _, [] => rfl
  | x :: a, y :: b => by
    have ih := bytes_cmpL a b
    rw [Lib.compareBytes, cmpL, ih]
    simp only [UInt8.lt_iff_toNat_lt]
    by_cases h1 : x.toNat < y.toNat
    · have e : cmp8 x y = -1 := by unfold cmp8 Lib.compareInt; rw [if_pos (by omega)]
      rw [e, if_pos h1]; rfl
    · by_cases h2 : y.toNat < x.toNat
      · have e : cmp8 x y = 1 := by unfold cmp8 Lib.compareInt; rw [if_neg (by omega), if_pos (by omega)]
        rw [e, if_neg h1, if_pos h2]; rfl
      · have e : cmp8 x y = 0 := by unfold cmp8 Lib.compareInt; rw [if_neg (by omega), if_neg (by omega)]
        rw [e, if_neg h1, if_neg h2]; rfl
theorem good_bytes : Good Lib.compareBytes := by
  rw [show Lib.compareBytes = cmpL cmp8 from funext fun a => funext fun b => bytes_cmpL a b]
  exact (good_int.map fun a : UInt8 => (a.toNat : Int)).list
theorem good_V : Good cmpV := by
  have h := ((good_int.map S42.f0).lex ((good_int.map S42.f1).lex (good_bytes.map fun x : S42 => x.f2.data.toList)))
  rw [show cmpV = _ from funext fun x => funext fun y => ?_]
  · exact h
  · simp only [cmpV, orI]
    split
    · split
      · split
        · omega
        · rfl
      · rfl
    · rfl
theorem cmpR_cmpL : ∀ a b : List S42, cmpR a b = cmpL cmpV a b
  | [], [] => rfl
  | [], _ :: _ => rfl
  | _ :: _, [] => rfl
  | x :: a, y :: b => by simp only [cmpR, cmpL, cmpR_cmpL a b]
theorem good_R : Good cmpR := by
  rw [show cmpR = cmpL cmpV from funext fun a => funext fun b => cmpR_cmpL a b]
  exact good_V.list
section
variable {rows : List R33} {ks : List Int}
theorem srt_pair : ∀ (n m : Nat), srt rows ks n = true → m < n → ¬ cmpR (keyAt rows ks ((m + 1 : Nat) : Int)) (keyAt rows ks (m : Int)) < 0
  | n + 1, m, h, hm => by
    rw [srt] at h
    simp only [Bool.and_eq_true, Bool.not_eq_true', decide_eq_false_iff_not] at h
    by_cases he : m = n
    · subst he; exact h.1
    · exact srt_pair n m h.2 (by omega)
theorem srt_le {n : Nat} (h : srt rows ks n = true) (i : Nat) : ∀ d : Nat, i + d ≤ n → cmpR (keyAt rows ks (i : Int)) (keyAt rows ks ((i + d : Nat) : Int)) ≤ 0
  | 0, _ => by rw [Nat.add_zero]; have := good_R.self (keyAt rows ks (i : Int)); omega
  | d + 1, hd => by
    have h1 := srt_le h i d (by omega)
    have h2 := srt_pair n (i + d) h (by omega)
    have h3 := good_R.anti (keyAt rows ks ((i + d : Nat) : Int)) (keyAt rows ks ((i + d + 1 : Nat) : Int))
    exact good_R.le _ _ _ h1 (by rw [show i + (d + 1) = i + d + 1 by omega]; omega)
theorem sorted_le (hs : srt rows ks (rows.length - 1) = true) {i j : Int} (h0 : 0 ≤ i) (h1 : i ≤ j) (h2 : j < rows.length) : cmpR (keyAt rows ks i) (keyAt rows ks j) ≤ 0 := by
  have := srt_le hs i.toNat (j - i).toNat (by omega)
  rwa [show ((i.toNat : Nat) : Int) = i by omega, show ((i.toNat + (j - i).toNat : Nat) : Int) = j by omega] at this
theorem run_in {f : Int} : ∀ (n : Nat) (t x : Int), t ≤ x → x < run_ rows ks f n t → cmpR (keyAt rows ks f) (keyAt rows ks x) = 0
  | 0, t, x, h1, h2 => by rw [run_] at h2; omega
  | n + 1, t, x, h1, h2 => by
    rw [run_] at h2
    by_cases he : cmpR (keyAt rows ks f) (keyAt rows ks t) = 0
    · rw [if_pos he] at h2
      by_cases hx : x = t
      · rw [hx]; exact he
      · exact run_in n (t + 1) x (by omega) h2
    · rw [if_neg he] at h2; omega
theorem run_out {f : Int} : ∀ (n : Nat) (t : Int), run_ rows ks f n t < t + n → cmpR (keyAt rows ks f) (keyAt rows ks (run_ rows ks f n t)) ≠ 0
  | 0, t, h => by rw [run_] at h; omega
  | n + 1, t, h => by
    rw [run_] at h ⊢
    by_cases he : cmpR (keyAt rows ks f) (keyAt rows ks t) = 0
    · rw [if_pos he] at h ⊢
      exact run_out n (t + 1) (by omega)
    · rw [if_neg he]; exact he
theorem rend_in {f x : Int} (h1 : f ≤ x) (h2 : x < rend rows ks f) : cmpR (keyAt rows ks f) (keyAt rows ks x) = 0 := by
  by_cases hx : x = f
  · rw [hx]; exact good_R.self _
  · exact run_in _ (f + 1) x (by omega) h2
theorem rend_out (hs : srt rows ks (rows.length - 1) = true) {f : Int} (h0 : 0 ≤ f) (hf : f < rows.length) (h : rend rows ks f < rows.length) : cmpR (keyAt rows ks f) (keyAt rows ks (rend rows ks f)) < 0 := by
  have h1 := run_out (rows := rows) (ks := ks) (f := f) (rows.length - (f + 1)).toNat (f + 1) (by unfold rend at h; omega)
  have h2 := rend_bd (ks := ks) hf
  have h3 := sorted_le hs h0 (show f ≤ rend rows ks f by omega) h
  have h4 : run_ rows ks f (rows.length - (f + 1)).toNat (f + 1) = rend rows ks f := rfl
  rw [h4] at h1
  omega
/-- The groups, one after another. -/
theorem grps_head {n : Nat} {i : Int} (hi : i < rows.length) (hn : rows.length - i ≤ n) : ∃ r, grps rows ks n i = (i, rend rows ks i) :: r := by
  obtain ⟨m, rfl⟩ : ∃ m, n = m + 1 := ⟨n - 1, by omega⟩
  exact ⟨_, by rw [grps, if_pos hi]⟩
theorem grps_at : ∀ (n : Nat) (i : Int), 0 ≤ i → rows.length - i ≤ n → ∀ (j : Nat) (p : Int × Int), (grps rows ks n i)[j]? = some p → i ≤ p.1 ∧ p.1 < rows.length ∧ p.2 = rend rows ks p.1 ∧ (∀ q, (grps rows ks n i)[j + 1]? = some q → q.1 = rend rows ks p.1) ∧ ((grps rows ks n i)[j + 1]? = none → rend rows ks p.1 = rows.length)
  | 0, i, h0, hn, j, p, hp => by simp [grps] at hp
  | n + 1, i, h0, hn, j, p, hp => by
    by_cases hi : i < rows.length
    · have hb := rend_bd (ks := ks) hi
      rw [grps, if_pos hi] at hp ⊢
      cases j with
      | zero =>
        simp only [List.getElem?_cons_zero, Option.some.injEq] at hp
        subst hp
        refine ⟨Int.le_refl _, hi, rfl, fun q hq => ?_, fun hq => ?_⟩
        · rw [List.getElem?_cons_succ] at hq
          by_cases hr : rend rows ks i < rows.length
          · obtain ⟨r, hr'⟩ := grps_head (ks := ks) hr (n := n) (by omega)
            rw [hr'] at hq
            simp only [List.getElem?_cons_zero, Option.some.injEq] at hq
            rw [← hq]
          · rw [grps_end hr] at hq
            simp at hq
        · rw [List.getElem?_cons_succ] at hq
          by_cases hr : rend rows ks i < rows.length
          · obtain ⟨r, hr'⟩ := grps_head (ks := ks) hr (n := n) (by omega)
            rw [hr'] at hq
            simp at hq
          · show rend rows ks i = rows.length
            omega
      | succ j =>
        rw [List.getElem?_cons_succ] at hp
        obtain ⟨a, b, c, d, e⟩ := grps_at n (rend rows ks i) (by omega) (by omega) j p hp
        exact ⟨by omega, b, c, fun q hq => d q (by rwa [List.getElem?_cons_succ] at hq), fun hq => e (by rwa [List.getElem?_cons_succ] at hq)⟩
    · rw [grps_end hi] at hp
      simp at hp
theorem adv_to {t : List S42} {a : Int} (ha : a < rows.length) (hat : ¬ cmpR (keyAt rows ks a) t < 0) : ∀ (n : Nat) (i : Int), i ≤ a → a - i < n → (∀ x, i ≤ x → x < a → cmpR (keyAt rows ks x) t < 0) → adv rows ks t n i = a
  | 0, i, h1, h2, _ => by omega
  | n + 1, i, h1, h2, h => by
    rw [adv]
    by_cases he : i = a
    · subst he; rw [if_neg hat]
    · rw [if_pos (h i (Int.le_refl _) (by omega))]
      exact adv_to ha hat n (i + 1) (by omega) (by omega) (fun x hx => h x (by omega))
end
end Go.Proofs.YtcpngmclhicciaaGreatDoor
/- What the law reads off the groups. -/
namespace Go.Proofs.YtcpngmclhicciaaGreatDoor
open Go.RowKit Go.Proofs.YtcpngmclhicciaaGreatDoorW.PrintWords PMergejoinGroups
set_option linter.unusedVariables false
set_option linter.unusedSimpArgs false
section
variable {rows : List R33} {ks : List Int}
theorem begs_get {j : Nat} {p : Int × Int} (h : (grps rows ks rows.length 0)[j]? = some p) : rd (begs rows ks) (j : Int) = p.1 := by
  unfold begs rd
  rw [List.getD_eq_getElem?_getD, List.getElem?_map, show ((j : Int)).toNat = j by omega, h]
  rfl
theorem begs_len : (begs rows ks).length = (grps rows ks rows.length 0).length := by simp [begs]
theorem begs_first (hn : 0 < rows.length) : 0 < (begs rows ks).length ∧ rd (begs rows ks) 0 = 0 := by
  obtain ⟨r, hr⟩ := grps_head (rows := rows) (ks := ks) (i := 0) (n := rows.length) (by omega) (by omega)
  refine ⟨by rw [begs_len, hr]; simp, ?_⟩
  have := begs_get (rows := rows) (ks := ks) (j := 0) (p := (0, rend rows ks 0)) (by rw [hr]; rfl)
  simpa using this
structure AtOk (rows : List R33) (ks : List Int) (j a : Int) : Prop where
  a0 : 0 ≤ a
  a1 : a < rows.length
  e0 : a + 1 ≤ rend rows ks a
  e1 : rend rows ks a ≤ rows.length
  more : j + 1 < (begs rows ks).length → rd (begs rows ks) (j + 1) = rend rows ks a
  last : ¬ j + 1 < (begs rows ks).length → (rows.length : Int) = rend rows ks a
  adv : adv rows ks (keyAt rows ks a) ((rows.length : Int) - 0).toNat 0 = a
theorem begs_at (hs : srt rows ks (rows.length - 1) = true) {j : Int} (h0 : 0 ≤ j) (h1 : j < (begs rows ks).length) : AtOk rows ks j (rd (begs rows ks) j) := by
  obtain ⟨n, rfl⟩ : ∃ n : Nat, j = n := ⟨j.toNat, by omega⟩
  have hl : n < (grps rows ks rows.length 0).length := by rw [← begs_len]; omega
  obtain ⟨p, hp⟩ : ∃ p, (grps rows ks rows.length 0)[n]? = some p := ⟨_, List.getElem?_eq_getElem hl⟩
  obtain ⟨a, b, c, d, e⟩ := grps_at rows.length 0 (Int.le_refl _) (by omega) n p hp
  rw [begs_get hp]
  have hb := rend_bd (ks := ks) b
  refine ⟨a, b, hb.1, hb.2, fun hm => ?_, fun hm => ?_, ?_⟩
  · have hl2 : n + 1 < (grps rows ks rows.length 0).length := by rw [← begs_len]; omega
    obtain ⟨q, hq⟩ : ∃ q, (grps rows ks rows.length 0)[n + 1]? = some q := ⟨_, List.getElem?_eq_getElem hl2⟩
    have h3 := begs_get hq
    rw [show (((n + 1 : Nat)) : Int) = (n : Int) + 1 by omega] at h3
    rw [h3]
    exact d q hq
  · exact (e (by rw [List.getElem?_eq_none_iff, ← begs_len]; omega)).symm
  · have hself := good_R.self (keyAt rows ks p.1)
    refine adv_to b (by omega) _ 0 a (by omega) (fun x hx hxa => ?_)
    cases n with
    | zero =>
      obtain ⟨r, hr⟩ := grps_head (rows := rows) (ks := ks) (i := 0) (n := rows.length) (by omega) (by omega)
      rw [hr] at hp
      simp only [List.getElem?_cons_zero, Option.some.injEq] at hp
      subst hp
      dsimp only at hxa
      omega
    | succ m =>
      obtain ⟨q, hq⟩ : ∃ q, (grps rows ks rows.length 0)[m]? = some q := ⟨_, List.getElem?_eq_getElem (by omega)⟩
      obtain ⟨a', b', c', d', e'⟩ := grps_at rows.length 0 (Int.le_refl _) (by omega) m q hq
      have hpe := d' p hp
      have hbq := rend_bd (ks := ks) b'
      have k1 := sorted_le hs hx (show x ≤ p.1 - 1 by omega) (show p.1 - 1 < rows.length by omega)
      have k2 := rend_in (rows := rows) (ks := ks) (show q.1 ≤ p.1 - 1 by omega) (show p.1 - 1 < rend rows ks q.1 by omega)
      have k3 := rend_out hs a' b' (by omega)
      rw [← hpe] at k3
      have k4 := good_R.anti (keyAt rows ks q.1) (keyAt rows ks (p.1 - 1))
      exact good_R.le_lt k1 (good_R.le_lt (by omega) k3)
end
theorem ints_row {w : World} {base : Nat} {v : Value} {xs : List Int} (h : w.ownsRow base 3 1 v xs.length (xs.map (Value.int .i64))) : ∃ A c, v = .slice A xs.length c ∧ xs.length ≤ c ∧ Kd.C (Kd.int .i64) w A xs.length xs := by
  have hR : (Kd.int .i64).R 3 w base (fun k => some k = v.ownBlock) v xs := ⟨fun k hk => hk.symm, xs.map (Value.int .i64), h, by simp [Kd.int, Kd.scalar], fun j p hj => ?_⟩
  · exact Kd.N_reads (Kd.R_N hR)
  · have hlt : j < xs.length := (List.getElem?_eq_some_iff.1 hj).1
    have hv := (List.getElem?_eq_some_iff.1 hj).2
    show ((xs.map (Value.int .i64)).drop (j * 1)).take 1 = [Value.int .i64 p]
    rw [Nat.mul_one, ← List.map_drop, List.drop_eq_getElem_cons hlt, hv]
    rfl
def GroupsPost (rows : List R33) (ks : List Int) (w : World) (e : Ending) (w' : World) : Prop := ∃ A c, e = .returned (.slice A (begs rows ks).length c) ∧ Kd.C (Kd.int .i64) w' A (begs rows ks).length (begs rows ks) ∧ Below w.heap.size w w'
theorem Groups_calls (rows : List R33) (ks : List Int) (A B : Option Addr) (c d : Nat) (w : World) (hk : ks.length ≤ 6) (hl : rows.length ≤ 10) (hs : sortedB rows ks = true) (hok : ∀ r ∈ rows, keyOkB r.vals ks) (hA : Kd.C kR w A rows.length rows) (hB : Kd.C (Kd.int .i64) w B ks.length ks) :
    Calls Tryz.prog 7 #[.slice A rows.length c, .slice B ks.length d] w (GroupsPost rows ks w) := by
  refine callsIn_wide.1 ((Groups_in 3 (Nat.le_refl _) rows ks A B c d w hk hl hs hok hA hB).mono ?_)
  rintro e w' ⟨v, rfl, hrow, hb⟩
  have h2 : (grps rows ks rows.length 0).map (fun x => Value.int .i64 x.1) = (begs rows ks).map (Value.int .i64) := by simp [begs]
  rw [h2, ← begs_len] at hrow
  obtain ⟨A, c, rfl, _, hC⟩ := ints_row hrow
  exact ⟨A, c, rfl, hC, hb⟩
end Go.Proofs.YtcpngmclhicciaaGreatDoor
/- The law 'MergejoinGroups' returns true, given that 'awake' does. -/
namespace Go.Proofs.YtcpngmclhicciaaGreatDoor
open Go.RowKit Go.Proofs.YtcpngmclhicciaaGreatDoorW.PrintWords PMergejoinGroups
set_option linter.unusedVariables false
set_option linter.unusedSimpArgs false
theorem add_add_row (ad : Addr) (a t : Int) (h0 : 0 ≤ a) (h1 : 0 ≤ t) : (ad.add (a.toNat * 2)).add (t.toNat * 2) = ad.add ((a + t).toNat * 2) := by
  have : (a + t).toNat * 2 = a.toNat * 2 + t.toNat * 2 := by omega
  rw [Go.Proofs.YtcpngmclhicciaaGreatDoorW.PrintWords.add_add, this]
structure AwakeOk (M : World → Prop) : Prop where
  later : ∀ w w', M w → Below w.heap.size w w' → M w'
  calls : ∀ w, M w → Calls Tryz.prog 6 #[] w fun e w' => e = .returned (.bool true) ∧ Below w.heap.size w w'
set_option maxRecDepth 100000 in
set_option maxHeartbeats 4000000 in
theorem law_of_awake (M : World → Prop) (hM : AwakeOk M) (rows : List R33) (ks : List Int) (A B : Option Addr) (c d : Nat) (w : World) (hw : M w) (hc : rows.length ≤ c) (hA : Kd.C kR w A rows.length rows) (hR : AnnsOk w rows) (hB : Kd.C (Kd.int .i64) w B ks.length ks) :
    Calls Tryz.prog 3 #[.slice A rows.length c, .slice B ks.length d] w fun e w' => e = .returned (.bool true) ∧ Below w.heap.size w w' := by
  have HM := Aside0.mk (And.intro hM hw)
  have HA := Aside0.mk (And.intro hA (And.intro hB hR))
  have HC := Aside0.mk hc
  clear hM hw hc hA hB hR
  go_enter Tryz.func3, Tryz.ntmps3
  go_wp2_with fail
  refine (few44_calls rows ks A B c d _ HA.out.1 HA.out.2.2 HA.out.2.1).mono ?_
  rintro e w1 ⟨b, rfl, hfew, hb1⟩
  have HB1 := Aside0.mk hb1
  clear hb1
  cases b
  case false =>
    clear hfew
    go_wp2_with fail
    refine (HM.out.1.calls w1 (HM.out.1.later _ _ HM.out.2 HB1.out)).mono ?_
    rintro e w2 ⟨rfl, hb2⟩
    go_wp2
    go_ret
    exact ⟨rfl, below_then HB1.out HB1.out.size hb2⟩
  obtain ⟨hn1, hn2⟩ := hfew rfl
  have HN := Aside0.mk (And.intro hn1 hn2)
  clear hn1 hn2 hfew
  obtain ⟨sb, hsb⟩ : ∃ b, sortedB rows ks = b := ⟨_, rfl⟩
  have HS := Aside0.mk hsb
  clear hsb
  go_wp2_with fail
  refine (sorted_calls rows ks A B c d _ HN.out.2 (Kd.C_below HA.out.1 HB1.out) (Kd.C_below HA.out.2.1 HB1.out)).mono ?_
  rintro e w2 ⟨rfl, hb2⟩
  rw [HS.out]
  have HB2 := Aside0.mk (below_then HB1.out HB1.out.size hb2)
  clear hb2 HB1
  cases sb
  case false =>
    go_wp2_with fail
    refine (HM.out.1.calls w2 (HM.out.1.later _ _ HM.out.2 HB2.out)).mono ?_
    rintro e w3 ⟨rfl, hb3⟩
    go_wp2
    go_ret
    exact ⟨rfl, below_then HB2.out HB2.out.size hb3⟩
  by_cases hz : rows.length = 0
  · have hz2 : ((rows.length : Int) == 0) = true := by rw [hz]; rfl
    clear hz
    go_wp2_with fail
    refine (HM.out.1.calls w2 (HM.out.1.later _ _ HM.out.2 HB2.out)).mono ?_
    rintro e w3 ⟨rfl, hb3⟩
    go_wp2
    go_ret
    exact ⟨rfl, below_then HB2.out HB2.out.size hb3⟩
  have hz2 : ((rows.length : Int) == 0) = false := by simp [hz]
  have HZ := Aside0.mk (show 0 < rows.length by omega)
  clear hz
  have HKO := Aside0.mk (keyedB_ok (show keyedB rows ks = true by have := HS.out; rw [sortedB, Bool.and_eq_true] at this; exact this.1))
  have HSO := Aside0.mk (show srt rows ks (rows.length - 1) = true by have := HS.out; rw [sortedB, Bool.and_eq_true] at this; exact this.2)
  go_upto_region 4 with (first | (go_at_call 7; (with_reducible refine (Groups_calls rows ks A B c d _ HN.out.2 HN.out.1 HS.out HKO.out (Kd.C_below HA.out.1 HB2.out) (Kd.C_below HA.out.2.1 HB2.out)).mono ?_); rintro e w3 ⟨A3, c3, rfl, hG, hb3⟩) | fail)
  obtain ⟨f0, f1⟩ := begs_first (rows := rows) (ks := ks) HZ.out
  have HF := Aside0.mk (fun (j : Int) (h0 : 0 ≤ j) (h1 : j < (begs rows ks).length) => begs_at HSO.out h0 h1)
  obtain ⟨gs, hgs⟩ : ∃ l, begs rows ks = l := ⟨_, rfl⟩
  rw [hgs] at hG f0 f1 HF ⊢
  have HGE := Aside0.mk hgs
  have HB3 := Aside0.mk (below_then HB2.out HB2.out.size hb3)
  have HG := Aside0.mk hG
  obtain ⟨kd, e0, k0⟩ := Kd.at_int hG 0 (Int.le_refl _) (by omega)
  subst e0
  rw [f1, show kd.add (Int.toNat 0) = kd by obtain ⟨b, o, k⟩ := kd; rfl] at k0
  have hgl : gs.length ≤ 9223372036854775807 := hG.2.1
  have hz3 : ((gs.length : Int) == 0) = false := by rw [beq_eq_false_iff_ne]; omega
  clear hgs hG hb3 HB2 f1
  replace f0 := eq_true f0
  go_wp2
  clear k0 hz2 hz3
  go_loopg [6, 7, 8, 9, 10, 12, 13, 14, 47, 87] (gs.length + 1) (fun kq v6 v7 v8 v9 v10 v12 v13 v14 v47 v87 wr => ∃ i : Int, v47 = .int .i64 i ∧ Aside0 (0 ≤ i ∧ i ≤ gs.length ∧ kq = gs.length + 1 - i.toNat) ∧ Aside0 (Below w3.heap.size w3 wr))
  case atStart => exact ⟨0, rfl, ⟨by omega, by omega, by omega⟩, ⟨Below.refl _ _⟩⟩
  case round =>
    obtain ⟨i, rfl, HI, HW⟩ := hrel
    obtain ⟨i0, i1, i2⟩ := HI.out
    by_cases hlt : i < gs.length
    · have hb : decide (i < (gs.length : Int)) = true := decide_eq_true hlt
      have hF := HF.out i i0 hlt
      obtain ⟨kd', f1, k0⟩ := Kd.at_int HG.out i i0 hlt
      injection f1 with f1
      subst f1
      replace k0 := cell_later HW.out k0
      have HW4 := Aside0.mk (below_then HB3.out HB3.out.size HW.out)
      by_cases hmore : i + 1 < gs.length
      · have hb2 : decide (i + 1 < (gs.length : Int)) = true := decide_eq_true hmore
        have hwr : IntKind.i64.wrap (i + 1) = i + 1 := IntWalk.i64_in _ (by omega)
        have hfe := hF.more (by rw [HGE.out]; exact hmore)
        obtain ⟨kd', f1, k1⟩ := Kd.at_int HG.out (i + 1) (by omega) hmore
        injection f1 with f1
        subst f1
        replace k1 := cell_later HW.out k1
        rw [HGE.out] at hfe
        obtain ⟨a, ha⟩ : ∃ a, rd gs i = a := ⟨_, rfl⟩
        rw [ha] at hF hfe k0
        rw [hfe] at k1
        have HFF := Aside0.mk hF
        have HII := Aside0.mk (And.intro i0 hlt)
        clear hfe hF i1 i2 ha
        replace i0 := eq_true i0
        replace hlt := eq_true hlt
        replace hmore := eq_true hmore
        have j2 : 0 ≤ i + 1 := by have := HII.out.1; omega
        obtain ⟨e, he⟩ : ∃ e, rend rows ks a = e := ⟨_, rfl⟩
        rw [he] at k1
        have HE := Aside0.mk he
        clear he
        go_upto_region 12 with (fail)
        clear hmore j2 hwr k1 k0 hb2 hb
        have HQ := Aside0.mk (show a < e ∧ e ≤ rows.length ∧ 0 ≤ a ∧ a < rows.length by have h1 := HFF.out.e0; have h2 := HFF.out.e1; have h3 := HFF.out.a0; have h4 := HFF.out.a1; rw [HE.out] at h1 h2; omega)
        have z0 : decide (e ≤ a) = false := decide_eq_false (by have := HQ.out; omega)
        have z1 : decide ((rows.length : Int) < e) = false := decide_eq_false (by have := HQ.out; omega)
        obtain ⟨ad, A0, c0, e1, x0, x1, l0, g0⟩ := at_R HA.out.1 a HQ.out.2.2.1 HQ.out.2.2.2
        subst e1
        have HK1 := Aside0.mk (HKO.out _ (rdR_mem HQ.out.2.2.1 HQ.out.2.2.2))
        have HR1 := Aside0.mk (Kd.C_below g0 HW4.out)
        have HKA := Aside0.mk (show keyF (rdR rows a).vals ks = keyAt rows ks a from rfl)
        obtain ⟨r, hre⟩ : ∃ r, rdR rows a = r := ⟨_, rfl⟩
        rw [hre] at x0 x1 HK1 HR1 HKA
        replace x0 := cell_later HW4.out x0
        replace x1 := cell_later HW4.out x1
        clear l0 g0 hre
        have q0 := eq_true HQ.out.2.2.1
        have q1 := eq_true HQ.out.2.2.2
        go_upto_region 15 with (first | (go_at_call 8; (with_reducible refine (refKey_calls r A0 B c0 d ks _ HN.out.2 HK1.out HR1.out (Kd.C_below HA.out.2.1 HW4.out)).mono ?_); rintro e4 w4 ⟨A4, c4, rfl, l4, f4, hb4⟩) | fail)
        have HB4 := Aside0.mk (below_then HW4.out HW4.out.size hb4)
        have HBW4 := Aside0.mk (below_then HW.out HW.out.size hb4)
        have HK4 := Aside0.mk f4
        clear hb4 f4 l4 x0 x1 z0 z1 HR1
        have s0 : a ≤ e := by have := HQ.out; omega
        have s1 : e ≤ c := by have := HQ.out; have := HC.out; omega
        have s2 : ¬ c = a.toNat := by have := HQ.out; omega
        go_wp2
        obtain ⟨m, hm⟩ : ∃ m : Nat, e.toNat - a.toNat = m := ⟨_, rfl⟩
        rw [hm]
        have HMM := Aside0.mk hm
        obtain ⟨bd, hbd⟩ : ∃ b, ad.add (a.toNat * 2) = b := ⟨_, rfl⟩
        rw [hbd]
        have HBD := Aside0.mk hbd
        have hmm : m ≤ 9223372036854775807 := by have := HN.out.1; have := HQ.out; omega
        clear hm hbd s0 s1 s2 q0 q1
        obtain ⟨wo, hwo⟩ : ∃ wo : World, wr = wo := ⟨_, rfl⟩
        go_loopg [12, 13, 14, 87] (m + 1) (fun kq v12 v13 v14 v87 wi => ∃ t : Int, v87 = .int .i64 t ∧ Aside0 (0 ≤ t ∧ t ≤ m ∧ kq = m + 1 - t.toNat) ∧ Aside0 (Below w4.heap.size w4 wi))
        case atStart => exact ⟨0, rfl, ⟨by omega, by omega, by omega⟩, ⟨Below.refl _ _⟩⟩
        case round =>
          obtain ⟨t, rfl, HT, HV⟩ := hrel
          obtain ⟨t0, t1, t2⟩ := HT.out
          by_cases hlj : t < m
          · have hb : decide (t < (m : Int)) = true := decide_eq_true hlj
            have hx0 : 0 ≤ a + t := by have := HQ.out; omega
            have hx2 : a + t < e := by have := HQ.out; have := HMM.out; omega
            have hx1 : a + t < rows.length := by have := HQ.out; omega
            have HCW := Aside0.mk (below_then HB4.out HB4.out.size HV.out)
            have HZ2 := Aside0.mk (rend_in (rows := rows) (ks := ks) (f := a) (x := a + t) (by omega) (by rw [HE.out]; exact hx2))
            obtain ⟨ad', A5, c5, e1, x0, x1, l0, g0⟩ := at_R HA.out.1 (a + t) hx0 hx1
            injection e1 with e1
            subst e1
            rw [← add_add_row ad a t HQ.out.2.2.1 t0, HBD.out] at x0 x1
            have HK5 := Aside0.mk (HKO.out _ (rdR_mem hx0 hx1))
            have HR5 := Aside0.mk (Kd.C_below g0 HCW.out)
            unfold keyAt at HZ2
            have hka := HKA.out
            unfold keyAt at hka
            rw [← hka] at HZ2
            obtain ⟨s, hse⟩ : ∃ s, rdR rows (a + t) = s := ⟨_, rfl⟩
            rw [hse] at x0 x1 HK5 HR5 HZ2
            replace x0 := cell_later HCW.out x0
            replace x1 := cell_later HCW.out x1
            clear hse l0 g0 hx0 hx1 hx2 t1 t2 hka
            replace hlj := eq_true hlj
            replace t0 := eq_true t0
            go_upto_region 18 with (fail)
            have hba := below_alloc (Below.refl wr.heap.size wr) (.cells (CsR s A5 c5) 33)
            have HX := Aside0.mk (blk_new wr (.cells (CsR s A5 c5) 33))
            obtain ⟨g, hg⟩ : ∃ g, wr.heap.size = g := ⟨_, rfl⟩
            obtain ⟨W6, hW6⟩ : ∃ W6 : World, wr.alloc (.cells (CsR s A5 c5) 33) = W6 := ⟨_, rfl⟩
            rw [hW6] at HX hba ⊢
            have HV6 := Aside0.mk (below_then HV.out HV.out.size hba)
            have HR6 := Aside0.mk (Kd.C_below HR5.out hba)
            have HCW6 := Aside0.mk (below_then HCW.out HCW.out.size hba)
            rw [hg] at HX ⊢
            clear hW6 hg x0 x1 hba
            obtain ⟨b0, b1⟩ := box2 HX.out
            have hzz : (0 != (0 : Int)) = false := rfl
            go_wp2_with (first | (go_at_call 8; (with_reducible refine (refKey_calls s A5 B c5 d ks _ HN.out.2 HK5.out HR6.out (Kd.C_below HA.out.2.1 HCW6.out)).mono ?_); rintro e7 w7 ⟨A7, c7, rfl, l7, f7, hb7⟩; have hb67 := below_then HV6.out HV6.out.size hb7) | (go_at_call 9; (with_reducible refine (cmprows_calls _ _ A4 A7 c4 c7 _ (Kd.C_below HK4.out hb67) f7).mono ?_); rintro e8 w8 ⟨rfl, hb8⟩; rw [HZ2.out]) | fail)
            have HV8 := Aside0.mk (below_then hb67 hb67.size hb8)
            have t0' := of_eq_true t0
            have hlj' := of_eq_true hlj
            go_roundg (m + 1 - (t + 1).toNat)
            case measure => have := HT.out.2.2; omega
            case rel => exact ⟨t + 1, congrArg (Value.int .i64) (wrap_succ t0' hlj' hmm), ⟨by omega, by omega, rfl⟩, HV8⟩
          · have hb : decide (t < (m : Int)) = false := decide_eq_false hlj
            have HCW := Aside0.mk (below_then HB4.out HB4.out.size HV.out)
            have HBX := Aside0.mk (below_then HBW4.out HBW4.out.size HV.out)
            have HK6 := Aside0.mk (Kd.C_below HK4.out HV.out)
            have HAV := Aside0.mk (show adv rows ks (keyF r.vals ks) ((rows.length : Int) - 0).toNat 0 = a by rw [HKA.out]; exact HFF.out.adv)
            have HKB := Aside0.mk (show keyedB rows ks = true by have := HS.out; rw [sortedB, Bool.and_eq_true] at this; exact this.1)
            have haa : (a != a) = false := by simp
            have hle0 : (0 : Int) ≤ rows.length := by omega
            clear hlj t0 t1 t2
            by_cases hel : e < rows.length
            · have hd : decide (e < (rows.length : Int)) = true := decide_eq_true hel
              have he0 : 0 ≤ e := by have := HQ.out; omega
              have HZ2 := Aside0.mk (rend_out (rows := rows) (ks := ks) (f := a) HSO.out HQ.out.2.2.1 HQ.out.2.2.2 (by rw [HE.out]; exact hel))
              obtain ⟨ad', A5, c5, e1, x0, x1, l0, g0⟩ := at_R HA.out.1 e he0 hel
              injection e1 with e1
              subst e1
              have HK5 := Aside0.mk (HKO.out _ (rdR_mem he0 hel))
              have HR5 := Aside0.mk (Kd.C_below g0 HCW.out)
              rw [HE.out] at HZ2
              unfold keyAt at HZ2
              have hka := HKA.out
              unfold keyAt at hka
              rw [← hka] at HZ2
              obtain ⟨s, hse⟩ : ∃ s, rdR rows e = s := ⟨_, rfl⟩
              rw [hse] at x0 x1 HK5 HR5 HZ2
              replace x0 := cell_later HCW.out x0
              replace x1 := cell_later HCW.out x1
              have hzz : decide (0 ≤ cmpR (keyF r.vals ks) (keyF s.vals ks)) = false := decide_eq_false (by have := HZ2.out; omega)
              clear hse l0 g0 hka
              replace hel := eq_true hel
              replace he0 := eq_true he0
              go_wp2_with (first | (go_at_call 8; (with_reducible refine (refKey_calls s A5 B c5 d ks _ HN.out.2 HK5.out HR5.out (Kd.C_below HA.out.2.1 HCW.out)).mono ?_); rintro e7 w7 ⟨A7, c7, rfl, l7, f7, hb7⟩) | (go_at_call 9; (with_reducible refine (cmprows_calls _ _ A4 A7 c4 c7 _ (Kd.C_below HK6.out hb7) f7).mono ?_); rintro e8 w8 ⟨rfl, hb8⟩; have hb78 := below_then hb7 hb7.size hb8; have HC8 := Aside0.mk (below_then HCW.out HCW.out.size hb78); clear x0 x1 hb8) | (go_at_call 10; (with_reducible refine (Advance_calls rows ks (keyF r.vals ks) (some ad) B A4 c d c4 0 _ (Int.le_refl _) hle0 HN.out.2 HKB.out (Kd.C_below HA.out.1 HC8.out) (Kd.C_below HA.out.2.1 HC8.out) (Kd.C_below HK6.out hb78)).mono ?_); rintro e9 w9 ⟨rfl, hb9⟩; rw [HAV.out]) | fail)
              have HV8 := Aside0.mk (below_then (below_then HBX.out HBX.out.size hb78) (Nat.le_trans HBX.out.size hb78.size) hb9)
              have hlt' := of_eq_true hlt
              have i0' := of_eq_true i0
              go_roundg (gs.length + 1 - (i + 1).toNat)
              case measure => have := HI.out.2.2; omega
              case rel => exact ⟨i + 1, congrArg (Value.int .i64) (wrap_succ i0' hlt' hgl), ⟨by omega, by omega, rfl⟩, HV8⟩
            · have hd : decide (e < (rows.length : Int)) = false := decide_eq_false hel
              replace hel := eq_false hel
              go_wp2_with (first | (go_at_call 10; (with_reducible refine (Advance_calls rows ks (keyF r.vals ks) (some ad) B A4 c d c4 0 _ (Int.le_refl _) hle0 HN.out.2 HKB.out (Kd.C_below HA.out.1 HCW.out) (Kd.C_below HA.out.2.1 HCW.out) HK6.out).mono ?_); rintro e9 w9 ⟨rfl, hb9⟩; rw [HAV.out]) | fail)
              have HV8 := Aside0.mk (below_then HBX.out HBX.out.size hb9)
              have hlt' := of_eq_true hlt
              have i0' := of_eq_true i0
              go_roundg (gs.length + 1 - (i + 1).toNat)
              case measure => have := HI.out.2.2; omega
              case rel => exact ⟨i + 1, congrArg (Value.int .i64) (wrap_succ i0' hlt' hgl), ⟨by omega, by omega, rfl⟩, HV8⟩
      · have hb2 : decide (i + 1 < (gs.length : Int)) = false := decide_eq_false hmore
        have hwr : IntKind.i64.wrap (i + 1) = i + 1 := IntWalk.i64_in _ (by omega)
        have hfe := hF.last (by rw [HGE.out]; exact hmore)
        obtain ⟨a, ha⟩ : ∃ a, rd gs i = a := ⟨_, rfl⟩
        rw [ha] at hF hfe k0
        have HFF := Aside0.mk hF
        have HII := Aside0.mk (And.intro i0 hlt)
        have HL := Aside0.mk hfe
        have hmore' : (i + 1 < (gs.length : Int)) = False := eq_false hmore
        clear hfe hF i1 i2 ha hmore
        replace i0 := eq_true i0
        replace hlt := eq_true hlt
        go_upto_region 12 with (fail)
        obtain ⟨e, he⟩ : ∃ e, rend rows ks a = e := ⟨_, rfl⟩
        have HE := Aside0.mk he
        rw [HL.out, he]
        have HL2 := Aside0.mk (show e = rows.length by rw [HL.out, he])
        clear he hmore' hwr k0 hb2 hb HL
        have HQ := Aside0.mk (show a < e ∧ e ≤ rows.length ∧ 0 ≤ a ∧ a < rows.length by have h1 := HFF.out.e0; have h2 := HFF.out.e1; have h3 := HFF.out.a0; have h4 := HFF.out.a1; rw [HE.out] at h1 h2; omega)
        have z0 : decide (e ≤ a) = false := decide_eq_false (by have := HQ.out; omega)
        have z1 : decide ((rows.length : Int) < e) = false := decide_eq_false (by have := HQ.out; omega)
        obtain ⟨ad, A0, c0, e1, x0, x1, l0, g0⟩ := at_R HA.out.1 a HQ.out.2.2.1 HQ.out.2.2.2
        subst e1
        have HK1 := Aside0.mk (HKO.out _ (rdR_mem HQ.out.2.2.1 HQ.out.2.2.2))
        have HR1 := Aside0.mk (Kd.C_below g0 HW4.out)
        have HKA := Aside0.mk (show keyF (rdR rows a).vals ks = keyAt rows ks a from rfl)
        obtain ⟨r, hre⟩ : ∃ r, rdR rows a = r := ⟨_, rfl⟩
        rw [hre] at x0 x1 HK1 HR1 HKA
        replace x0 := cell_later HW4.out x0
        replace x1 := cell_later HW4.out x1
        clear l0 g0 hre
        have q0 := eq_true HQ.out.2.2.1
        have q1 := eq_true HQ.out.2.2.2
        go_upto_region 15 with (first | (go_at_call 8; (with_reducible refine (refKey_calls r A0 B c0 d ks _ HN.out.2 HK1.out HR1.out (Kd.C_below HA.out.2.1 HW4.out)).mono ?_); rintro e4 w4 ⟨A4, c4, rfl, l4, f4, hb4⟩) | fail)
        have HB4 := Aside0.mk (below_then HW4.out HW4.out.size hb4)
        have HBW4 := Aside0.mk (below_then HW.out HW.out.size hb4)
        have HK4 := Aside0.mk f4
        clear hb4 f4 l4 x0 x1 z0 z1 HR1
        have s0 : a ≤ e := by have := HQ.out; omega
        have s1 : e ≤ c := by have := HQ.out; have := HC.out; omega
        have s2 : ¬ c = a.toNat := by have := HQ.out; omega
        go_wp2
        obtain ⟨m, hm⟩ : ∃ m : Nat, e.toNat - a.toNat = m := ⟨_, rfl⟩
        rw [hm]
        have HMM := Aside0.mk hm
        obtain ⟨bd, hbd⟩ : ∃ b, ad.add (a.toNat * 2) = b := ⟨_, rfl⟩
        rw [hbd]
        have HBD := Aside0.mk hbd
        have hmm : m ≤ 9223372036854775807 := by have := HN.out.1; have := HQ.out; omega
        clear hm hbd s0 s1 s2 q0 q1
        obtain ⟨wo, hwo⟩ : ∃ wo : World, wr = wo := ⟨_, rfl⟩
        go_loopg [12, 13, 14, 87] (m + 1) (fun kq v12 v13 v14 v87 wi => ∃ t : Int, v87 = .int .i64 t ∧ Aside0 (0 ≤ t ∧ t ≤ m ∧ kq = m + 1 - t.toNat) ∧ Aside0 (Below w4.heap.size w4 wi))
        case atStart => exact ⟨0, rfl, ⟨by omega, by omega, by omega⟩, ⟨Below.refl _ _⟩⟩
        case round =>
          obtain ⟨t, rfl, HT, HV⟩ := hrel
          obtain ⟨t0, t1, t2⟩ := HT.out
          by_cases hlj : t < m
          · have hb : decide (t < (m : Int)) = true := decide_eq_true hlj
            have hx0 : 0 ≤ a + t := by have := HQ.out; omega
            have hx2 : a + t < e := by have := HQ.out; have := HMM.out; omega
            have hx1 : a + t < rows.length := by have := HQ.out; omega
            have HCW := Aside0.mk (below_then HB4.out HB4.out.size HV.out)
            have HZ2 := Aside0.mk (rend_in (rows := rows) (ks := ks) (f := a) (x := a + t) (by omega) (by rw [HE.out]; exact hx2))
            obtain ⟨ad', A5, c5, e1, x0, x1, l0, g0⟩ := at_R HA.out.1 (a + t) hx0 hx1
            injection e1 with e1
            subst e1
            rw [← add_add_row ad a t HQ.out.2.2.1 t0, HBD.out] at x0 x1
            have HK5 := Aside0.mk (HKO.out _ (rdR_mem hx0 hx1))
            have HR5 := Aside0.mk (Kd.C_below g0 HCW.out)
            unfold keyAt at HZ2
            have hka := HKA.out
            unfold keyAt at hka
            rw [← hka] at HZ2
            obtain ⟨s, hse⟩ : ∃ s, rdR rows (a + t) = s := ⟨_, rfl⟩
            rw [hse] at x0 x1 HK5 HR5 HZ2
            replace x0 := cell_later HCW.out x0
            replace x1 := cell_later HCW.out x1
            clear hse l0 g0 hx0 hx1 hx2 t1 t2 hka
            replace hlj := eq_true hlj
            replace t0 := eq_true t0
            go_upto_region 18 with (fail)
            have hba := below_alloc (Below.refl wr.heap.size wr) (.cells (CsR s A5 c5) 33)
            have HX := Aside0.mk (blk_new wr (.cells (CsR s A5 c5) 33))
            obtain ⟨g, hg⟩ : ∃ g, wr.heap.size = g := ⟨_, rfl⟩
            obtain ⟨W6, hW6⟩ : ∃ W6 : World, wr.alloc (.cells (CsR s A5 c5) 33) = W6 := ⟨_, rfl⟩
            rw [hW6] at HX hba ⊢
            have HV6 := Aside0.mk (below_then HV.out HV.out.size hba)
            have HR6 := Aside0.mk (Kd.C_below HR5.out hba)
            have HCW6 := Aside0.mk (below_then HCW.out HCW.out.size hba)
            rw [hg] at HX ⊢
            clear hW6 hg x0 x1 hba
            obtain ⟨b0, b1⟩ := box2 HX.out
            have hzz : (0 != (0 : Int)) = false := rfl
            go_wp2_with (first | (go_at_call 8; (with_reducible refine (refKey_calls s A5 B c5 d ks _ HN.out.2 HK5.out HR6.out (Kd.C_below HA.out.2.1 HCW6.out)).mono ?_); rintro e7 w7 ⟨A7, c7, rfl, l7, f7, hb7⟩; have hb67 := below_then HV6.out HV6.out.size hb7) | (go_at_call 9; (with_reducible refine (cmprows_calls _ _ A4 A7 c4 c7 _ (Kd.C_below HK4.out hb67) f7).mono ?_); rintro e8 w8 ⟨rfl, hb8⟩; rw [HZ2.out]) | fail)
            have HV8 := Aside0.mk (below_then hb67 hb67.size hb8)
            have t0' := of_eq_true t0
            have hlj' := of_eq_true hlj
            go_roundg (m + 1 - (t + 1).toNat)
            case measure => have := HT.out.2.2; omega
            case rel => exact ⟨t + 1, congrArg (Value.int .i64) (wrap_succ t0' hlj' hmm), ⟨by omega, by omega, rfl⟩, HV8⟩
          · have hb : decide (t < (m : Int)) = false := decide_eq_false hlj
            have HCW := Aside0.mk (below_then HB4.out HB4.out.size HV.out)
            have HBX := Aside0.mk (below_then HBW4.out HBW4.out.size HV.out)
            have HK6 := Aside0.mk (Kd.C_below HK4.out HV.out)
            have HAV := Aside0.mk (show adv rows ks (keyF r.vals ks) ((rows.length : Int) - 0).toNat 0 = a by rw [HKA.out]; exact HFF.out.adv)
            have HKB := Aside0.mk (show keyedB rows ks = true by have := HS.out; rw [sortedB, Bool.and_eq_true] at this; exact this.1)
            have haa : (a != a) = false := by simp
            have hle0 : (0 : Int) ≤ rows.length := by omega
            clear hlj t0 t1 t2
            by_cases hel : e < rows.length
            · have hd : decide (e < (rows.length : Int)) = true := decide_eq_true hel
              have he0 : 0 ≤ e := by have := HQ.out; omega
              have HZ2 := Aside0.mk (rend_out (rows := rows) (ks := ks) (f := a) HSO.out HQ.out.2.2.1 HQ.out.2.2.2 (by rw [HE.out]; exact hel))
              obtain ⟨ad', A5, c5, e1, x0, x1, l0, g0⟩ := at_R HA.out.1 e he0 hel
              injection e1 with e1
              subst e1
              have HK5 := Aside0.mk (HKO.out _ (rdR_mem he0 hel))
              have HR5 := Aside0.mk (Kd.C_below g0 HCW.out)
              rw [HE.out] at HZ2
              unfold keyAt at HZ2
              have hka := HKA.out
              unfold keyAt at hka
              rw [← hka] at HZ2
              obtain ⟨s, hse⟩ : ∃ s, rdR rows e = s := ⟨_, rfl⟩
              rw [hse] at x0 x1 HK5 HR5 HZ2
              replace x0 := cell_later HCW.out x0
              replace x1 := cell_later HCW.out x1
              have hzz : decide (0 ≤ cmpR (keyF r.vals ks) (keyF s.vals ks)) = false := decide_eq_false (by have := HZ2.out; omega)
              clear hse l0 g0 hka
              replace hel := eq_true hel
              replace he0 := eq_true he0
              go_wp2_with (first | (go_at_call 8; (with_reducible refine (refKey_calls s A5 B c5 d ks _ HN.out.2 HK5.out HR5.out (Kd.C_below HA.out.2.1 HCW.out)).mono ?_); rintro e7 w7 ⟨A7, c7, rfl, l7, f7, hb7⟩) | (go_at_call 9; (with_reducible refine (cmprows_calls _ _ A4 A7 c4 c7 _ (Kd.C_below HK6.out hb7) f7).mono ?_); rintro e8 w8 ⟨rfl, hb8⟩; have hb78 := below_then hb7 hb7.size hb8; have HC8 := Aside0.mk (below_then HCW.out HCW.out.size hb78); clear x0 x1 hb8) | (go_at_call 10; (with_reducible refine (Advance_calls rows ks (keyF r.vals ks) (some ad) B A4 c d c4 0 _ (Int.le_refl _) hle0 HN.out.2 HKB.out (Kd.C_below HA.out.1 HC8.out) (Kd.C_below HA.out.2.1 HC8.out) (Kd.C_below HK6.out hb78)).mono ?_); rintro e9 w9 ⟨rfl, hb9⟩; rw [HAV.out]) | fail)
              have HV8 := Aside0.mk (below_then (below_then HBX.out HBX.out.size hb78) (Nat.le_trans HBX.out.size hb78.size) hb9)
              have hlt' := of_eq_true hlt
              have i0' := of_eq_true i0
              rw [HL2.out]
              go_roundg (gs.length + 1 - (i + 1).toNat)
              case measure => have := HI.out.2.2; omega
              case rel => exact ⟨i + 1, congrArg (Value.int .i64) (wrap_succ i0' hlt' hgl), ⟨by omega, by omega, rfl⟩, HV8⟩
            · have hd : decide (e < (rows.length : Int)) = false := decide_eq_false hel
              replace hel := eq_false hel
              go_wp2_with (first | (go_at_call 10; (with_reducible refine (Advance_calls rows ks (keyF r.vals ks) (some ad) B A4 c d c4 0 _ (Int.le_refl _) hle0 HN.out.2 HKB.out (Kd.C_below HA.out.1 HCW.out) (Kd.C_below HA.out.2.1 HCW.out) HK6.out).mono ?_); rintro e9 w9 ⟨rfl, hb9⟩; rw [HAV.out]) | fail)
              have HV8 := Aside0.mk (below_then HBX.out HBX.out.size hb9)
              have hlt' := of_eq_true hlt
              have i0' := of_eq_true i0
              rw [HL2.out]
              go_roundg (gs.length + 1 - (i + 1).toNat)
              case measure => have := HI.out.2.2; omega
              case rel => exact ⟨i + 1, congrArg (Value.int .i64) (wrap_succ i0' hlt' hgl), ⟨by omega, by omega, rfl⟩, HV8⟩
    · have hb : decide (i < (gs.length : Int)) = false := decide_eq_false hlt
      have HW4 := Aside0.mk (below_then HB3.out HB3.out.size HW.out)
      clear i0 i1 i2 hlt HI
      go_wp2_with (first | (go_at_call 6; refine (HM.out.1.calls _ (HM.out.1.later _ _ HM.out.2 HW4.out)).mono ?_; rintro e5 w5 ⟨rfl, hb5⟩) | fail)
      go_ret
      exact ⟨rfl, below_then HW4.out HW4.out.size hb5⟩
end Go.Proofs.YtcpngmclhicciaaGreatDoor
/- 'awake': the examples. -/
namespace Go.Proofs.YtcpngmclhicciaaGreatDoor
open Go.RowKit Go.Proofs.YtcpngmclhicciaaGreatDoorW.PrintWords PMergejoinGroups
set_option linter.unusedVariables false
set_option linter.unusedSimpArgs false
/-- What the operations of the drawn region that have come up have left. -/
structure RB (W1 : World) (L : Array Bool) (u2 u3 u6 u7 u8 u9 u10 u11 u12 u13 u14 u15 u16 : Value) (w : World) : Prop where
  b : Below W1.heap.size W1 w
  h0 : L.getD 0 false = true → FI [1, 2, 2] u7 w
  h1 : L.getD 1 false = true → FL u8 w
  h2 : L.getD 2 false = true → FI [2, 2, 3] u9 w
  h3 : L.getD 3 false = true → FR u10 w
  h4 : L.getD 4 false = true → F1 u11 w
  h5 : L.getD 5 false = true → F1 u12 w
  h6 : L.getD 6 false = true → u13 = (.agg #[.int .i64 0, .int .i64 0, .int .i64 2, .int .i64 1, .string ⟨#[]⟩, .int .i64 0, .slice none 0 0])
  h7 : L.getD 7 false = true → F4 u14
  h8 : L.getD 8 false = true → F4 u6
  h9 : L.getD 9 false = true → FS u15
  h10 : L.getD 10 false = true → u16 = .int .i64 0
  h11 : L.getD 11 false = true → FS u2
  h12 : L.getD 12 false = true → u3 = .int .i64 0
theorem RB.later {W1 : World} {L : Array Bool} {u2 u3 u6 u7 u8 u9 u10 u11 u12 u13 u14 u15 u16 : Value} {w w' : World} (h : RB W1 L u2 u3 u6 u7 u8 u9 u10 u11 u12 u13 u14 u15 u16 w) (hb : Below w.heap.size w w') : RB W1 L u2 u3 u6 u7 u8 u9 u10 u11 u12 u13 u14 u15 u16 w' :=
  ⟨below_then h.b h.b.size hb, fun e => (h.h0 e).later hb, fun e => (h.h1 e).later hb, fun e => (h.h2 e).later hb, fun e => (h.h3 e).later hb, fun e => (h.h4 e).later hb, fun e => (h.h5 e).later hb, h.h6, h.h7, h.h8, h.h9, h.h10, h.h11, h.h12⟩
theorem RB.p0 {W1 : World} {L : Array Bool} {u2 u3 u6 u7 u8 u9 u10 u11 u12 u13 u14 u15 u16 : Value} {w : World} (h : RB W1 L u2 u3 u6 u7 u8 u9 u10 u11 u12 u13 u14 u15 u16 w) {v : Value} (hf : FI [1, 2, 2] v w) : RB W1 (L.setIfInBounds 0 true) u2 u3 u6 v u8 u9 u10 u11 u12 u13 u14 u15 u16 w :=
  ⟨h.b, fun _ => hf, fun e => h.h1 (by rwa [getD_set_ne false (by decide)] at e), fun e => h.h2 (by rwa [getD_set_ne false (by decide)] at e), fun e => h.h3 (by rwa [getD_set_ne false (by decide)] at e), fun e => h.h4 (by rwa [getD_set_ne false (by decide)] at e), fun e => h.h5 (by rwa [getD_set_ne false (by decide)] at e), fun e => h.h6 (by rwa [getD_set_ne false (by decide)] at e), fun e => h.h7 (by rwa [getD_set_ne false (by decide)] at e), fun e => h.h8 (by rwa [getD_set_ne false (by decide)] at e), fun e => h.h9 (by rwa [getD_set_ne false (by decide)] at e), fun e => h.h10 (by rwa [getD_set_ne false (by decide)] at e), fun e => h.h11 (by rwa [getD_set_ne false (by decide)] at e), fun e => h.h12 (by rwa [getD_set_ne false (by decide)] at e)⟩
theorem RB.p1 {W1 : World} {L : Array Bool} {u2 u3 u6 u7 u8 u9 u10 u11 u12 u13 u14 u15 u16 : Value} {w : World} (h : RB W1 L u2 u3 u6 u7 u8 u9 u10 u11 u12 u13 u14 u15 u16 w) {v : Value} (hf : FL v w) : RB W1 (L.setIfInBounds 1 true) u2 u3 u6 u7 v u9 u10 u11 u12 u13 u14 u15 u16 w :=
  ⟨h.b, fun e => h.h0 (by rwa [getD_set_ne false (by decide)] at e), fun _ => hf, fun e => h.h2 (by rwa [getD_set_ne false (by decide)] at e), fun e => h.h3 (by rwa [getD_set_ne false (by decide)] at e), fun e => h.h4 (by rwa [getD_set_ne false (by decide)] at e), fun e => h.h5 (by rwa [getD_set_ne false (by decide)] at e), fun e => h.h6 (by rwa [getD_set_ne false (by decide)] at e), fun e => h.h7 (by rwa [getD_set_ne false (by decide)] at e), fun e => h.h8 (by rwa [getD_set_ne false (by decide)] at e), fun e => h.h9 (by rwa [getD_set_ne false (by decide)] at e), fun e => h.h10 (by rwa [getD_set_ne false (by decide)] at e), fun e => h.h11 (by rwa [getD_set_ne false (by decide)] at e), fun e => h.h12 (by rwa [getD_set_ne false (by decide)] at e)⟩
theorem RB.p2 {W1 : World} {L : Array Bool} {u2 u3 u6 u7 u8 u9 u10 u11 u12 u13 u14 u15 u16 : Value} {w : World} (h : RB W1 L u2 u3 u6 u7 u8 u9 u10 u11 u12 u13 u14 u15 u16 w) {v : Value} (hf : FI [2, 2, 3] v w) : RB W1 (L.setIfInBounds 2 true) u2 u3 u6 u7 u8 v u10 u11 u12 u13 u14 u15 u16 w :=
  ⟨h.b, fun e => h.h0 (by rwa [getD_set_ne false (by decide)] at e), fun e => h.h1 (by rwa [getD_set_ne false (by decide)] at e), fun _ => hf, fun e => h.h3 (by rwa [getD_set_ne false (by decide)] at e), fun e => h.h4 (by rwa [getD_set_ne false (by decide)] at e), fun e => h.h5 (by rwa [getD_set_ne false (by decide)] at e), fun e => h.h6 (by rwa [getD_set_ne false (by decide)] at e), fun e => h.h7 (by rwa [getD_set_ne false (by decide)] at e), fun e => h.h8 (by rwa [getD_set_ne false (by decide)] at e), fun e => h.h9 (by rwa [getD_set_ne false (by decide)] at e), fun e => h.h10 (by rwa [getD_set_ne false (by decide)] at e), fun e => h.h11 (by rwa [getD_set_ne false (by decide)] at e), fun e => h.h12 (by rwa [getD_set_ne false (by decide)] at e)⟩
theorem RB.p3 {W1 : World} {L : Array Bool} {u2 u3 u6 u7 u8 u9 u10 u11 u12 u13 u14 u15 u16 : Value} {w : World} (h : RB W1 L u2 u3 u6 u7 u8 u9 u10 u11 u12 u13 u14 u15 u16 w) {v : Value} (hf : FR v w) : RB W1 (L.setIfInBounds 3 true) u2 u3 u6 u7 u8 u9 v u11 u12 u13 u14 u15 u16 w :=
  ⟨h.b, fun e => h.h0 (by rwa [getD_set_ne false (by decide)] at e), fun e => h.h1 (by rwa [getD_set_ne false (by decide)] at e), fun e => h.h2 (by rwa [getD_set_ne false (by decide)] at e), fun _ => hf, fun e => h.h4 (by rwa [getD_set_ne false (by decide)] at e), fun e => h.h5 (by rwa [getD_set_ne false (by decide)] at e), fun e => h.h6 (by rwa [getD_set_ne false (by decide)] at e), fun e => h.h7 (by rwa [getD_set_ne false (by decide)] at e), fun e => h.h8 (by rwa [getD_set_ne false (by decide)] at e), fun e => h.h9 (by rwa [getD_set_ne false (by decide)] at e), fun e => h.h10 (by rwa [getD_set_ne false (by decide)] at e), fun e => h.h11 (by rwa [getD_set_ne false (by decide)] at e), fun e => h.h12 (by rwa [getD_set_ne false (by decide)] at e)⟩
theorem RB.p4 {W1 : World} {L : Array Bool} {u2 u3 u6 u7 u8 u9 u10 u11 u12 u13 u14 u15 u16 : Value} {w : World} (h : RB W1 L u2 u3 u6 u7 u8 u9 u10 u11 u12 u13 u14 u15 u16 w) {v : Value} (hf : F1 v w) : RB W1 (L.setIfInBounds 4 true) u2 u3 u6 u7 u8 u9 u10 v u12 u13 u14 u15 u16 w :=
  ⟨h.b, fun e => h.h0 (by rwa [getD_set_ne false (by decide)] at e), fun e => h.h1 (by rwa [getD_set_ne false (by decide)] at e), fun e => h.h2 (by rwa [getD_set_ne false (by decide)] at e), fun e => h.h3 (by rwa [getD_set_ne false (by decide)] at e), fun _ => hf, fun e => h.h5 (by rwa [getD_set_ne false (by decide)] at e), fun e => h.h6 (by rwa [getD_set_ne false (by decide)] at e), fun e => h.h7 (by rwa [getD_set_ne false (by decide)] at e), fun e => h.h8 (by rwa [getD_set_ne false (by decide)] at e), fun e => h.h9 (by rwa [getD_set_ne false (by decide)] at e), fun e => h.h10 (by rwa [getD_set_ne false (by decide)] at e), fun e => h.h11 (by rwa [getD_set_ne false (by decide)] at e), fun e => h.h12 (by rwa [getD_set_ne false (by decide)] at e)⟩
theorem RB.p5 {W1 : World} {L : Array Bool} {u2 u3 u6 u7 u8 u9 u10 u11 u12 u13 u14 u15 u16 : Value} {w : World} (h : RB W1 L u2 u3 u6 u7 u8 u9 u10 u11 u12 u13 u14 u15 u16 w) {v : Value} (hf : F1 v w) : RB W1 (L.setIfInBounds 5 true) u2 u3 u6 u7 u8 u9 u10 u11 v u13 u14 u15 u16 w :=
  ⟨h.b, fun e => h.h0 (by rwa [getD_set_ne false (by decide)] at e), fun e => h.h1 (by rwa [getD_set_ne false (by decide)] at e), fun e => h.h2 (by rwa [getD_set_ne false (by decide)] at e), fun e => h.h3 (by rwa [getD_set_ne false (by decide)] at e), fun e => h.h4 (by rwa [getD_set_ne false (by decide)] at e), fun _ => hf, fun e => h.h6 (by rwa [getD_set_ne false (by decide)] at e), fun e => h.h7 (by rwa [getD_set_ne false (by decide)] at e), fun e => h.h8 (by rwa [getD_set_ne false (by decide)] at e), fun e => h.h9 (by rwa [getD_set_ne false (by decide)] at e), fun e => h.h10 (by rwa [getD_set_ne false (by decide)] at e), fun e => h.h11 (by rwa [getD_set_ne false (by decide)] at e), fun e => h.h12 (by rwa [getD_set_ne false (by decide)] at e)⟩
theorem RB.p6 {W1 : World} {L : Array Bool} {u2 u3 u6 u7 u8 u9 u10 u11 u12 u13 u14 u15 u16 : Value} {w : World} (h : RB W1 L u2 u3 u6 u7 u8 u9 u10 u11 u12 u13 u14 u15 u16 w) {v : Value} (hf : v = (.agg #[.int .i64 0, .int .i64 0, .int .i64 2, .int .i64 1, .string ⟨#[]⟩, .int .i64 0, .slice none 0 0])) : RB W1 (L.setIfInBounds 6 true) u2 u3 u6 u7 u8 u9 u10 u11 u12 v u14 u15 u16 w :=
  ⟨h.b, fun e => h.h0 (by rwa [getD_set_ne false (by decide)] at e), fun e => h.h1 (by rwa [getD_set_ne false (by decide)] at e), fun e => h.h2 (by rwa [getD_set_ne false (by decide)] at e), fun e => h.h3 (by rwa [getD_set_ne false (by decide)] at e), fun e => h.h4 (by rwa [getD_set_ne false (by decide)] at e), fun e => h.h5 (by rwa [getD_set_ne false (by decide)] at e), fun _ => hf, fun e => h.h7 (by rwa [getD_set_ne false (by decide)] at e), fun e => h.h8 (by rwa [getD_set_ne false (by decide)] at e), fun e => h.h9 (by rwa [getD_set_ne false (by decide)] at e), fun e => h.h10 (by rwa [getD_set_ne false (by decide)] at e), fun e => h.h11 (by rwa [getD_set_ne false (by decide)] at e), fun e => h.h12 (by rwa [getD_set_ne false (by decide)] at e)⟩
theorem RB.p7 {W1 : World} {L : Array Bool} {u2 u3 u6 u7 u8 u9 u10 u11 u12 u13 u14 u15 u16 : Value} {w : World} (h : RB W1 L u2 u3 u6 u7 u8 u9 u10 u11 u12 u13 u14 u15 u16 w) {v : Value} (hf : F4 v) : RB W1 (L.setIfInBounds 7 true) u2 u3 u6 u7 u8 u9 u10 u11 u12 u13 v u15 u16 w :=
  ⟨h.b, fun e => h.h0 (by rwa [getD_set_ne false (by decide)] at e), fun e => h.h1 (by rwa [getD_set_ne false (by decide)] at e), fun e => h.h2 (by rwa [getD_set_ne false (by decide)] at e), fun e => h.h3 (by rwa [getD_set_ne false (by decide)] at e), fun e => h.h4 (by rwa [getD_set_ne false (by decide)] at e), fun e => h.h5 (by rwa [getD_set_ne false (by decide)] at e), fun e => h.h6 (by rwa [getD_set_ne false (by decide)] at e), fun _ => hf, fun e => h.h8 (by rwa [getD_set_ne false (by decide)] at e), fun e => h.h9 (by rwa [getD_set_ne false (by decide)] at e), fun e => h.h10 (by rwa [getD_set_ne false (by decide)] at e), fun e => h.h11 (by rwa [getD_set_ne false (by decide)] at e), fun e => h.h12 (by rwa [getD_set_ne false (by decide)] at e)⟩
theorem RB.p8 {W1 : World} {L : Array Bool} {u2 u3 u6 u7 u8 u9 u10 u11 u12 u13 u14 u15 u16 : Value} {w : World} (h : RB W1 L u2 u3 u6 u7 u8 u9 u10 u11 u12 u13 u14 u15 u16 w) {v : Value} (hf : F4 v) : RB W1 (L.setIfInBounds 8 true) u2 u3 v u7 u8 u9 u10 u11 u12 u13 u14 u15 u16 w :=
  ⟨h.b, fun e => h.h0 (by rwa [getD_set_ne false (by decide)] at e), fun e => h.h1 (by rwa [getD_set_ne false (by decide)] at e), fun e => h.h2 (by rwa [getD_set_ne false (by decide)] at e), fun e => h.h3 (by rwa [getD_set_ne false (by decide)] at e), fun e => h.h4 (by rwa [getD_set_ne false (by decide)] at e), fun e => h.h5 (by rwa [getD_set_ne false (by decide)] at e), fun e => h.h6 (by rwa [getD_set_ne false (by decide)] at e), fun e => h.h7 (by rwa [getD_set_ne false (by decide)] at e), fun _ => hf, fun e => h.h9 (by rwa [getD_set_ne false (by decide)] at e), fun e => h.h10 (by rwa [getD_set_ne false (by decide)] at e), fun e => h.h11 (by rwa [getD_set_ne false (by decide)] at e), fun e => h.h12 (by rwa [getD_set_ne false (by decide)] at e)⟩
theorem RB.p9 {W1 : World} {L : Array Bool} {u2 u3 u6 u7 u8 u9 u10 u11 u12 u13 u14 u15 u16 : Value} {w : World} (h : RB W1 L u2 u3 u6 u7 u8 u9 u10 u11 u12 u13 u14 u15 u16 w) {v : Value} (hf : FS v) : RB W1 (L.setIfInBounds 9 true) u2 u3 u6 u7 u8 u9 u10 u11 u12 u13 u14 v u16 w :=
  ⟨h.b, fun e => h.h0 (by rwa [getD_set_ne false (by decide)] at e), fun e => h.h1 (by rwa [getD_set_ne false (by decide)] at e), fun e => h.h2 (by rwa [getD_set_ne false (by decide)] at e), fun e => h.h3 (by rwa [getD_set_ne false (by decide)] at e), fun e => h.h4 (by rwa [getD_set_ne false (by decide)] at e), fun e => h.h5 (by rwa [getD_set_ne false (by decide)] at e), fun e => h.h6 (by rwa [getD_set_ne false (by decide)] at e), fun e => h.h7 (by rwa [getD_set_ne false (by decide)] at e), fun e => h.h8 (by rwa [getD_set_ne false (by decide)] at e), fun _ => hf, fun e => h.h10 (by rwa [getD_set_ne false (by decide)] at e), fun e => h.h11 (by rwa [getD_set_ne false (by decide)] at e), fun e => h.h12 (by rwa [getD_set_ne false (by decide)] at e)⟩
theorem RB.p10 {W1 : World} {L : Array Bool} {u2 u3 u6 u7 u8 u9 u10 u11 u12 u13 u14 u15 u16 : Value} {w : World} (h : RB W1 L u2 u3 u6 u7 u8 u9 u10 u11 u12 u13 u14 u15 u16 w) {v : Value} (hf : v = .int .i64 0) : RB W1 (L.setIfInBounds 10 true) u2 u3 u6 u7 u8 u9 u10 u11 u12 u13 u14 u15 v w :=
  ⟨h.b, fun e => h.h0 (by rwa [getD_set_ne false (by decide)] at e), fun e => h.h1 (by rwa [getD_set_ne false (by decide)] at e), fun e => h.h2 (by rwa [getD_set_ne false (by decide)] at e), fun e => h.h3 (by rwa [getD_set_ne false (by decide)] at e), fun e => h.h4 (by rwa [getD_set_ne false (by decide)] at e), fun e => h.h5 (by rwa [getD_set_ne false (by decide)] at e), fun e => h.h6 (by rwa [getD_set_ne false (by decide)] at e), fun e => h.h7 (by rwa [getD_set_ne false (by decide)] at e), fun e => h.h8 (by rwa [getD_set_ne false (by decide)] at e), fun e => h.h9 (by rwa [getD_set_ne false (by decide)] at e), fun _ => hf, fun e => h.h11 (by rwa [getD_set_ne false (by decide)] at e), fun e => h.h12 (by rwa [getD_set_ne false (by decide)] at e)⟩
theorem RB.p11 {W1 : World} {L : Array Bool} {u2 u3 u6 u7 u8 u9 u10 u11 u12 u13 u14 u15 u16 : Value} {w : World} (h : RB W1 L u2 u3 u6 u7 u8 u9 u10 u11 u12 u13 u14 u15 u16 w) {v : Value} (hf : FS v) : RB W1 (L.setIfInBounds 11 true) v u3 u6 u7 u8 u9 u10 u11 u12 u13 u14 u15 u16 w :=
  ⟨h.b, fun e => h.h0 (by rwa [getD_set_ne false (by decide)] at e), fun e => h.h1 (by rwa [getD_set_ne false (by decide)] at e), fun e => h.h2 (by rwa [getD_set_ne false (by decide)] at e), fun e => h.h3 (by rwa [getD_set_ne false (by decide)] at e), fun e => h.h4 (by rwa [getD_set_ne false (by decide)] at e), fun e => h.h5 (by rwa [getD_set_ne false (by decide)] at e), fun e => h.h6 (by rwa [getD_set_ne false (by decide)] at e), fun e => h.h7 (by rwa [getD_set_ne false (by decide)] at e), fun e => h.h8 (by rwa [getD_set_ne false (by decide)] at e), fun e => h.h9 (by rwa [getD_set_ne false (by decide)] at e), fun e => h.h10 (by rwa [getD_set_ne false (by decide)] at e), fun _ => hf, fun e => h.h12 (by rwa [getD_set_ne false (by decide)] at e)⟩
theorem RB.p12 {W1 : World} {L : Array Bool} {u2 u3 u6 u7 u8 u9 u10 u11 u12 u13 u14 u15 u16 : Value} {w : World} (h : RB W1 L u2 u3 u6 u7 u8 u9 u10 u11 u12 u13 u14 u15 u16 w) {v : Value} (hf : v = .int .i64 0) : RB W1 (L.setIfInBounds 12 true) u2 v u6 u7 u8 u9 u10 u11 u12 u13 u14 u15 u16 w :=
  ⟨h.b, fun e => h.h0 (by rwa [getD_set_ne false (by decide)] at e), fun e => h.h1 (by rwa [getD_set_ne false (by decide)] at e), fun e => h.h2 (by rwa [getD_set_ne false (by decide)] at e), fun e => h.h3 (by rwa [getD_set_ne false (by decide)] at e), fun e => h.h4 (by rwa [getD_set_ne false (by decide)] at e), fun e => h.h5 (by rwa [getD_set_ne false (by decide)] at e), fun e => h.h6 (by rwa [getD_set_ne false (by decide)] at e), fun e => h.h7 (by rwa [getD_set_ne false (by decide)] at e), fun e => h.h8 (by rwa [getD_set_ne false (by decide)] at e), fun e => h.h9 (by rwa [getD_set_ne false (by decide)] at e), fun e => h.h10 (by rwa [getD_set_ne false (by decide)] at e), fun e => h.h11 (by rwa [getD_set_ne false (by decide)] at e), fun _ => hf⟩
def RA (W1 : World) (g : Nat) (L : Array Bool) (a : Act) (w : World) : Prop := ∃ u2 u3 u6 u7 u8 u9 u10 u11 u12 u13 u14 u15 u16, a = { tmps := #[.bool false, .pointer (some ⟨g, 0, none⟩), u2, u3, (.agg #[.int .i64 2, .int .i64 1, .string ⟨#[]⟩]), (.agg #[.int .i64 0, .int .i64 0, .int .i64 2, .int .i64 1, .string ⟨#[]⟩, .int .i64 0, .slice none 0 0]), u6, u7, u8, u9, u10, u11, u12, u13, u14, u15, u16, undef, undef, undef, undef, undef, undef, undef, undef, undef, undef, undef, undef, undef, undef, undef, undef], defers := [] } ∧ RB W1 L u2 u3 u6 u7 u8 u9 u10 u11 u12 u13 u14 u15 u16 w
theorem wpOp_at2 {P : Program} {ops : Array Oper} {Q : Exit → Act → World → Prop} {i : Nat} {o : Oper} {K : Act → World → Prop} {a : Act} {w : World} (ho : ops[i]? = some o) (hw : Region.wanted o (yielded ops a.tmps) = true) (h : ∀ K' : Act → World → Prop, Aside0 (∀ a w, K a w → K' a w) → o.wp P a w K' Q) : wpOp P ops Q i K a w := wpOp_at ho hw (h K ⟨fun _ _ h => h⟩)
theorem rows4 {rows : List R33} {x y z t : Int} (hl : rows.length = 4) (hv : ∀ k : Int, 0 ≤ k → k < 4 → (rdR rows k).vals = [⟨0, rd [x, y, z, t] k, ⟨#[]⟩⟩]) : ∃ a b c d : Sl, rows = [⟨[⟨0, x, ⟨#[]⟩⟩], a⟩, ⟨[⟨0, y, ⟨#[]⟩⟩], b⟩, ⟨[⟨0, z, ⟨#[]⟩⟩], c⟩, ⟨[⟨0, t, ⟨#[]⟩⟩], d⟩] := by
  match rows, hl with
  | [⟨v0, a⟩, ⟨v1, b⟩, ⟨v2, c⟩, ⟨v3, d⟩], _ =>
    have h0 : v0 = [⟨0, x, ⟨#[]⟩⟩] := hv 0 (by decide) (by decide)
    have h1 : v1 = [⟨0, y, ⟨#[]⟩⟩] := hv 1 (by decide) (by decide)
    have h2 : v2 = [⟨0, z, ⟨#[]⟩⟩] := hv 2 (by decide) (by decide)
    have h3 : v3 = [⟨0, t, ⟨#[]⟩⟩] := hv 3 (by decide) (by decide)
    exact ⟨a, b, c, d, by rw [h0, h1, h2, h3]⟩
def r4 (a b c d : Sl) : List R33 := [⟨[⟨0, 1, ⟨#[]⟩⟩], a⟩, ⟨[⟨0, 2, ⟨#[]⟩⟩], b⟩, ⟨[⟨0, 2, ⟨#[]⟩⟩], c⟩, ⟨[⟨0, 5, ⟨#[]⟩⟩], d⟩]
theorem rows4_calls (A : Option Addr) (c : Nat) (w : World) (hA : Kd.C (Kd.int .i64) w A 4 [1, 2, 2, 5]) : Calls Tryz.prog 18 #[.slice A 4 c] w fun e w' => ∃ A' c' x y z t, e = .returned (.slice A' 4 c') ∧ Kd.C kR w' A' 4 (r4 x y z t) ∧ Below w.heap.size w w' :=
  (rows_calls [1, 2, 2, 5] (by decide) A c w hA).mono fun e w' ⟨A', c', rows, h1, h2, h3, h4, h5, h6, h7⟩ => by
    obtain ⟨x, y, z, t, rfl⟩ := rows4 h3 h5
    exact ⟨A', c', x, y, z, t, h1, h4, h7⟩
theorem adv4_calls (x y z t : Sl) (A B D : Option Addr) (c d e : Nat) (w : World) (hA : Kd.C kR w A 4 (r4 x y z t)) (hB : Kd.C (Kd.int .i64) w B 1 [0]) (hD : Kd.C k42 w D 1 [v3]) :
    Calls Tryz.prog 10 #[.slice A 4 c, .slice B 1 d, .int .i64 1, .slice D 1 e] w fun e w' => e = .returned (.int .i64 3) ∧ Below w.heap.size w w' := by
  have h := Advance_calls (r4 x y z t) [0] [v3] A B D c d e 1 w (by decide) (by simp [r4]) (by decide) (show keyedB (r4 x y z t) [0] = true by rfl) hA hB hD
  have h2 : adv (r4 x y z t) [0] [v3] ((r4 x y z t).length - (1 : Int)).toNat 1 = 3 := by rfl
  rw [h2] at h
  exact h
theorem ints_new2 (W : World) (xs : List Int) (hm : xs.length ≤ 9223372036854775807) : Kd.C (Kd.int .i64) (W.alloc (.cells (xs.map (Value.int .i64)).toArray 2)) (some ⟨W.heap.size, 0, none⟩) xs.length xs :=
  Kd.F_now (Kd.N_F (N_lit_at (Kd.int .i64) W.heap.size 2 (xs := xs) (inner := xs.map (Value.int .i64)) (ok := fun _ => True) (okp := fun _ => True) ⟨by simp [Kd.int, Kd.scalar], fun j p hj => by
    have hlt : j < xs.length := (List.getElem?_eq_some_iff.1 hj).1
    have hv := (List.getElem?_eq_some_iff.1 hj).2
    have : ((xs.map (Value.int .i64)).drop (j * 1)).take 1 = [Value.int .i64 p] := by
      rw [Nat.mul_one, ← List.map_drop, List.drop_eq_getElem_cons hlt, hv]
      rfl
    exact fun _ _ => this⟩ (fun _ h => h) trivial (Nat.le_refl _) hm))
theorem one_new (W : World) (x : Int) : Kd.C (Kd.int .i64) (W.alloc (.cells #[.int .i64 x] 3)) (some ⟨W.heap.size, 0, none⟩) 1 [x] := ints_new W [x] (by simp)
theorem four_new (W : World) (x y z t : Int) : Kd.C (Kd.int .i64) (W.alloc (.cells #[.int .i64 x, .int .i64 y, .int .i64 z, .int .i64 t] 2)) (some ⟨W.heap.size, 0, none⟩) 4 [x, y, z, t] := ints_new2 W [x, y, z, t] (by simp)
set_option maxRecDepth 100000 in
set_option maxHeartbeats 4000000 in
theorem awake_calls (w : World) : Calls Tryz.prog 6 #[] w fun e w' => e = .returned (.bool true) ∧ Below w.heap.size w w' := by
  have HX := Aside0.mk (blk_new w (.cells (#[.int .i64 0, .int .i64 0, .int .i64 2, .int .i64 1, .string ⟨#[]⟩, .int .i64 0, .slice none 0 0]) 45))
  have HW := Aside0.mk (below_alloc (Below.refl w.heap.size w) (.cells (#[.int .i64 0, .int .i64 0, .int .i64 2, .int .i64 1, .string ⟨#[]⟩, .int .i64 0, .slice none 0 0]) 45))
  go_enter Tryz.func6, Tryz.ntmps6
  go_upto_region 2 with (fail)
  obtain ⟨g, hg⟩ : ∃ g, w.heap.size = g := ⟨_, rfl⟩
  obtain ⟨W1, hW1⟩ : ∃ W2 : World, w.alloc (.cells (#[.int .i64 0, .int .i64 0, .int .i64 2, .int .i64 1, .string ⟨#[]⟩, .int .i64 0, .slice none 0 0]) 45) = W2 := ⟨_, rfl⟩
  rw [hW1] at HX HW ⊢
  rw [hg] at HX ⊢
  clear hW1 hg
  refine wp_region_free (RA W1 g) (by kernel_rfl) ?start ?step ?fin
  case start =>
    refine ⟨undef, undef, undef, undef, undef, undef, undef, undef, undef, undef, undef, undef, undef, rfl, below_drew (Below.refl _ _), fun e => by simp at e, fun e => by simp at e, fun e => by simp at e, fun e => by simp at e, fun e => by simp at e, fun e => by simp at e, fun e => by simp at e, fun e => by simp at e, fun e => by simp at e, fun e => by simp at e, fun e => by simp at e, fun e => by simp at e, fun e => by simp at e⟩
  case step =>
    rintro L a w i hs ⟨u2, u3, u6, u7, u8, u9, u10, u11, u12, u13, u14, u15, u16, rfl, hR⟩ hi
    obtain ⟨hl, o, ho, hall⟩ := mem_ready.1 hi
    have hi13 : i < 13 := (Array.getElem?_eq_some_iff.1 ho).1
    have hc : i = 0 ∨ i = 1 ∨ i = 2 ∨ i = 3 ∨ i = 4 ∨ i = 5 ∨ i = 6 ∨ i = 7 ∨ i = 8 ∨ i = 9 ∨ i = 10 ∨ i = 11 ∨ i = 12 := by omega
    clear hs hi hl hi13
    have HR := Aside0.mk hR
    clear hR
    rcases hc with rfl | rfl | rfl | rfl | rfl | rfl | rfl | rfl | rfl | rfl | rfl | rfl | rfl

    · simp only [List.getElem?_toArray, List.getElem?_cons_zero, List.getElem?_cons_succ, Option.some.injEq] at ho
      subst ho
      refine wpOp_at2 (by (simp only [List.getElem?_toArray, List.getElem?_cons_zero, List.getElem?_cons_succ]); rfl) (by rfl) (fun K HK => ?_)
      clear hall
      go_simp
      exact HK.out _ _ ⟨_, _, _, _, _, _, _, _, _, _, _, _, _, rfl, (HR.out.later (below_alloc (Below.refl _ _) _)).p0 ⟨_, 3, rfl, ints_new2 w [1, 2, 2] (by simp)⟩⟩
    · simp only [List.getElem?_toArray, List.getElem?_cons_zero, List.getElem?_cons_succ, Option.some.injEq] at ho
      subst ho
      have d0 := hall _ (Array.mem_of_getElem? (i := 0) rfl) (by rfl)
      obtain ⟨A, c, rfl, hA⟩ := HR.out.h0 d0
      have HA := Aside0.mk hA
      clear hA d0
      refine wpOp_at2 (by (simp only [List.getElem?_toArray, List.getElem?_cons_zero, List.getElem?_cons_succ]); rfl) (by rfl) (fun K HK => ?_)
      clear hall
      go_simp
      go_at_call 18
      refine (rowsL A c _ HA.out).mono ?_
      rintro e w' ⟨v, rfl, hf, hb⟩
      exact HK.out _ _ ⟨_, _, _, _, _, _, _, _, _, _, _, _, _, rfl, (HR.out.later hb).p1 hf⟩
    · simp only [List.getElem?_toArray, List.getElem?_cons_zero, List.getElem?_cons_succ, Option.some.injEq] at ho
      subst ho
      refine wpOp_at2 (by (simp only [List.getElem?_toArray, List.getElem?_cons_zero, List.getElem?_cons_succ]); rfl) (by rfl) (fun K HK => ?_)
      clear hall
      go_simp
      exact HK.out _ _ ⟨_, _, _, _, _, _, _, _, _, _, _, _, _, rfl, (HR.out.later (below_alloc (Below.refl _ _) _)).p2 ⟨_, 3, rfl, ints_new2 w [2, 2, 3] (by simp)⟩⟩
    · simp only [List.getElem?_toArray, List.getElem?_cons_zero, List.getElem?_cons_succ, Option.some.injEq] at ho
      subst ho
      have d0 := hall _ (Array.mem_of_getElem? (i := 0) rfl) (by rfl)
      obtain ⟨A, c, rfl, hA⟩ := HR.out.h2 d0
      have HA := Aside0.mk hA
      clear hA d0
      refine wpOp_at2 (by (simp only [List.getElem?_toArray, List.getElem?_cons_zero, List.getElem?_cons_succ]); rfl) (by rfl) (fun K HK => ?_)
      clear hall
      go_simp
      go_at_call 18
      refine (rowsR A c _ HA.out).mono ?_
      rintro e w' ⟨v, rfl, hf, hb⟩
      exact HK.out _ _ ⟨_, _, _, _, _, _, _, _, _, _, _, _, _, rfl, (HR.out.later hb).p3 hf⟩
    · simp only [List.getElem?_toArray, List.getElem?_cons_zero, List.getElem?_cons_succ, Option.some.injEq] at ho
      subst ho
      refine wpOp_at2 (by (simp only [List.getElem?_toArray, List.getElem?_cons_zero, List.getElem?_cons_succ]); rfl) (by rfl) (fun K HK => ?_)
      clear hall
      go_simp
      exact HK.out _ _ ⟨_, _, _, _, _, _, _, _, _, _, _, _, _, rfl, (HR.out.later (below_alloc (Below.refl _ _) _)).p4 ⟨_, 1, rfl, one_new w 0⟩⟩
    · simp only [List.getElem?_toArray, List.getElem?_cons_zero, List.getElem?_cons_succ, Option.some.injEq] at ho
      subst ho
      refine wpOp_at2 (by (simp only [List.getElem?_toArray, List.getElem?_cons_zero, List.getElem?_cons_succ]); rfl) (by rfl) (fun K HK => ?_)
      clear hall
      go_simp
      exact HK.out _ _ ⟨_, _, _, _, _, _, _, _, _, _, _, _, _, rfl, (HR.out.later (below_alloc (Below.refl _ _) _)).p5 ⟨_, 1, rfl, one_new w 0⟩⟩
    · simp only [List.getElem?_toArray, List.getElem?_cons_zero, List.getElem?_cons_succ, Option.some.injEq] at ho
      subst ho
      obtain ⟨c0, c1, c2, c3, c4, c5, c6⟩ := box7 (blk_below HX.out HR.out.b)
      refine wpOp_at2 (by (simp only [List.getElem?_toArray, List.getElem?_cons_zero, List.getElem?_cons_succ]); rfl) (by rfl) (fun K HK => ?_)
      clear hall
      go_simp
      exact HK.out _ _ ⟨_, _, _, _, _, _, _, _, _, _, _, _, _, rfl, HR.out.p6 rfl⟩
    · simp only [List.getElem?_toArray, List.getElem?_cons_zero, List.getElem?_cons_succ, Option.some.injEq] at ho
      subst ho
      have d0 := hall _ (Array.mem_of_getElem? (i := 0) rfl) (by rfl)
      have d1 := hall _ (Array.mem_of_getElem? (i := 1) rfl) (by rfl)
      have d2 := hall _ (Array.mem_of_getElem? (i := 2) rfl) (by rfl)
      have d3 := hall _ (Array.mem_of_getElem? (i := 3) rfl) (by rfl)
      have d4 := hall _ (Array.mem_of_getElem? (i := 4) rfl) (by rfl)
      obtain ⟨ad, c, a0, a1, a2, rfl, hA, hA2⟩ := HR.out.h1 d0
      obtain ⟨bd, d, b0, b1, b2, rfl, hB, hB2⟩ := HR.out.h3 d1
      obtain ⟨KA, e, rfl, hKA⟩ := HR.out.h4 d2
      obtain ⟨KB, f, rfl, hKB⟩ := HR.out.h5 d3
      obtain rfl := HR.out.h6 d4
      have HJ := Aside0.mk (show JArgs w (lsR a0 a1 a2) (rsR b0 b1 b2) (some ad) (some bd) KA KB from ⟨hA, hB, hKA, hKB, hA2, hB2⟩)
      clear hA hA2 hB hB2 hKA hKB d0 d1 d2 d3 d4
      refine wpOp_at2 (by (simp only [List.getElem?_toArray, List.getElem?_cons_zero, List.getElem?_cons_succ]); rfl) (by rfl) (fun K HK => ?_)
      clear hall
      go_simp
      go_at_call 17
      refine (Join_calls a0 a1 a2 b0 b1 b2 ad bd KA KB c d e f _ HJ.out).mono ?_
      rintro e' w' ⟨A, c', rfl, hb⟩
      exact HK.out _ _ ⟨_, _, _, _, _, _, _, _, _, _, _, _, _, rfl, (HR.out.later hb).p7 ⟨A, c', rfl⟩⟩
    · simp only [List.getElem?_toArray, List.getElem?_cons_zero, List.getElem?_cons_succ, Option.some.injEq] at ho
      subst ho
      have d0 := hall _ (Array.mem_of_getElem? (i := 0) rfl) (by rfl)
      obtain ⟨A, c, rfl⟩ := HR.out.h7 d0
      clear d0
      refine wpOp_at2 (by (simp only [List.getElem?_toArray, List.getElem?_cons_zero, List.getElem?_cons_succ]); rfl) (by rfl) (fun K HK => ?_)
      clear hall
      go_simp
      exact HK.out _ _ ⟨_, _, _, _, _, _, _, _, _, _, _, _, _, rfl, HR.out.p8 ⟨A, c, rfl⟩⟩
    · simp only [List.getElem?_toArray, List.getElem?_cons_zero, List.getElem?_cons_succ, Option.some.injEq] at ho
      subst ho
      have d0 := hall _ (Array.mem_of_getElem? (i := 0) rfl) (by rfl)
      obtain ⟨A, c, rfl⟩ := HR.out.h8 d0
      clear d0
      refine wpOp_at2 (by (simp only [List.getElem?_toArray, List.getElem?_cons_zero, List.getElem?_cons_succ]); rfl) (by rfl) (fun K HK => ?_)
      clear hall
      go_simp
      exact HK.out _ _ ⟨_, _, _, _, _, _, _, _, _, _, _, _, _, rfl, HR.out.p9 ⟨A, c, rfl⟩⟩
    · simp only [List.getElem?_toArray, List.getElem?_cons_zero, List.getElem?_cons_succ, Option.some.injEq] at ho
      subst ho
      have d0 := hall _ (Array.mem_of_getElem? (i := 0) rfl) (by rfl)
      obtain ⟨A, c, rfl⟩ := HR.out.h8 d0
      clear d0
      refine wpOp_at2 (by (simp only [List.getElem?_toArray, List.getElem?_cons_zero, List.getElem?_cons_succ]); rfl) (by rfl) (fun K HK => ?_)
      clear hall
      go_simp
      exact HK.out _ _ ⟨_, _, _, _, _, _, _, _, _, _, _, _, _, rfl, HR.out.p10 rfl⟩
    · simp only [List.getElem?_toArray, List.getElem?_cons_zero, List.getElem?_cons_succ, Option.some.injEq] at ho
      subst ho
      have d0 := hall _ (Array.mem_of_getElem? (i := 0) rfl) (by rfl)
      obtain ⟨A, c, rfl⟩ := HR.out.h9 d0
      clear d0
      refine wpOp_at2 (by (simp only [List.getElem?_toArray, List.getElem?_cons_zero, List.getElem?_cons_succ]); rfl) (by rfl) (fun K HK => ?_)
      clear hall
      go_simp
      exact HK.out _ _ ⟨_, _, _, _, _, _, _, _, _, _, _, _, _, rfl, HR.out.p11 ⟨A, c, rfl⟩⟩
    · simp only [List.getElem?_toArray, List.getElem?_cons_zero, List.getElem?_cons_succ, Option.some.injEq] at ho
      subst ho
      have d0 := hall _ (Array.mem_of_getElem? (i := 0) rfl) (by rfl)
      obtain rfl := HR.out.h10 d0
      clear d0
      refine wpOp_at2 (by (simp only [List.getElem?_toArray, List.getElem?_cons_zero, List.getElem?_cons_succ]); rfl) (by rfl) (fun K HK => ?_)
      clear hall
      go_simp
      exact HK.out _ _ ⟨_, _, _, _, _, _, _, _, _, _, _, _, _, rfl, HR.out.p12 rfl⟩
  case fin =>
    rintro L a w2 hs ⟨u2, u3, u6, u7, u8, u9, u10, u11, u12, u13, u14, u15, u16, rfl, hR⟩ hr
    have e0 := ready_of (k := 0) hr hs (by (simp only [List.getElem?_toArray, List.getElem?_cons_zero, List.getElem?_cons_succ]); rfl) (by intro e he hb; simp at he)
    have e1 := ready_of (k := 1) hr hs (by (simp only [List.getElem?_toArray, List.getElem?_cons_zero, List.getElem?_cons_succ]); rfl) (by intro e he hb; simp at he; (try (repeat' (rcases he with he | he))) <;> (try subst he) <;> first | exact e0 | (exact absurd hb (by decide)))
    have e2 := ready_of (k := 2) hr hs (by (simp only [List.getElem?_toArray, List.getElem?_cons_zero, List.getElem?_cons_succ]); rfl) (by intro e he hb; simp at he)
    have e3 := ready_of (k := 3) hr hs (by (simp only [List.getElem?_toArray, List.getElem?_cons_zero, List.getElem?_cons_succ]); rfl) (by intro e he hb; simp at he; (try (repeat' (rcases he with he | he))) <;> (try subst he) <;> first | exact e0 | exact e1 | exact e2 | (exact absurd hb (by decide)))
    have e4 := ready_of (k := 4) hr hs (by (simp only [List.getElem?_toArray, List.getElem?_cons_zero, List.getElem?_cons_succ]); rfl) (by intro e he hb; simp at he)
    have e5 := ready_of (k := 5) hr hs (by (simp only [List.getElem?_toArray, List.getElem?_cons_zero, List.getElem?_cons_succ]); rfl) (by intro e he hb; simp at he)
    have e6 := ready_of (k := 6) hr hs (by (simp only [List.getElem?_toArray, List.getElem?_cons_zero, List.getElem?_cons_succ]); rfl) (by intro e he hb; simp at he)
    have e7 := ready_of (k := 7) hr hs (by (simp only [List.getElem?_toArray, List.getElem?_cons_zero, List.getElem?_cons_succ]); rfl) (by intro e he hb; simp at he; (try (repeat' (rcases he with he | he))) <;> (try subst he) <;> first | exact e0 | exact e1 | exact e2 | exact e3 | exact e4 | exact e5 | exact e6 | (exact absurd hb (by decide)))
    have e8 := ready_of (k := 8) hr hs (by (simp only [List.getElem?_toArray, List.getElem?_cons_zero, List.getElem?_cons_succ]); rfl) (by intro e he hb; simp at he; (try (repeat' (rcases he with he | he))) <;> (try subst he) <;> first | exact e0 | exact e1 | exact e2 | exact e3 | exact e4 | exact e5 | exact e6 | exact e7 | (exact absurd hb (by decide)))
    have e9 := ready_of (k := 9) hr hs (by (simp only [List.getElem?_toArray, List.getElem?_cons_zero, List.getElem?_cons_succ]); rfl) (by intro e he hb; simp at he; (try (repeat' (rcases he with he | he))) <;> (try subst he) <;> first | exact e0 | exact e1 | exact e2 | exact e3 | exact e4 | exact e5 | exact e6 | exact e7 | exact e8 | (exact absurd hb (by decide)))
    have e10 := ready_of (k := 10) hr hs (by (simp only [List.getElem?_toArray, List.getElem?_cons_zero, List.getElem?_cons_succ]); rfl) (by intro e he hb; simp at he; (try (repeat' (rcases he with he | he))) <;> (try subst he) <;> first | exact e0 | exact e1 | exact e2 | exact e3 | exact e4 | exact e5 | exact e6 | exact e7 | exact e8 | exact e9 | (exact absurd hb (by decide)))
    have e11 := ready_of (k := 11) hr hs (by (simp only [List.getElem?_toArray, List.getElem?_cons_zero, List.getElem?_cons_succ]); rfl) (by intro e he hb; simp at he; (try (repeat' (rcases he with he | he))) <;> (try subst he) <;> first | exact e0 | exact e1 | exact e2 | exact e3 | exact e4 | exact e5 | exact e6 | exact e7 | exact e8 | exact e9 | exact e10 | (exact absurd hb (by decide)))
    have e12 := ready_of (k := 12) hr hs (by (simp only [List.getElem?_toArray, List.getElem?_cons_zero, List.getElem?_cons_succ]); rfl) (by intro e he hb; simp at he; (try (repeat' (rcases he with he | he))) <;> (try subst he) <;> first | exact e0 | exact e1 | exact e2 | exact e3 | exact e4 | exact e5 | exact e6 | exact e7 | exact e8 | exact e9 | exact e10 | exact e11 | (exact absurd hb (by decide)))
    obtain ⟨A2, c2, rfl⟩ := hR.h11 e11
    obtain rfl := hR.h12 e12
    have HB := Aside0.mk (below_then HW.out HW.out.size hR.b)
    clear hR hr hs e0 e1 e2 e3 e4 e5 e6 e7 e8 e9 e10 e11 e12
    go_wp2_with (first | (go_at_call 18; (with_reducible refine (rows4_calls _ _ _ (four_new w2 1 2 2 5)).mono ?_); rintro e w3 ⟨A3, c3, x, y, z, t, rfl, h3, hb3⟩; have HB3 := Aside0.mk (below_then HB.out HB.out.size (below_then (below_alloc (Below.refl _ _) _) (by rw [World.size_alloc]; omega) hb3)); have HA3 := Aside0.mk (Kd.C_below h3 (below_alloc (below_alloc (Below.refl w3.heap.size w3) (.cells #[.int .i64 0] 3)) (.cells #[.int .i64 0, .int .i64 3, .string ⟨#[]⟩] 42))); have HK3 := Aside0.mk (Kd.C_below (one_new w3 0) (below_alloc (Below.refl _ _) (.cells #[.int .i64 0, .int .i64 3, .string ⟨#[]⟩] 42))); have HD3 := Aside0.mk (C_one (d := k42) (x := v3) (blk_new1 w3 (.cells #[.int .i64 0] 3) (.cells #[.int .i64 0, .int .i64 3, .string ⟨#[]⟩] 42)) (k42_mk _ v3)); clear h3 hb3) | (go_at_call 10; (with_reducible refine (adv4_calls x y z t A3 _ _ c3 _ _ _ HA3.out HK3.out HD3.out).mono ?_); rintro e w4 ⟨rfl, hb4⟩) | fail)
    go_ret
    exact ⟨rfl, below_then HB3.out HB3.out.size (below_then (below_alloc (below_alloc (Below.refl _ _) _) _) (by rw [World.size_alloc, World.size_alloc]; omega) hb4)⟩
end Go.Proofs.YtcpngmclhicciaaGreatDoor
