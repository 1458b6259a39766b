import Derived.Test.YtkjbbbjebidniaaGreatDoorZSort
import Derived.Test.YtkjbbbjebidniaaGreatDoorZXG
import Derived.StillTailTactics
import Derived.Test.YtkjbbbjebidniaaGreatDoorShelf
namespace Go.Proofs.YtkjbbbjebidniaaGreatDoor
open Go Go.RowKit Go.Shelf Go.Lib
set_option maxRecDepth 100000
theorem or_zero (b : Int) (blk c : Nat) (W : World) (hb : W.heap[blk]? = some (.cells #[.int .i64 0, .int .i64 b] 3)) : Calls Tryz.prog 99 #[.slice (some ⟨blk, 0, none⟩) 2 c] W fun e w' => e = .returned (.int .i64 b) ∧ w' = W := by
  have h0 : W.cell? { block := blk, off := 0 } = some (.int .i64 0) := by simp [World.cell?, hb]
  have h1 : W.cell? { block := blk, off := 1 } = some (.int .i64 b) := by simp [World.cell?, hb]
  clear hb
  by_cases hz : b = 0
  · subst hz
    go_enter Tryz.func99, Tryz.ntmps99
    go_wp2
    refine wp_rounds (show rounds _ _ _ 3 _ _ from ?_)
    unfold rounds
    go_wp2
    unfold rounds
    go_wp2
    unfold rounds
    go_wp2
    go_ret
    exact ⟨rfl, rfl⟩
  · have hz' : (b != 0) = true := by simp [hz]
    go_enter Tryz.func99, Tryz.ntmps99
    go_wp2
    refine wp_rounds (show rounds _ _ _ 3 _ _ from ?_)
    unfold rounds
    go_wp2
    unfold rounds
    go_wp2
    go_ret
    exact ⟨rfl, rfl⟩
theorem or_some (a b : Int) (ha : a ≠ 0) (blk c : Nat) (W : World) (hb : W.heap[blk]? = some (.cells #[.int .i64 a, .int .i64 b] 3)) : Calls Tryz.prog 99 #[.slice (some ⟨blk, 0, none⟩) 2 c] W fun e w' => e = .returned (.int .i64 a) ∧ w' = W := by
  have h0 : W.cell? { block := blk, off := 0 } = some (.int .i64 a) := by simp [World.cell?, hb]
  clear hb
  have hz' : (a != 0) = true := by simp [ha]
  go_enter Tryz.func99, Tryz.ntmps99
  go_wp2
  refine wp_rounds (show rounds _ _ _ 3 _ _ from ?_)
  unfold rounds
  go_wp2
  go_ret
  exact ⟨rfl, rfl⟩
theorem or_calls (a b : Int) (blk c : Nat) (W : World) (hb : W.heap[blk]? = some (.cells #[.int .i64 a, .int .i64 b] 3)) : Calls Tryz.prog 99 #[.slice (some ⟨blk, 0, none⟩) 2 c] W fun e w' => e = .returned (.int .i64 (if a = 0 then b else a)) ∧ w' = W := by
  by_cases h : a = 0
  · subst h; rw [if_pos rfl]; exact or_zero b blk c W hb
  · rw [if_neg h]; exact or_some a b h blk c W hb
theorem al_fst (w : World) (o1 o2 : Obj) : ((w.alloc o1).alloc o2).heap[w.heap.size]? = some o1 := by
  show ((w.heap.push o1).push o2)[w.heap.size]? = some o1
  rw [Array.getElem?_push, if_neg (by simp), Array.getElem?_push, if_pos rfl]
theorem al_snd (w : World) (o1 o2 : Obj) : ((w.alloc o1).alloc o2).heap[w.heap.size + 1]? = some o2 := by
  show ((w.heap.push o1).push o2)[w.heap.size + 1]? = some o2
  rw [Array.getElem?_push, if_pos (by simp)]
theorem cell_heap {w : World} {b o : Nat} {c : Array Value} {el : TypeId} {v : Value} (h : w.heap[b]? = some (.cells c el)) (hc : c[o]? = some v) : w.cell? ⟨b, o, none⟩ = some v := by
  simp [World.cell?, h, hc]
theorem cmp_calls (x y : Int × Int) (W : World) : Calls Tryz.prog 55 #[.agg #[.int .i64 x.1, .int .i64 x.2], .agg #[.int .i64 y.1, .int .i64 y.2]] W fun e w' => e = .returned (.int .i64 (if Lib.compareInt x.1 y.1 = 0 then Lib.compareInt x.2 y.2 else Lib.compareInt x.1 y.1)) ∧ ∃ q os', w' = Sort.grow (W.drewN q) os' := by
  have hc1 := fun W => Tryz.cmp_Compare_int x.1 y.1 W
  have hc2 := fun W => Tryz.cmp_Compare_int x.2 y.2 W
  generalize Lib.compareInt x.1 y.1 = r1 at *
  generalize Lib.compareInt x.2 y.2 = r2 at *
  have hor0 := fun blk W h => or_calls r1 r2 blk 2 W h
  generalize (if r1 = 0 then r2 else r1) = r at *
  go_enter Tryz.func55, Tryz.ntmps55
  go_wp2
  obtain ⟨W1, hW1⟩ : ∃ W1 : World, (W.alloc (.cells #[.int .i64 x.1, .int .i64 x.2] 41)).alloc (.cells #[.int .i64 y.1, .int .i64 y.2] 41) = W1 := ⟨_, rfl⟩
  rw [hW1]
  have f0 : W1.drew.cell? { block := W.heap.size, off := 0 } = some (.int .i64 x.1) := cell_heap (w := W1.drew) (by rw [← hW1]; exact al_fst _ _ _) rfl
  have f1 : W1.drew.cell? { block := W.heap.size, off := 1 } = some (.int .i64 x.2) := cell_heap (w := W1.drew) (by rw [← hW1]; exact al_fst _ _ _) rfl
  have f2 : W1.drew.cell? { block := W.heap.size + 1, off := 0 } = some (.int .i64 y.1) := cell_heap (w := W1.drew) (by rw [← hW1]; exact al_snd _ _ _) rfl
  have f3 : W1.drew.cell? { block := W.heap.size + 1, off := 1 } = some (.int .i64 y.2) := cell_heap (w := W1.drew) (by rw [← hW1]; exact al_snd _ _ _) rfl
  refine wp_region_still_tail 10 (by kernel_rfl) (by kernel_rfl) ?_
  simp only [List.take_succ_cons, List.take_zero, List.drop_succ_cons, List.drop_zero]
  change wpStill _ _ W1.drew (fun a' => wpList _ _ _ _ a' W1.drew) _ _
  obtain ⟨W2, hW2⟩ : ∃ W2 : World, W1.drew = W2 := ⟨_, rfl⟩
  rw [hW2] at f0 f1 f2 f3 ⊢
  still_step
  still_step
  still_step
  still_step
  still_call (hc1 W2)
  still_step
  still_step
  still_step
  still_step
  still_call (hc2 W2)
  refine wpStill_nil ?_
  have hor := hor0 W2.heap.size
  clear hc1 hc2 f0 f1 f2 f3 hor0
  go_wp2_with (go_at_call 99; refine (hor _ (by show (W2.heap.push _)[W2.heap.size]? = _; rw [Array.getElem?_push, if_pos rfl])).mono ?_; rintro e w' ⟨rfl, rfl⟩)
  go_ret
  refine ⟨rfl, 1, #[.cells #[.int .i64 x.1, .int .i64 x.2] 41, .cells #[.int .i64 y.1, .int .i64 y.2] 41, .cells #[.int .i64 r1, .int .i64 r2] 3], ?_⟩
  rw [← hW2, ← hW1]
  show ({ heap := ((W.heap.push _).push _).push _, tape := W.tape, drawn := W.drawn + 1, os := W.os, output := W.output } : World) = { heap := W.heap ++ _, tape := W.tape, drawn := W.drawn + 1, os := W.os, output := W.output }
  congr 1
end Go.Proofs.YtkjbbbjebidniaaGreatDoor
