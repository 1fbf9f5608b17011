/- The walk of the law's example. -/
import Derived.Test.YtolbcmniklbnmaaGreatDoorSesI
import Derived.Test.YtolbcmniklbnmaaGreatDoorSesJ
namespace Go.Proofs.YtolbcmniklbnmaaGreatDoor
open Go Go.RowKit Go.Deep

theorem Ext.but {a x y : World} {b : Nat} (h : Ext a x) (hb : But b x y) (hl : a.heap.size ≤ b) : Ext a y := h.grown hb (fun k hk => by cases hk; exact hl)
/-- Two acts side by side. -/
theorem acts_two (a b : SAct) (s t : Sls) (w : World) (T : TypeId) (ha : a.In w s) (hb : b.In w t) : Acts (w.alloc (.cells (a.cells s ++ b.cells t) T)) (some ⟨w.heap.size, 0, none⟩) 2 2 [a, b] := by
  have sb : Sub w (w.alloc (.cells (a.cells s ++ b.cells t) T)) := ((Ext.refl w).alloc _).sub
  have l1 : (a.cells s).size = 15 := rfl
  refine ⟨rfl, Nat.le_refl _, by omega, fun k hk => ?_⟩
  match k, hk with
  | 0, _ => exact ⟨w.heap.size, 0, s, rfl, fun j v h => by
      rw [cell_new]
      have h : (a.cells s)[j]? = some v := h
      have hj : j < 15 := by rw [← l1]; exact (Array.getElem?_eq_some_iff.1 h).1
      rw [show 0 + 0 * 15 + j = j by omega, Array.getElem?_append_left (by omega)]
      exact h, ha.sub sb⟩
  | 1, _ => exact ⟨w.heap.size, 0, t, rfl, fun j v h => by
      rw [cell_new]
      have h : (b.cells t)[j]? = some v := h
      rw [show 0 + 1 * 15 + j = 15 + j by omega, Array.getElem?_append_right (by omega), l1, show 15 + j - 15 = j by omega]
      exact h, hb.sub sb⟩
  | k + 2, h => exact absurd h (by simp)

/-- The example's write. -/
def exW : Ev := ⟨1, 1, 2, [1, 0], 0, 0, 0, 0, 0, 0, 0, 0, 1⟩
def exE : Ev := ⟨0, 0, 0, [], 0, 0, 0, 0, 0, 0, 0, 0, 0⟩
def exA : SAct := ⟨false, [1, 0], exE⟩
def exB : SAct := ⟨false, [0, 5], exE⟩
theorem ex_read : readC [0, 0] [1, 0] = (0, [1, 0]) := by decide
theorem ex_wrote : wroteC [1, 0] exW = (0, [1, 1]) := by decide
theorem ex_lacks : missC [2, 0] [1, 1] = [(1, 1, 1)] := by decide
theorem ex_check : checkC 2 [exA, exB] = (1, 1) := by decide
theorem ex_ready : containsC [2, 0] [1, 1] = false ∧ containsC [1, 1] [1, 1] = true := by decide
theorem ex_choose : idxC (fun l => containsC l [1, 1]) [[2, 0], [2, 1]] = 1 := by decide
theorem ex_token : formatC [1, 1] = ⟨#[91, 49, 32, 49, 93]⟩ := by
  have e : formatC [1, 1] = str (text [1, 1]) := by simp [formatC, show validC [1, 1] = true by decide]
  rw [e]
  have d : Lib.itoa 1 = [49] := by
    unfold Lib.itoa
    rw [if_neg (by omega), Lib.decDigits_one (by decide)]; rfl
  simp [str, text, mid, d, Lib.join, List.intercalate]
theorem Ints.two (w : World) (x y : Int) (t : TypeId) : Ints (w.alloc (.cells #[.int .i64 x, .int .i64 y] t)) (some ⟨w.heap.size, 0, none⟩) 2 2 [x, y] := Ints.block (l := [x, y]) (by simp)
end Go.Proofs.YtolbcmniklbnmaaGreatDoor
