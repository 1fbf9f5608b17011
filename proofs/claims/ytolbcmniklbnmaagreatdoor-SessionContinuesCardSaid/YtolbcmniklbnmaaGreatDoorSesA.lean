/- The walks of session.write, New, Ready, Read, Acknowledge, Wrote, Lacks. -/
import Derived.Test.YtolbcmniklbnmaaGreatDoorClockD
import Derived.Test.YtolbcmniklbnmaaGreatDoorEventE
namespace Go.Proofs.YtolbcmniklbnmaaGreatDoor
open Go Go.RowKit Go.Deep

/-- session.write -/
def writeC (e : Ev) (r : Int) : Bool := formedC e && decide ((e.past.length : Int) = r)

set_option maxRecDepth 100000 in
theorem write_any (e : Ev) (A : Option Addr) (n c : Nat) (r : Int) (w : World) (hr : Ints w A n c e.past) :
    Calls Tryz.prog 19 #[.agg (e.cells A n c), .int .i64 r] w fun en w' => en = .returned (.bool (writeC e r)) ∧ Ext w w' := by
  obtain ⟨b0, b1, b2, b3, b4, b5, b6, b7, b8, b9, b10, b11, b12⟩ := box_cells e A n c w
  have C := Lib.hid (formed_any e A n c _ (hr.sub (show Sub w (w.alloc (.cells (e.cells A n c) 35)) from (by repeat (first | exact Sub.refl _ | with_reducible assumption | refine Sub.drewN ?_ _ | refine Sub.drew ?_ | refine Sub.alloc ?_ _ | (refine Sub.trans ?_ (by with_reducible assumption)))))))
  have HN := Lib.hid hr.1
  clear hr
  go_enter Tryz.func19, Tryz.ntmps19
  go_wp2_with fail
  refine (C.out).mono ?_
  rintro en w1 ⟨rfl, hx⟩
  have b3 := hx.cell b3
  have hx1 : Ext w w1 := ((Ext.refl w).alloc _).trans hx
  clear b0 b1 b2 b4 b5 b6 b7 b8 b9 b10 b11 b12 hx
  cases hf : formedC e
  · go_wp2
    go_ret
    exact ⟨ret_bool (by simp [writeC, hf]), hx1⟩
  · by_cases h : (n : Int) = r
    · subst h
      go_wp2
      go_ret
      exact ⟨ret_bool (by simp [writeC, hf, HN.out]), hx1⟩
    · have h' : ((n : Int) == r) = false := by simpa using h
      go_wp2
      go_ret
      exact ⟨ret_bool (by simp [writeC, hf, HN.out, h]), hx1⟩

/-- A session: its block, and what its clock is. -/
def Ses (w : World) (b : Nat) (A : Option Addr) (n c : Nat) (l : List Int) : Prop := w.heap[b]? = some (.cells #[.slice A n c] 53 (0, 0)) ∧ Ints w A n c l
theorem Ses.cell {w : World} {b : Nat} {A : Option Addr} {n c : Nat} {l : List Int} (h : Ses w b A n c l) : w.cell? ⟨b, 0, none⟩ = some (.slice A n c) := block_cell h.1 0
theorem Ses.ext {w w' : World} {b : Nat} {A : Option Addr} {n c : Nat} {l : List Int} (h : Ses w b A n c l) (hx : Ext w w') : Ses w' b A n c l := ⟨(hx.block (lt_of_block h.1)).trans h.1, h.2.ext hx⟩
/-- Only block b has turned, and there may be new ones. -/
def But (b : Nat) (w w' : World) : Prop := w.grownBy w' (some b)
theorem But.refl (b : Nat) (w : World) : But b w w := grown_refl w _
theorem But.trans {b : Nat} {x y z : World} (h : But b x y) (k : But b y z) : But b x z :=
  ⟨k.os.trans h.os, k.tape.trans h.tape, k.output.trans h.output, Nat.le_trans h.size k.size, fun i hi hne => (k.block i (Nat.lt_of_lt_of_le hi h.size) hne).trans (h.block i hi hne)⟩
theorem But.ext {b : Nat} {x y z : World} (h : But b x y) (k : Ext y z) : But b x z :=
  ⟨k.os.trans h.os, k.tape.trans h.tape, k.output.trans h.output, Nat.le_trans h.size k.size, fun i hi hne => (Below.block k i (Nat.lt_of_lt_of_le hi h.size)).trans (h.block i hi hne)⟩
theorem But.of_ext {b : Nat} {x y : World} (k : Ext x y) : But b x y := (But.refl b x).ext k
theorem But.set {b : Nat} {x y : World} (h : But b x y) (i : Nat) (u : Value) : But b x (y.setCell ⟨b, i, none⟩ u) := grown_set h i u
/-- Numbers do not lie in a session's block. -/
theorem Ints.but {w w' : World} {A B : Option Addr} {n c m d : Nat} {b : Nat} {t : TypeId} {l : List Int} (h : Ints w A n c l) (hs : w.heap[b]? = some (.cells #[.slice B m d] t (0, 0))) (hb : But b w w') : Ints w' A n c l :=
  ⟨h.1, h.2.1, h.2.2.1, fun k hk => by
    obtain ⟨g, off, e, hc⟩ := h.2.2.2 k hk
    refine ⟨g, off, e, (World.cell?_of_block (hb.block g (cell_lt hc) (fun e' => ?_))).trans hc⟩
    cases e'
    rw [block_cell hs] at hc
    cases hk' : off + k with
    | zero => rw [hk'] at hc; simp at hc
    | succ j => rw [hk'] at hc; simp at hc⟩
/-- Another session stays as it was. -/
theorem Ses.but {w w' : World} {a b : Nat} {A B : Option Addr} {n c m d : Nat} {l r : List Int} (h : Ses w a A n c l) (hs : Ses w b B m d r) (hne : a ≠ b) (hb : But b w w') : Ses w' a A n c l :=
  ⟨(hb.block a (lt_of_block h.1) (fun e => hne (by injection e))).trans h.1, h.2.but hs.1 hb⟩

set_option maxRecDepth 100000 in
theorem new_no (r : Int) (w : World) (h : r < 1 ∨ 5 < r) :
    Calls Tryz.prog 6 #[.int .i64 r] w fun en w' => en = .returned (.tuple #[.pointer none, .int .i64 1]) ∧ Ext w w' := by
  have C := Lib.hid (zero_no r w h)
  have CV := Lib.hid (show Calls Tryz.prog 16 #[.slice none 0 0] w fun e w' => e = .returned (.bool false) ∧ w = w' from valid_any none 0 0 [] w (Ints.nil _ _ _ (by omega)))
  clear h
  go_enter Tryz.func6, Tryz.ntmps6
  go_wp2_with fail
  refine (C.out).mono ?_
  rintro en w1 ⟨rfl, rfl⟩
  go_wp2_with fail
  refine (CV.out).mono ?_
  rintro en w1 ⟨rfl, rfl⟩
  go_wp2
  go_ret2
  exact ⟨rfl, (by repeat (first | exact Ext.refl _ | with_reducible assumption | refine Ext.drewN ?_ _ | refine Ext.drew ?_ | refine Ext.alloc ?_ _ | (refine Ext.trans ?_ (by with_reducible assumption))))⟩

theorem validC_zero {n : Nat} (h1 : 1 ≤ n) (h5 : n ≤ 5) : validC (List.replicate n 0) = true := by
  simp [validC, okN, h1, h5]

set_option maxRecDepth 100000 in
theorem new_yes (n : Nat) (w : World) (h1 : 1 ≤ n) (h5 : n ≤ 5) :
    Calls Tryz.prog 6 #[.int .i64 n] w fun en w' => ∃ b A c, en = .returned (.tuple #[.pointer (some ⟨b, 0, none⟩), .int .i64 0]) ∧ w.heap.size ≤ b ∧ Ses w' b A n c (List.replicate n 0) ∧ Ext w w' := by
  have C := Lib.hid (zero_yes n w h1 h5)
  go_enter Tryz.func6, Tryz.ntmps6
  go_wp2_with fail
  refine (C.out).mono ?_
  rintro en w1 ⟨A, c, rfl, hown, hx⟩
  have hi := Ints.of_own hown
  have CV := Lib.hid (valid_v hi (validC_zero h1 h5))
  go_wp2_with fail
  refine (CV.out).mono ?_
  rintro en w2 ⟨rfl, rfl⟩
  go_wp2
  go_ret2
  exact ⟨w1.heap.size, A, c, rfl, hx.size, ⟨heap_alloc_new w1 _, hi.sub (by repeat (first | exact Sub.refl _ | with_reducible assumption | refine Sub.drewN ?_ _ | refine Sub.drew ?_ | refine Sub.alloc ?_ _ | (refine Sub.trans ?_ (by with_reducible assumption))))⟩, (by repeat (first | exact Ext.refl _ | with_reducible assumption | refine Ext.drewN ?_ _ | refine Ext.drew ?_ | refine Ext.alloc ?_ _ | (refine Ext.trans ?_ (by with_reducible assumption))))⟩

set_option maxRecDepth 100000 in
theorem ready_any (b : Nat) (A B : Option Addr) (n c m d : Nat) (s l : List Int) (w : World) (hs : Ses w b A n c s) (hl : Ints w B m d l) :
    Calls Tryz.prog 10 #[.pointer (some ⟨b, 0, none⟩), .slice B m d] w fun en w' => en = .returned (.bool (containsC l s)) ∧ Ext w w' := by
  have hc := hs.cell
  have C := Lib.hid (contains_any B A m n d c l s w hl hs.2)
  clear hs hl
  go_enter Tryz.func10, Tryz.ntmps10
  go_wp2_with fail
  refine (C.out).mono ?_
  rintro en w1 ⟨rfl, hx⟩
  go_wp2
  go_ret
  exact ⟨rfl, hx⟩

set_option maxRecDepth 100000 in
theorem lacks_any (b : Nat) (A B : Option Addr) (n c m d : Nat) (s l : List Int) (w : World) (hs : Ses w b A n c s) (hl : Ints w B m d l) :
    Calls Tryz.prog 12 #[.pointer (some ⟨b, 0, none⟩), .slice B m d] w fun e w' => ∃ A' c', e = .returned (.slice A' (missC l s).length c') ∧
      w'.ownsRow w.heap.size 49 3 (.slice A' (missC l s).length c') (missC l s).length (spanCells (missC l s)) ∧ Ext w w' := by
  have hc := hs.cell
  have C := Lib.hid (missing_any B A m n d c l s w hl hs.2)
  clear hs hl
  go_enter Tryz.func12, Tryz.ntmps12
  go_wp2_with fail
  refine (C.out).mono ?_
  rintro en w1 ⟨A', c', rfl, hown, hx⟩
  go_wp2
  go_ret
  exact ⟨A', c', rfl, hown, hx⟩
end Go.Proofs.YtolbcmniklbnmaaGreatDoor
