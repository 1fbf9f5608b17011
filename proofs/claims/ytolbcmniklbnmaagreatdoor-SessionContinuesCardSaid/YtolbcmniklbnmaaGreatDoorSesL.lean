/- The walk of the law's example. -/
import Derived.Test.YtolbcmniklbnmaaGreatDoorSesK
namespace Go.Proofs.YtolbcmniklbnmaaGreatDoor
open Go Go.RowKit Go.Deep

theorem ex_acts (w : World) (T1 T2 T : TypeId) : Acts (((w.alloc (.cells #[.int .i64 1, .int .i64 0] T1)).alloc (.cells #[.int .i64 0, .int .i64 5] T2)).alloc (.cells #[.bool false, .slice (some ⟨w.heap.size, 0, none⟩) 2 2, .int .i64 0, .int .i64 0, .int .i64 0, .slice none 0 0, .int .i64 0, .int .i64 0, .int .i64 0, .int .i64 0, .int .i64 0, .int .i64 0, .int .i64 0, .int .i64 0, .int .i64 0,
    .bool false, .slice (some ⟨w.heap.size + 1, 0, none⟩) 2 2, .int .i64 0, .int .i64 0, .int .i64 0, .slice none 0 0, .int .i64 0, .int .i64 0, .int .i64 0, .int .i64 0, .int .i64 0, .int .i64 0, .int .i64 0, .int .i64 0, .int .i64 0] T)) (some ⟨w.heap.size + 1 + 1, 0, none⟩) 2 2 [exA, exB] := by
  have h1 := (Ints.two w 1 0 T1).ext ((Ext.refl _).alloc (.cells #[.int .i64 0, .int .i64 5] T2))
  have h2 := Ints.two (w.alloc (.cells #[.int .i64 1, .int .i64 0] T1)) 0 5 T2
  rw [World.size_alloc] at h2
  have h := acts_two exA exB ⟨some ⟨w.heap.size, 0, none⟩, 2, 2, none, 0, 0⟩ ⟨some ⟨w.heap.size + 1, 0, none⟩, 2, 2, none, 0, 0⟩ ((w.alloc (.cells #[.int .i64 1, .int .i64 0] T1)).alloc (.cells #[.int .i64 0, .int .i64 5] T2)) T ⟨h1, Ints.nil _ none 0 (by omega)⟩ ⟨h2, Ints.nil _ none 0 (by omega)⟩
  rw [World.size_alloc, World.size_alloc] at h
  have e : exA.cells ⟨some ⟨w.heap.size, 0, none⟩, 2, 2, none, 0, 0⟩ ++ exB.cells ⟨some ⟨w.heap.size + 1, 0, none⟩, 2, 2, none, 0, 0⟩ = #[.bool false, .slice (some ⟨w.heap.size, 0, none⟩) 2 2, .int .i64 0, .int .i64 0, .int .i64 0, .slice none 0 0, .int .i64 0, .int .i64 0, .int .i64 0, .int .i64 0, .int .i64 0, .int .i64 0, .int .i64 0, .int .i64 0, .int .i64 0,
    .bool false, .slice (some ⟨w.heap.size + 1, 0, none⟩) 2 2, .int .i64 0, .int .i64 0, .int .i64 0, .slice none 0 0, .int .i64 0, .int .i64 0, .int .i64 0, .int .i64 0, .int .i64 0, .int .i64 0, .int .i64 0, .int .i64 0, .int .i64 0] := by
    simp [SAct.cells, exA, exB, exE]
  rw [e] at h
  exact h

theorem ex_rows (w : World) (T1 T2 T : TypeId) : Rows (((w.alloc (.cells #[.int .i64 2, .int .i64 0] T1)).alloc (.cells #[.int .i64 2, .int .i64 1] T2)).alloc (.cells #[.slice (some ⟨w.heap.size, 0, none⟩) 2 2, .slice (some ⟨w.heap.size + 1, 0, none⟩) 2 2] T)) (some ⟨w.heap.size + 1 + 1, 0, none⟩) 2 2 [[2, 0], [2, 1]] := by
  have h1 := (Ints.two w 2 0 T1).ext ((Ext.refl _).alloc (.cells #[.int .i64 2, .int .i64 1] T2))
  have h2 := Ints.two (w.alloc (.cells #[.int .i64 2, .int .i64 0] T1)) 2 1 T2
  rw [World.size_alloc] at h2
  have h := Rows.two T h1 h2
  rw [World.size_alloc, World.size_alloc] at h
  exact h

set_option maxRecDepth 100000 in
set_option maxHeartbeats 4000000 in
theorem awake_any (w : World) (ht : Tab w) :
    Calls Tryz.prog 4 #[] w fun e w' => e = .returned (.bool true) ∧ Ext w w' := by
  have C1 := Lib.hid (show Calls Tryz.prog 6 #[.int .i64 2] w _ from new_yes 2 w (by omega) (by omega))
  go_enter Tryz.func4, Tryz.ntmps4
  go_wp2_with fail
  refine (C1.out).mono ?_
  rintro en w1 ⟨b, A, c, rfl, hb, hs1, hx1⟩
  have hs1 : Ses w1 b A 2 c [0, 0] := hs1
  clear C1
  have C2 := fun t => read_any b A _ 2 c 2 2 [0, 0] [1, 0] _ (hs1.ext ((Ext.refl w1).alloc _)) (Ints.two w1 1 0 t)
  simp only [ex_read] at C2
  have C2 := Lib.hid C2
  go_wp2_with fail
  refine (C2.out _).mono ?_
  rintro en w2 ⟨rfl, ⟨A2, n2, c2, hs2⟩, hb2⟩
  obtain rfl : 2 = n2 := hs2.2.1
  have hx2 : Ext w w2 := (hx1.alloc _).but hb2 hb
  clear C2 hb2 hs1 hx1
  have C3 := fun t => wrote_any b A2 _ 2 c2 2 2 [1, 0] exW _ (hs2.ext ((Ext.refl w2).alloc _)) (Ints.two w2 1 0 t)
  simp only [ex_wrote] at C3
  have C3 := Lib.hid C3
  go_wp2_with fail
  refine (C3.out _).mono ?_
  rintro en w3 ⟨rfl, ⟨A3, n3, c3, hs3⟩, hb3⟩
  obtain rfl : 2 = n3 := hs3.2.1
  have hx3 : Ext w w3 := (hx2.alloc _).but hb3 hb
  clear C3 hb3 hs2 hx2
  have C4 := fun t => lacks_any b A3 _ 2 c3 2 2 [1, 1] [2, 0] _ (hs3.ext ((Ext.refl w3).alloc _)) (Ints.two w3 2 0 t)
  simp only [ex_lacks] at C4
  have C4 := Lib.hid C4
  go_wp2_with fail
  refine (C4.out _).mono ?_
  rintro en w4 ⟨A4, c4, rfl, hown, hxx⟩
  have hs4 := hs3.ext (((Ext.refl w3).alloc _).trans hxx)
  have hx4 : Ext w w4 := (hx3.alloc _).trans hxx
  obtain ⟨g, rfl, hg1, hg2⟩ := own_addr hown (by decide)
  have o0 : w4.cell? ⟨g, 0, none⟩ = some (.int .i64 1) := hown.cellAt 0 (by decide)
  have o1 : w4.cell? ⟨g, 1, none⟩ = some (.int .i64 1) := hown.cellAt 1 (by decide)
  have o2 : w4.cell? ⟨g, 2, none⟩ = some (.int .i64 1) := hown.cellAt 2 (by decide)
  clear C4 hown hxx hs3 hx3 hg1
  go_wp2_with fail
  have C5 := check_yes 2 _ 2 2 [exA, exB] _ (ex_acts w4 3 3 37) (by omega) (by omega)
  simp only [ex_check] at C5
  refine C5.mono ?_
  rintro en w5 ⟨rfl, hx5⟩
  have hx45 : Ext w4 w5 := ((((Ext.refl w4).alloc _).alloc _).alloc _).trans hx5
  clear C5 hx5
  have hs5 := hs4.ext hx45
  have hx05 := hx4.trans hx45
  have o0 := hx45.cell o0
  have o1 := hx45.cell o1
  have o2 := hx45.cell o2
  clear hs4 hx4 hx45 hg2
  have C6 := token_any b A3 2 c3 [1, 1] w5 hs5 (ht.ext hx05)
  rw [ex_token] at C6
  have C6 := Lib.hid C6
  go_wp2_with fail
  refine (C6.out).mono ?_
  rintro en w6 ⟨rfl, hx6⟩
  clear C6
  have hs6 := hs5.ext hx6
  have hx06 := hx05.trans hx6
  have o0 := hx6.cell o0
  have o1 := hx6.cell o1
  have o2 := hx6.cell o2
  clear hs5 hx05 hx6
  have C7 := fun t => ready_any b A3 _ 2 c3 2 2 [1, 1] [2, 0] _ (hs6.ext ((Ext.refl w6).alloc _)) (Ints.two w6 2 0 t)
  simp only [ex_ready.1] at C7
  have C7 := Lib.hid C7
  go_wp2_with fail
  refine (C7.out _).mono ?_
  rintro en w7 ⟨rfl, hx7⟩
  clear C7
  have hx67 := ((Ext.refl w6).alloc _).trans hx7
  have hs7 := hs6.ext hx67
  have hx07 := hx06.trans hx67
  have o0 := hx67.cell o0
  have o1 := hx67.cell o1
  have o2 := hx67.cell o2
  clear hs6 hx06 hx67 hx7
  have C8 := fun t => ready_any b A3 _ 2 c3 2 2 [1, 1] [1, 1] _ (hs7.ext ((Ext.refl w7).alloc _)) (Ints.two w7 1 1 t)
  simp only [ex_ready.2] at C8
  have C8 := Lib.hid C8
  go_wp2_with fail
  refine (C8.out _).mono ?_
  rintro en w8 ⟨rfl, hx8⟩
  clear C8
  have hx78 := ((Ext.refl w7).alloc _).trans hx8
  have hs8 := hs7.ext hx78
  have hx08 := hx07.trans hx78
  have o0 := hx78.cell o0
  have o1 := hx78.cell o1
  have o2 := hx78.cell o2
  clear hs7 hx07 hx78 hx8
  go_wp2_with fail
  have hx8a : Ext w8 (((w8.alloc (.cells #[.int .i64 2, .int .i64 0] 3)).alloc (.cells #[.int .i64 2, .int .i64 1] 3)).alloc (.cells #[.slice (some ⟨w8.heap.size, 0, none⟩) 2 2, .slice (some ⟨w8.heap.size + 1, 0, none⟩) 2 2] 29)) := (((Ext.refl w8).alloc _).alloc _).alloc _
  have C9 := choose_any b A3 _ 2 c3 2 2 [1, 1] [[2, 0], [2, 1]] _ (hs8.ext hx8a) (ex_rows w8 _ _ _)
  rw [ex_choose] at C9
  refine C9.mono ?_
  rintro en w9 ⟨rfl, hx9⟩
  have hx09 := hx08.trans (hx8a.trans hx9)
  clear C9 hx9 hx8a hs8
  go_wp2
  go_ret
  exact ⟨rfl, hx09⟩
end Go.Proofs.YtolbcmniklbnmaaGreatDoor
