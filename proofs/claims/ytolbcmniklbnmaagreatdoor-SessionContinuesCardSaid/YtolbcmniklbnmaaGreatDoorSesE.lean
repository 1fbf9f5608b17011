/- The walks of the functions that session.guarantees lists. -/
import Derived.Test.YtolbcmniklbnmaaGreatDoorSesD
namespace Go.Proofs.YtolbcmniklbnmaaGreatDoor
open Go Go.RowKit Go.Deep

/-- Two boxed acts. -/
theorem two_acts (a b : SAct) (s t : Sls) (w : World) :
    (∀ i v, (a.cells s)[i]? = some v → ((w.alloc (.cells (a.cells s) 37)).alloc (.cells (b.cells t) 37)).cell? ⟨w.heap.size, i, none⟩ = some v) ∧ (∀ i v, (b.cells t)[i]? = some v → ((w.alloc (.cells (a.cells s) 37)).alloc (.cells (b.cells t) 37)).cell? ⟨w.heap.size + 1, i, none⟩ = some v) :=
  ⟨fun i v h => ((Ext.refl _).alloc _).cell ((cell_new w _ _ i).trans h), fun i v h => by
    have hh := cell_new (w.alloc (.cells (a.cells s) 37)) (b.cells t) 37 i
    rw [World.size_alloc] at hh
    exact hh.trans h⟩

set_option maxRecDepth 100000 in
theorem kept1_any (a b : SAct) (s t : Sls) (w : World) (ha : a.In w s) (hb : b.In w t) :
    Calls Tryz.prog 44 #[.agg (a.cells s), .agg (b.cells t)] w fun en w' => en = .returned (.bool (containsC a.clock b.clock)) ∧ Ext w w' := by
  obtain ⟨ca, cb⟩ := two_acts a b s t w
  have a1 := ca 1 (.slice s.A s.n s.c) rfl
  have b1 := cb 1 (.slice t.A t.n t.c) rfl
  have C := Lib.hid (contains_any s.A t.A s.n t.n s.c t.c a.clock b.clock ((w.alloc (.cells (a.cells s) 37)).alloc (.cells (b.cells t) 37)) (ha.1.sub (by repeat (first | exact Sub.refl _ | with_reducible assumption | refine Sub.drewN ?_ _ | refine Sub.drew ?_ | refine Sub.alloc ?_ _ | (refine Sub.trans ?_ (by with_reducible assumption))))) (hb.1.sub (by repeat (first | exact Sub.refl _ | with_reducible assumption | refine Sub.drewN ?_ _ | refine Sub.drew ?_ | refine Sub.alloc ?_ _ | (refine Sub.trans ?_ (by with_reducible assumption))))))
  clear ca cb
  go_enter Tryz.func44, Tryz.ntmps44
  go_wp2_with fail
  refine (C.out).mono ?_
  rintro en w1 ⟨rfl, hx⟩
  go_wp2
  go_ret
  exact ⟨rfl, ((Ext.refl w).alloc _ |>.alloc _).trans hx⟩

set_option maxRecDepth 100000 in
theorem kept4_any (a b : SAct) (s t : Sls) (w : World) (ha : a.In w s) (hb : b.In w t) :
    Calls Tryz.prog 48 #[.agg (a.cells s), .agg (b.cells t)] w fun en w' => en = .returned (.bool (containsC a.event.past b.clock)) ∧ Ext w w' := by
  obtain ⟨ca, cb⟩ := two_acts a b s t w
  have a1 := ca 5 (.slice s.B s.m s.d) rfl
  have b1 := cb 1 (.slice t.A t.n t.c) rfl
  have C := Lib.hid (contains_any s.B t.A s.m t.n s.d t.c a.event.past b.clock ((w.alloc (.cells (a.cells s) 37)).alloc (.cells (b.cells t) 37)) (ha.2.sub (by repeat (first | exact Sub.refl _ | with_reducible assumption | refine Sub.drewN ?_ _ | refine Sub.drew ?_ | refine Sub.alloc ?_ _ | (refine Sub.trans ?_ (by with_reducible assumption))))) (hb.1.sub (by repeat (first | exact Sub.refl _ | with_reducible assumption | refine Sub.drewN ?_ _ | refine Sub.drew ?_ | refine Sub.alloc ?_ _ | (refine Sub.trans ?_ (by with_reducible assumption))))))
  clear ca cb
  go_enter Tryz.func48, Tryz.ntmps48
  go_wp2_with fail
  refine (C.out).mono ?_
  rintro en w1 ⟨rfl, hx⟩
  go_wp2
  go_ret
  exact ⟨rfl, ((Ext.refl w).alloc _ |>.alloc _).trans hx⟩


set_option maxRecDepth 100000 in
set_option maxHeartbeats 1000000 in
theorem kept2_any (a b : SAct) (s t : Sls) (nb : Nat) (w : World) (ha : a.In w s) (_hb : b.In w t) (hn : w.cell? ⟨nb, 0, none⟩ = some (.func (.func 43) #[] #[])) :
    Calls Tryz.prog 45 #[.agg (a.cells s), .agg (b.cells t), .pointer (some ⟨nb, 0, none⟩)] w fun en w' => en = .returned (.bool (hasC a.clock b.event.replica b.event.number)) ∧ Ext w w' := by
  obtain ⟨ca, cb⟩ := two_acts a b s t w
  have f0 := ca 1 (.slice s.A s.n s.c) rfl
  have f1 := cb 2 (.int .i64 b.event.replica) rfl
  have f2 := cb 3 (.int .i64 b.event.number) rfl
  have f3 := cb 4 (.int .i64 b.event.time) rfl
  have f4 := cb 5 (.slice t.B t.m t.d) rfl
  have f5 := cb 6 (.int .i64 b.event.kind) rfl
  have f6 := cb 7 (.int .i64 b.event.action) rfl
  have f7 := cb 8 (.int .i64 b.event.gkind) rfl
  have f8 := cb 9 (.int .i64 b.event.gindex) rfl
  have f9 := cb 10 (.int .i64 b.event.gelement) rfl
  have f10 := cb 11 (.int .i64 b.event.gamount) rfl
  have f11 := cb 12 (.int .i64 b.event.to) rfl
  have f12 := cb 13 (.int .i64 b.event.place) rfl
  have f13 := cb 14 (.int .i64 b.event.serial) rfl
  have fn := ((Ext.refl w).alloc (.cells (a.cells s) 37) |>.alloc (.cells (b.cells t) 37)).cell hn
  have F0 := Lib.hid f0
  have F1 := Lib.hid f1
  have F2 := Lib.hid f2
  have F3 := Lib.hid f3
  have F4 := Lib.hid f4
  have F5 := Lib.hid f5
  have F6 := Lib.hid f6
  have F7 := Lib.hid f7
  have F8 := Lib.hid f8
  have F9 := Lib.hid f9
  have F10 := Lib.hid f10
  have F11 := Lib.hid f11
  have F12 := Lib.hid f12
  have F13 := Lib.hid f13
  have FN := Lib.hid fn
  have CH := Lib.hid (fun (W : World) (k : Sub w W) => has_any s.A s.n s.c a.clock b.event.replica b.event.number W (ha.1.sub k))
  clear ca cb
  go_enter Tryz.func45, Tryz.ntmps45
  go_wp2_with fail
  go_region_held3 (fun w' => w'.cell? ⟨w.heap.size, 1, none⟩ = some (.slice s.A s.n s.c) ∧ w'.cell? ⟨w.heap.size + 1, 2, none⟩ = some (.int .i64 b.event.replica) ∧ w'.cell? ⟨w.heap.size + 1, 3, none⟩ = some (.int .i64 b.event.number) ∧ w'.cell? ⟨w.heap.size + 1, 4, none⟩ = some (.int .i64 b.event.time) ∧ w'.cell? ⟨w.heap.size + 1, 5, none⟩ = some (.slice t.B t.m t.d) ∧ w'.cell? ⟨w.heap.size + 1, 6, none⟩ = some (.int .i64 b.event.kind) ∧ w'.cell? ⟨w.heap.size + 1, 7, none⟩ = some (.int .i64 b.event.action) ∧ w'.cell? ⟨w.heap.size + 1, 8, none⟩ = some (.int .i64 b.event.gkind) ∧ w'.cell? ⟨w.heap.size + 1, 9, none⟩ = some (.int .i64 b.event.gindex) ∧ w'.cell? ⟨w.heap.size + 1, 10, none⟩ = some (.int .i64 b.event.gelement) ∧ w'.cell? ⟨w.heap.size + 1, 11, none⟩ = some (.int .i64 b.event.gamount) ∧ w'.cell? ⟨w.heap.size + 1, 12, none⟩ = some (.int .i64 b.event.to) ∧ w'.cell? ⟨w.heap.size + 1, 13, none⟩ = some (.int .i64 b.event.place) ∧ w'.cell? ⟨w.heap.size + 1, 14, none⟩ = some (.int .i64 b.event.serial) ∧ w'.cell? ⟨nb, 0, none⟩ = some (.func (.func 43) #[] #[])) (first | go_keep | exact ⟨hx2.cell (hx1.cell F0.out), hx2.cell (hx1.cell F1.out), hx2.cell (hx1.cell F2.out), hx2.cell (hx1.cell F3.out), hx2.cell (hx1.cell F4.out), hx2.cell (hx1.cell F5.out), hx2.cell (hx1.cell F6.out), hx2.cell (hx1.cell F7.out), hx2.cell (hx1.cell F8.out), hx2.cell (hx1.cell F9.out), hx2.cell (hx1.cell F10.out), hx2.cell (hx1.cell F11.out), hx2.cell (hx1.cell F12.out), hx2.cell (hx1.cell F13.out), hx2.cell (hx1.cell FN.out)⟩ | exact ⟨hx1.cell F0.out, hx1.cell F1.out, hx1.cell F2.out, hx1.cell F3.out, hx1.cell F4.out, hx1.cell F5.out, hx1.cell F6.out, hx1.cell F7.out, hx1.cell F8.out, hx1.cell F9.out, hx1.cell F10.out, hx1.cell F11.out, hx1.cell F12.out, hx1.cell F13.out, hx1.cell FN.out⟩) (first | (go_at_call 43; refine (name_any b.event t.B t.m t.d _).mono ?_; rintro en w1 ⟨rfl, hx1⟩; have hs1 : Sub w w1 := Sub.trans (by repeat (first | exact Sub.refl _ | with_reducible assumption | refine Sub.drewN ?_ _ | refine Sub.drew ?_ | refine Sub.alloc ?_ _ | (refine Sub.trans ?_ (by with_reducible assumption)))) hx1.sub) | (go_at_call 46; refine (CH.out _ hs1).mono ?_; rintro en w2 ⟨rfl, hx2⟩))
  go_wp2
  go_ret
  exact ⟨rfl, (((Ext.refl w).alloc _ |>.alloc _).drew.trans hx1).trans hx2⟩


set_option maxRecDepth 100000 in
set_option maxHeartbeats 1000000 in
theorem kept3_any (a b : SAct) (s t : Sls) (nb : Nat) (w : World) (ha : a.In w s) (_hb : b.In w t) (hn : w.cell? ⟨nb, 0, none⟩ = some (.func (.func 43) #[] #[])) :
    Calls Tryz.prog 47 #[.agg (a.cells s), .agg (b.cells t), .pointer (some ⟨nb, 0, none⟩)] w fun en w' => en = .returned (.bool (hasC a.event.past b.event.replica b.event.number)) ∧ Ext w w' := by
  obtain ⟨ca, cb⟩ := two_acts a b s t w
  have f0 := ca 5 (.slice s.B s.m s.d) rfl
  have f1 := cb 2 (.int .i64 b.event.replica) rfl
  have f2 := cb 3 (.int .i64 b.event.number) rfl
  have f3 := cb 4 (.int .i64 b.event.time) rfl
  have f4 := cb 5 (.slice t.B t.m t.d) rfl
  have f5 := cb 6 (.int .i64 b.event.kind) rfl
  have f6 := cb 7 (.int .i64 b.event.action) rfl
  have f7 := cb 8 (.int .i64 b.event.gkind) rfl
  have f8 := cb 9 (.int .i64 b.event.gindex) rfl
  have f9 := cb 10 (.int .i64 b.event.gelement) rfl
  have f10 := cb 11 (.int .i64 b.event.gamount) rfl
  have f11 := cb 12 (.int .i64 b.event.to) rfl
  have f12 := cb 13 (.int .i64 b.event.place) rfl
  have f13 := cb 14 (.int .i64 b.event.serial) rfl
  have fn := ((Ext.refl w).alloc (.cells (a.cells s) 37) |>.alloc (.cells (b.cells t) 37)).cell hn
  have F0 := Lib.hid f0
  have F1 := Lib.hid f1
  have F2 := Lib.hid f2
  have F3 := Lib.hid f3
  have F4 := Lib.hid f4
  have F5 := Lib.hid f5
  have F6 := Lib.hid f6
  have F7 := Lib.hid f7
  have F8 := Lib.hid f8
  have F9 := Lib.hid f9
  have F10 := Lib.hid f10
  have F11 := Lib.hid f11
  have F12 := Lib.hid f12
  have F13 := Lib.hid f13
  have FN := Lib.hid fn
  have CH := Lib.hid (fun (W : World) (k : Sub w W) => has_any s.B s.m s.d a.event.past b.event.replica b.event.number W (ha.2.sub k))
  clear ca cb
  go_enter Tryz.func47, Tryz.ntmps47
  go_wp2_with fail
  go_region_held3 (fun w' => w'.cell? ⟨w.heap.size, 5, none⟩ = some (.slice s.B s.m s.d) ∧ w'.cell? ⟨w.heap.size + 1, 2, none⟩ = some (.int .i64 b.event.replica) ∧ w'.cell? ⟨w.heap.size + 1, 3, none⟩ = some (.int .i64 b.event.number) ∧ w'.cell? ⟨w.heap.size + 1, 4, none⟩ = some (.int .i64 b.event.time) ∧ w'.cell? ⟨w.heap.size + 1, 5, none⟩ = some (.slice t.B t.m t.d) ∧ w'.cell? ⟨w.heap.size + 1, 6, none⟩ = some (.int .i64 b.event.kind) ∧ w'.cell? ⟨w.heap.size + 1, 7, none⟩ = some (.int .i64 b.event.action) ∧ w'.cell? ⟨w.heap.size + 1, 8, none⟩ = some (.int .i64 b.event.gkind) ∧ w'.cell? ⟨w.heap.size + 1, 9, none⟩ = some (.int .i64 b.event.gindex) ∧ w'.cell? ⟨w.heap.size + 1, 10, none⟩ = some (.int .i64 b.event.gelement) ∧ w'.cell? ⟨w.heap.size + 1, 11, none⟩ = some (.int .i64 b.event.gamount) ∧ w'.cell? ⟨w.heap.size + 1, 12, none⟩ = some (.int .i64 b.event.to) ∧ w'.cell? ⟨w.heap.size + 1, 13, none⟩ = some (.int .i64 b.event.place) ∧ w'.cell? ⟨w.heap.size + 1, 14, none⟩ = some (.int .i64 b.event.serial) ∧ w'.cell? ⟨nb, 0, none⟩ = some (.func (.func 43) #[] #[])) (first | go_keep | exact ⟨hx2.cell (hx1.cell F0.out), hx2.cell (hx1.cell F1.out), hx2.cell (hx1.cell F2.out), hx2.cell (hx1.cell F3.out), hx2.cell (hx1.cell F4.out), hx2.cell (hx1.cell F5.out), hx2.cell (hx1.cell F6.out), hx2.cell (hx1.cell F7.out), hx2.cell (hx1.cell F8.out), hx2.cell (hx1.cell F9.out), hx2.cell (hx1.cell F10.out), hx2.cell (hx1.cell F11.out), hx2.cell (hx1.cell F12.out), hx2.cell (hx1.cell F13.out), hx2.cell (hx1.cell FN.out)⟩ | exact ⟨hx1.cell F0.out, hx1.cell F1.out, hx1.cell F2.out, hx1.cell F3.out, hx1.cell F4.out, hx1.cell F5.out, hx1.cell F6.out, hx1.cell F7.out, hx1.cell F8.out, hx1.cell F9.out, hx1.cell F10.out, hx1.cell F11.out, hx1.cell F12.out, hx1.cell F13.out, hx1.cell FN.out⟩) (first | (go_at_call 43; refine (name_any b.event t.B t.m t.d _).mono ?_; rintro en w1 ⟨rfl, hx1⟩; have hs1 : Sub w w1 := Sub.trans (by repeat (first | exact Sub.refl _ | with_reducible assumption | refine Sub.drewN ?_ _ | refine Sub.drew ?_ | refine Sub.alloc ?_ _ | (refine Sub.trans ?_ (by with_reducible assumption)))) hx1.sub) | (go_at_call 46; refine (CH.out _ hs1).mono ?_; rintro en w2 ⟨rfl, hx2⟩))
  go_wp2
  go_ret
  exact ⟨rfl, (((Ext.refl w).alloc _ |>.alloc _).drew.trans hx1).trans hx2⟩

end Go.Proofs.YtolbcmniklbnmaaGreatDoor
