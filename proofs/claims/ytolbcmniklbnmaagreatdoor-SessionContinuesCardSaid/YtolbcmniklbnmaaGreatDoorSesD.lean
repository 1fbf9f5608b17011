/- Acts of sessions as data; the walks of session.guarantees' functions. -/
import Derived.Test.YtolbcmniklbnmaaGreatDoorSesA
namespace Go.Proofs.YtolbcmniklbnmaaGreatDoor
open Go Go.RowKit Go.Deep

/-- api.SessionAct -/
structure SAct where
  write : Bool
  clock : List Int
  event : Ev

/-- The two slices that an act leads to. -/
structure Sls where
  A : Option Addr
  n : Nat
  c : Nat
  B : Option Addr
  m : Nat
  d : Nat

/-- The cells of an act. -/
def SAct.cells (a : SAct) (s : Sls) : Array Value :=
  #[.bool a.write, .slice s.A s.n s.c, .int .i64 a.event.replica, .int .i64 a.event.number, .int .i64 a.event.time, .slice s.B s.m s.d, .int .i64 a.event.kind, .int .i64 a.event.action, .int .i64 a.event.gkind, .int .i64 a.event.gindex, .int .i64 a.event.gelement, .int .i64 a.event.gamount, .int .i64 a.event.to, .int .i64 a.event.place, .int .i64 a.event.serial]

/-- An act that lies in w. -/
def SAct.In (a : SAct) (w : World) (s : Sls) : Prop := Ints w s.A s.n s.c a.clock ∧ Ints w s.B s.m s.d a.event.past
theorem SAct.In.sub {a : SAct} {w w' : World} {s : Sls} (h : a.In w s) (k : Sub w w') : a.In w' s := ⟨h.1.sub k, h.2.sub k⟩
theorem SAct.In.ext {a : SAct} {w w' : World} {s : Sls} (h : a.In w s) (k : Ext w w') : a.In w' s := h.sub k.sub

/-- The cells of a boxed act. -/
theorem act_cells (a : SAct) (s : Sls) (w : World) :
    (w.alloc (.cells (a.cells s) 37)).cell? ⟨w.heap.size, 0, none⟩ = some (.bool a.write) ∧
    (w.alloc (.cells (a.cells s) 37)).cell? ⟨w.heap.size, 1, none⟩ = some (.slice s.A s.n s.c) ∧
    (w.alloc (.cells (a.cells s) 37)).cell? ⟨w.heap.size, 2, none⟩ = some (.int .i64 a.event.replica) ∧
    (w.alloc (.cells (a.cells s) 37)).cell? ⟨w.heap.size, 3, none⟩ = some (.int .i64 a.event.number) ∧
    (w.alloc (.cells (a.cells s) 37)).cell? ⟨w.heap.size, 4, none⟩ = some (.int .i64 a.event.time) ∧
    (w.alloc (.cells (a.cells s) 37)).cell? ⟨w.heap.size, 5, none⟩ = some (.slice s.B s.m s.d) ∧
    (w.alloc (.cells (a.cells s) 37)).cell? ⟨w.heap.size, 6, none⟩ = some (.int .i64 a.event.kind) ∧
    (w.alloc (.cells (a.cells s) 37)).cell? ⟨w.heap.size, 7, none⟩ = some (.int .i64 a.event.action) ∧
    (w.alloc (.cells (a.cells s) 37)).cell? ⟨w.heap.size, 8, none⟩ = some (.int .i64 a.event.gkind) ∧
    (w.alloc (.cells (a.cells s) 37)).cell? ⟨w.heap.size, 9, none⟩ = some (.int .i64 a.event.gindex) ∧
    (w.alloc (.cells (a.cells s) 37)).cell? ⟨w.heap.size, 10, none⟩ = some (.int .i64 a.event.gelement) ∧
    (w.alloc (.cells (a.cells s) 37)).cell? ⟨w.heap.size, 11, none⟩ = some (.int .i64 a.event.gamount) ∧
    (w.alloc (.cells (a.cells s) 37)).cell? ⟨w.heap.size, 12, none⟩ = some (.int .i64 a.event.to) ∧
    (w.alloc (.cells (a.cells s) 37)).cell? ⟨w.heap.size, 13, none⟩ = some (.int .i64 a.event.place) ∧
    (w.alloc (.cells (a.cells s) 37)).cell? ⟨w.heap.size, 14, none⟩ = some (.int .i64 a.event.serial) :=
  ⟨cell_new w _ _ 0, cell_new w _ _ 1, cell_new w _ _ 2, cell_new w _ _ 3, cell_new w _ _ 4, cell_new w _ _ 5, cell_new w _ _ 6, cell_new w _ _ 7, cell_new w _ _ 8, cell_new w _ _ 9, cell_new w _ _ 10, cell_new w _ _ 11, cell_new w _ _ 12, cell_new w _ _ 13, cell_new w _ _ 14⟩

theorem name_any (e : Ev) (A : Option Addr) (n c : Nat) (w : World) :
    Calls Tryz.prog 43 #[.agg (e.cells A n c)] w fun en w' => en = .returned (.agg #[.int .i64 e.replica, .int .i64 e.number]) ∧ Ext w w' := by
  obtain ⟨b0, b1, b2, b3, b4, b5, b6, b7, b8, b9, b10, b11, b12⟩ := box_cells e A n c w
  have b0 := fun o => ((Ext.refl _).alloc o).cell b0
  have b1 := fun o => ((Ext.refl _).alloc o).cell b1
  clear b2 b3 b4 b5 b6 b7 b8 b9 b10 b11 b12
  go_enter Tryz.func43, Tryz.ntmps43
  go_wp2
  refine bodyPost_ret (v := .agg #[.int .i64 e.replica, .int .i64 e.number]) (by simp [results, Tryz.results43, go_sem]) rfl ⟨rfl, (by repeat (first | exact Ext.refl _ | with_reducible assumption | refine Ext.drewN ?_ _ | refine Ext.drew ?_ | refine Ext.alloc ?_ _ | (refine Ext.trans ?_ (by with_reducible assumption))))⟩
end Go.Proofs.YtolbcmniklbnmaaGreatDoor
