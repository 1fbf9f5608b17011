/- The walk of event.Formed. -/
import Derived.Test.YtolbcmniklbnmaaGreatDoorEventB
import Derived.Test.YtolbcmniklbnmaaGreatDoorEventC
import Derived.Deep.RegionHeld3
namespace Go.Proofs.YtolbcmniklbnmaaGreatDoor
open Go Go.RowKit Go.Deep

theorem between_v {n lo hi : Int} {w : World} {v : Bool} (h : btw n lo hi = v) : Calls Tryz.prog 59 #[.int .i64 n, .int .i64 lo, .int .i64 hi] w fun e w' => e = .returned (.bool v) ∧ w = w' := by
  subst h; exact between_any n lo hi w
theorem valid_v {A : Option Addr} {n c : Nat} {l : List Int} {w : World} {v : Bool} (hr : Ints w A n c l) (h : validC l = v) :
    Calls Tryz.prog 16 #[.slice A n c] w fun e w' => e = .returned (.bool v) ∧ w = w' := by
  subst h; exact valid_any A n c l w hr

def zeroEv : Ev := ⟨0, 0, 0, [], 0, 0, 0, 0, 0, 0, 0, 0, 0⟩
/-- What event.Formed asks beside the past, the name and the time. -/
def formOf (e : Ev) : Bool :=
  if e.kind = 0 then form1 e && decide (({ zeroEv with gkind := e.gkind, gindex := e.gindex, gelement := e.gelement, gamount := e.gamount, to := e.to } : Ev) = zeroEv)
  else if e.kind = 1 then form2 e && decide (({ zeroEv with action := e.action, place := e.place, serial := e.serial } : Ev) = zeroEv)
  else if e.kind = 2 then form3 e && decide (({ zeroEv with action := e.action, gkind := e.gkind, gindex := e.gindex, gelement := e.gelement, gamount := e.gamount, to := e.to } : Ev) = zeroEv)
  else false
/-- event.Formed -/
def formedC (e : Ev) : Bool :=
  validC e.past && (btw e.replica 0 (e.past.length - 1) && (decide (e.number = e.past.getD e.replica.toNat 0 + 1) && (decide (e.number ≤ 1024) && (btw e.time 1 1073741824 && formOf e))))

/-- The cells of a boxed event. -/
theorem box_cells (e : Ev) (A : Option Addr) (n c : Nat) (w : World) :
    (w.alloc (.cells (e.cells A n c) 35)).cell? ⟨w.heap.size, 0, none⟩ = some (.int .i64 e.replica) ∧
    (w.alloc (.cells (e.cells A n c) 35)).cell? ⟨w.heap.size, 1, none⟩ = some (.int .i64 e.number) ∧
    (w.alloc (.cells (e.cells A n c) 35)).cell? ⟨w.heap.size, 2, none⟩ = some (.int .i64 e.time) ∧
    (w.alloc (.cells (e.cells A n c) 35)).cell? ⟨w.heap.size, 3, none⟩ = some (.slice A n c) ∧
    (w.alloc (.cells (e.cells A n c) 35)).cell? ⟨w.heap.size, 4, none⟩ = some (.int .i64 e.kind) ∧
    (w.alloc (.cells (e.cells A n c) 35)).cell? ⟨w.heap.size, 5, none⟩ = some (.int .i64 e.action) ∧
    (w.alloc (.cells (e.cells A n c) 35)).cell? ⟨w.heap.size, 6, none⟩ = some (.int .i64 e.gkind) ∧
    (w.alloc (.cells (e.cells A n c) 35)).cell? ⟨w.heap.size, 7, none⟩ = some (.int .i64 e.gindex) ∧
    (w.alloc (.cells (e.cells A n c) 35)).cell? ⟨w.heap.size, 8, none⟩ = some (.int .i64 e.gelement) ∧
    (w.alloc (.cells (e.cells A n c) 35)).cell? ⟨w.heap.size, 9, none⟩ = some (.int .i64 e.gamount) ∧
    (w.alloc (.cells (e.cells A n c) 35)).cell? ⟨w.heap.size, 10, none⟩ = some (.int .i64 e.to) ∧
    (w.alloc (.cells (e.cells A n c) 35)).cell? ⟨w.heap.size, 11, none⟩ = some (.int .i64 e.place) ∧
    (w.alloc (.cells (e.cells A n c) 35)).cell? ⟨w.heap.size, 12, none⟩ = some (.int .i64 e.serial) :=
  ⟨cell_new w _ _ 0, cell_new w _ _ 1, cell_new w _ _ 2, cell_new w _ _ 3, cell_new w _ _ 4, cell_new w _ _ 5, cell_new w _ _ 6, cell_new w _ _ 7, cell_new w _ _ 8, cell_new w _ _ 9, cell_new w _ _ 10, cell_new w _ _ 11, cell_new w _ _ 12⟩

set_option maxRecDepth 100000 in
set_option maxHeartbeats 4000000 in
theorem formed_no (e : Ev) (A : Option Addr) (n c : Nat) (w : World) (hr : Ints w A n c e.past)
    (h : validC e.past = false ∨ (validC e.past = true ∧ (btw e.replica 0 (n - 1) = false ∨ (btw e.replica 0 (n - 1) = true ∧
      (¬ e.number = e.past.getD e.replica.toNat 0 + 1 ∨ (e.number = e.past.getD e.replica.toNat 0 + 1 ∧ (¬ e.number ≤ 1024 ∨ (e.number ≤ 1024 ∧ btw e.time 1 1073741824 = false)))))))) :
    Calls Tryz.prog 36 #[.agg (e.cells A n c)] w fun en w' => en = .returned (.bool false) ∧ Ext w w' := by
  obtain ⟨b0, b1, b2, b3, _⟩ := box_cells e A n c w
  have CV := Lib.hid (fun (W : World) (s : Sub w W) (v : Bool) (h : validC e.past = v) => valid_v (hr.sub s) h)
  have hn := hr.1
  rcases h with h1 | ⟨h1, h2 | ⟨h2, h⟩⟩
  · go_enter Tryz.func36, Tryz.ntmps36
    go_wp2
    go_quiet ((go_at_call 16; exact quiet_left (CV.out _ (by repeat (first | exact Sub.refl _ | with_reducible assumption | refine Sub.drewN ?_ _ | refine Sub.drew ?_ | refine Sub.alloc ?_ _ | (refine Sub.trans ?_ (by with_reducible assumption)))) _ h1)))
    go_wp2
    go_ret
    exact ⟨rfl, (by repeat (first | exact Ext.refl _ | with_reducible assumption | refine Ext.drewN ?_ _ | refine Ext.drew ?_ | refine Ext.alloc ?_ _ | (refine Ext.trans ?_ (by with_reducible assumption))))⟩
  · have hw1 : IntKind.i64.wrap ((n : Int) - 1) = (n : Int) - 1 := IntWalk.i64_in _ (by have := hr.2.1; have := hr.2.2.1; omega)
    clear hn hr
    go_enter Tryz.func36, Tryz.ntmps36
    go_wp2
    go_quiet ((first | (go_at_call 16; exact quiet_left (CV.out _ (by repeat (first | exact Sub.refl _ | with_reducible assumption | refine Sub.drewN ?_ _ | refine Sub.drew ?_ | refine Sub.alloc ?_ _ | (refine Sub.trans ?_ (by with_reducible assumption)))) _ h1)) | (go_at_call 59; exact quiet_left (between_v (by assumption)))))
    go_wp2
    go_ret
    exact ⟨rfl, (by repeat (first | exact Ext.refl _ | with_reducible assumption | refine Ext.drewN ?_ _ | refine Ext.drew ?_ | refine Ext.alloc ?_ _ | (refine Ext.trans ?_ (by with_reducible assumption))))⟩
  · have hw1 : IntKind.i64.wrap ((n : Int) - 1) = (n : Int) - 1 := IntWalk.i64_in _ (by have := hr.2.1; have := hr.2.2.1; omega)
    have hb := h2
    simp only [btw, Bool.and_eq_true, decide_eq_true_eq] at hb
    obtain ⟨hb0, hb1⟩ := hb
    have hkl : e.replica.toNat < e.past.length := by omega
    obtain ⟨b, off, rfl, hc⟩ := hr.2.2.2 e.replica.toNat hkl
    have hc := ((Ext.refl w).alloc (.cells (e.cells (some ⟨b, off, none⟩) n c) 35)).cell hc
    have hrn : e.replica < (n : Int) := by omega
    have hv := (valid_facts h1).2.2 _ (List.getElem_mem hkl)
    have hv0 := hv.1
    have hv1 := hv.2
    have hw2 : IntKind.i64.wrap (e.past[e.replica.toNat] + 1) = e.past[e.replica.toNat] + 1 := IntWalk.i64_in _ (by omega)
    have hD : e.past.getD e.replica.toNat 0 = e.past[e.replica.toNat] := by rw [List.getD_eq_getElem?_getD, List.getElem?_eq_getElem hkl]; rfl
    rw [hD] at h
    clear hv hn hr hb1 hD
    rcases h with h3 | ⟨h3, h4 | ⟨h4, h5⟩⟩
    · have h3' : (e.number != e.past[e.replica.toNat] + 1) = true := by simpa using h3
      clear h3
      go_enter Tryz.func36, Tryz.ntmps36
      go_wp2
      go_quiet ((first | (go_at_call 16; exact quiet_left (CV.out _ (by repeat (first | exact Sub.refl _ | with_reducible assumption | refine Sub.drewN ?_ _ | refine Sub.drew ?_ | refine Sub.alloc ?_ _ | (refine Sub.trans ?_ (by with_reducible assumption)))) _ h1)) | (go_at_call 59; exact quiet_left (between_v (by assumption)))))
      go_wp2
      go_ret
      exact ⟨rfl, (by repeat (first | exact Ext.refl _ | with_reducible assumption | refine Ext.drewN ?_ _ | refine Ext.drew ?_ | refine Ext.alloc ?_ _ | (refine Ext.trans ?_ (by with_reducible assumption))))⟩
    · have h3' : (e.number != e.past[e.replica.toNat] + 1) = false := by simpa using h3
      have h4' : decide (1024 < e.number) = true := by simp; omega
      have h4'' : 1024 < e.number := by omega
      clear h3 h4
      go_enter Tryz.func36, Tryz.ntmps36
      go_wp2
      go_quiet ((first | (go_at_call 16; exact quiet_left (CV.out _ (by repeat (first | exact Sub.refl _ | with_reducible assumption | refine Sub.drewN ?_ _ | refine Sub.drew ?_ | refine Sub.alloc ?_ _ | (refine Sub.trans ?_ (by with_reducible assumption)))) _ h1)) | (go_at_call 59; exact quiet_left (between_v (by assumption)))))
      go_wp2
      go_ret
      exact ⟨rfl, (by repeat (first | exact Ext.refl _ | with_reducible assumption | refine Ext.drewN ?_ _ | refine Ext.drew ?_ | refine Ext.alloc ?_ _ | (refine Ext.trans ?_ (by with_reducible assumption))))⟩
    · have h3' : (e.number != e.past[e.replica.toNat] + 1) = false := by simpa using h3
      have h4' : decide (1024 < e.number) = false := by simp; omega
      clear h3
      go_enter Tryz.func36, Tryz.ntmps36
      go_wp2
      go_quiet ((first | (go_at_call 16; exact quiet_left (CV.out _ (by repeat (first | exact Sub.refl _ | with_reducible assumption | refine Sub.drewN ?_ _ | refine Sub.drew ?_ | refine Sub.alloc ?_ _ | (refine Sub.trans ?_ (by with_reducible assumption)))) _ h1)) | (go_at_call 59; exact quiet_left (between_v (by assumption)))))
      go_wp2
      go_ret
      exact ⟨rfl, (by repeat (first | exact Ext.refl _ | with_reducible assumption | refine Ext.drewN ?_ _ | refine Ext.drew ?_ | refine Ext.alloc ?_ _ | (refine Ext.trans ?_ (by with_reducible assumption))))⟩
end Go.Proofs.YtolbcmniklbnmaaGreatDoor
