/- The walk of event.Formed, second half. -/
import Derived.Test.YtolbcmniklbnmaaGreatDoorEventD
namespace Go.Proofs.YtolbcmniklbnmaaGreatDoor
open Go Go.RowKit Go.Deep

theorem look_forms (W : World) (M b : Nat) (k : Int) (v : Value) (hb : W.heap[M]? = some (.map (formsMap b) 3)) (hv : Instr.findNow (.int .i64) (.int .i64 k) (formsMap b).toList 0 = some (some (k.toNat, v))) :
    (Instr.lookup 104 (.map (some M)) (.int .i64 k) true).run Tryz.prog W = .ok (.tuple #[v, .bool true]) W :=
  run_look_ok 104 _ _ .i64 W M (formsMap b) 3 k v true hb Tryz.underlying104 Tryz.underlying3 (fun _ => .inr rfl) hv
theorem forms_none (b : Nat) (k : Int) (k0 : ¬ k = 0) (k1 : ¬ k = 1) (k2 : ¬ k = 2) : Instr.findNow (.int .i64) (.int .i64 k) (formsMap b).toList 0 = some none := by
  have j0 : (k == 0) = false := by simpa using k0
  have j1 : (k == 1) = false := by simpa using k1
  have j2 : (k == 2) = false := by simpa using k2
  simp only [formsMap, Instr.findNow, Instr.sameNow, if_true, j0, j1, j2]
theorem look_none (W : World) (M b : Nat) (k : Int) (hb : W.heap[M]? = some (.map (formsMap b) 3)) (hv : Instr.findNow (.int .i64) (.int .i64 k) (formsMap b).toList 0 = some none) :
    (Instr.lookup 104 (.map (some M)) (.int .i64 k) true).run Tryz.prog W = .ok (.tuple #[.nilFunc, .bool false]) W :=
  run_look_ok 104 _ 102 .i64 W M (formsMap b) 3 k .nilFunc false hb Tryz.underlying104 Tryz.underlying3 (fun W => .inl (by kernel_rfl)) hv

set_option maxRecDepth 100000 in
set_option maxHeartbeats 8000000 in
theorem formed_yes (e : Ev) (A : Option Addr) (n c : Nat) (w : World) (hr : Ints w A n c e.past)
    (h1 : validC e.past = true) (h2 : btw e.replica 0 (n - 1) = true) (h3 : e.number = e.past.getD e.replica.toNat 0 + 1) (h4 : e.number ≤ 1024) (h5 : btw e.time 1 1073741824 = true) :
    Calls Tryz.prog 36 #[.agg (e.cells A n c)] w fun en w' => en = .returned (.bool (formOf e)) ∧ Ext w w' := by
  obtain ⟨b0, b1, b2, b3, b4, b5, b6, b7, b8, b9, b10, b11, b12⟩ := box_cells e A n c w
  have CV := Lib.hid (fun (W : World) (s : Sub w W) (v : Bool) (h : validC e.past = v) => valid_v (hr.sub s) h)
  have hn := hr.1
  have HN := Lib.hid hr.1
  have HN5 := Lib.hid (show n ≤ 5 by have := (valid_facts h1).2.1; omega)
  have hw1 : IntKind.i64.wrap ((n : Int) - 1) = (n : Int) - 1 := IntWalk.i64_in _ (by have := hr.2.1; have := hr.2.2.1; omega)
  have hb := h2
  simp only [btw, Bool.and_eq_true, decide_eq_true_eq] at hb
  obtain ⟨hb0, hb1⟩ := hb
  have hkl : e.replica.toNat < e.past.length := by omega
  obtain ⟨b, off, rfl, hc⟩ := hr.2.2.2 e.replica.toNat hkl
  have hc := ((Ext.refl w).alloc (.cells (e.cells (some ⟨b, off, none⟩) n c) 35)).cell hc
  have hrn : e.replica < (n : Int) := by omega
  have hv := (valid_facts h1).2.2 _ (List.getElem_mem hkl)
  have hv0 := hv.1
  have hv1 := hv.2
  have hw2 : IntKind.i64.wrap (e.past[e.replica.toNat] + 1) = e.past[e.replica.toNat] + 1 := IntWalk.i64_in _ (by omega)
  have hD : e.past.getD e.replica.toNat 0 = e.past[e.replica.toNat] := by rw [List.getD_eq_getElem?_getD, List.getElem?_eq_getElem hkl]; rfl
  rw [hD] at h3
  have h3' : (e.number != e.past[e.replica.toNat] + 1) = false := by simpa using h3
  have h4' : decide (1024 < e.number) = false := by simp; omega
  clear hv hn hr hb1 hD h3
  go_enter Tryz.func36, Tryz.ntmps36
  go_wp2
  go_quiet ((first | (go_at_call 16; exact quiet_left (CV.out _ (by repeat (first | exact Sub.refl _ | with_reducible assumption | refine Sub.drewN ?_ _ | refine Sub.drew ?_ | refine Sub.alloc ?_ _ | (refine Sub.trans ?_ (by with_reducible assumption)))) _ h1)) | (go_at_call 59; exact quiet_left (between_v (by assumption)))))
  go_wp2
  obtain ⟨wq, hwq⟩ : ∃ wq, wq = (w.alloc (.cells (e.cells (some ⟨b, off, none⟩) n c) 35)).drewN nq := ⟨_, rfl⟩
  have hx : Ext w wq := by rw [hwq]; exact (by repeat (first | exact Ext.refl _ | with_reducible assumption | refine Ext.drewN ?_ _ | refine Ext.drew ?_ | refine Ext.alloc ?_ _ | (refine Ext.trans ?_ (by with_reducible assumption))))
  have hsz : wq.heap.size = w.heap.size + 1 := by rw [hwq]; simp
  have q : ∀ i v, (w.alloc (.cells (e.cells (some ⟨b, off, none⟩) n c) 35)).cell? ⟨w.heap.size, i, none⟩ = some v → wq.cell? ⟨w.heap.size, i, none⟩ = some v := fun i v h => by rw [hwq]; exact h
  rw [← hwq]
  have q0 := q _ _ b0
  have q1 := q _ _ b1
  have q2 := q _ _ b2
  have q3 := q _ _ b3
  have q4 := q _ _ b4
  have q5 := q _ _ b5
  have q6 := q _ _ b6
  have q7 := q _ _ b7
  have q8 := q _ _ b8
  have q9 := q _ _ b9
  have q10 := q _ _ b10
  have q11 := q _ _ b11
  have q12 := q _ _ b12
  clear q b0 b1 b2 b3 b4 b5 b6 b7 b8 b9 b10 b11 b12 hwq hc hw1 hw2 h3' h4' hb0 hrn hv0 hv1
  have HSZ := Lib.hid hsz
  clear hsz
  by_cases k0 : e.kind = 0
  · have lk := look_forms ((wq.alloc (.cells (e.cells (some ⟨b, off, none⟩) n c) 35)).alloc (.map (formsMap wq.heap.size) 3)).drew (wq.heap.size + 1) wq.heap.size e.kind (.func (.func 78) #[] #[.pointer (some ⟨wq.heap.size, 0, none⟩)])
      (by have h := heap_alloc_new (wq.alloc (.cells (e.cells (some ⟨b, off, none⟩) n c) 35)) (.map (formsMap wq.heap.size) 3); rw [World.size_alloc] at h; exact h) (by rw [k0]; rfl)
    have K0 := Lib.hid k0
    clear k0
    go_region_held3 (fun w' => w'.cell? ⟨w.heap.size, 0, none⟩ = some (.int .i64 e.replica) ∧ w'.cell? ⟨w.heap.size, 1, none⟩ = some (.int .i64 e.number) ∧ w'.cell? ⟨w.heap.size, 2, none⟩ = some (.int .i64 e.time) ∧ w'.cell? ⟨w.heap.size, 3, none⟩ = some (.slice (some ⟨b, off, none⟩) n c) ∧ w'.cell? ⟨w.heap.size, 4, none⟩ = some (.int .i64 e.kind) ∧ w'.cell? ⟨w.heap.size, 5, none⟩ = some (.int .i64 e.action) ∧ w'.cell? ⟨w.heap.size, 6, none⟩ = some (.int .i64 e.gkind) ∧ w'.cell? ⟨w.heap.size, 7, none⟩ = some (.int .i64 e.gindex) ∧ w'.cell? ⟨w.heap.size, 8, none⟩ = some (.int .i64 e.gelement) ∧ w'.cell? ⟨w.heap.size, 9, none⟩ = some (.int .i64 e.gamount) ∧ w'.cell? ⟨w.heap.size, 10, none⟩ = some (.int .i64 e.to) ∧ w'.cell? ⟨w.heap.size, 11, none⟩ = some (.int .i64 e.place) ∧ w'.cell? ⟨w.heap.size, 12, none⟩ = some (.int .i64 e.serial)) (first | go_keep) (first | (go_at_call 60; refine (forms_any e (some ⟨b, off, none⟩) n c _).mono ?_; rintro en w' ⟨rfl, rfl⟩))
    obtain ⟨wz, hwz⟩ : ∃ wz, wz = ((wq.alloc (.cells (e.cells (some ⟨b, off, none⟩) n c) 35)).alloc (.map (formsMap wq.heap.size) 3)).drew := ⟨_, rfl⟩
    have hxz : Ext wq wz := by rw [hwz]; exact (by repeat (first | exact Ext.refl _ | with_reducible assumption | refine Ext.drewN ?_ _ | refine Ext.drew ?_ | refine Ext.alloc ?_ _ | (refine Ext.trans ?_ (by with_reducible assumption))))
    have hez : EvAt wz wq.heap.size e (some ⟨b, off, none⟩) n c := by
      rw [hwz]
      exact (Below.heap_alloc _ _ _ (by simp)).trans (heap_alloc_new wq _)
    have hzs : wq.heap.size < wz.heap.size := by rw [hwz]; simp; omega
    have z5 := hxz.cell q5
    have z6 := hxz.cell q6
    have z7 := hxz.cell q7
    have z8 := hxz.cell q8
    have z9 := hxz.cell q9
    have z10 := hxz.cell q10
    have z11 := hxz.cell q11
    have z12 := hxz.cell q12
    have hx := hx.trans hxz
    rw [← hwz]
    clear hwz lk q0 q1 q2 q3 q4 q5 q6 q7 q8 q9 q10 q11 q12 CV
    go_wp2_with fail
    refine (form1_any wz.heap.size wq.heap.size e { zeroEv with action := e.action, gkind := e.gkind, gindex := e.gindex, gelement := e.gelement, gamount := e.gamount, to := e.to, place := e.place, serial := e.serial } (some ⟨b, off, none⟩) none n c 0 0 _ (heap_alloc_new wz _) (hez.alloc _) (by omega)).mono ?_
    rintro en w2 ⟨rfl, hT⟩
    have hx2 : Ext w w2 := (hx.alloc _).grown hT.grown (fun k hk => by cases hk; exact hx.size)
    cases hf : form1 e with
    | false =>
      have F := Lib.hid (show formOf e = false by unfold formOf; rw [if_pos K0.out, hf]; rfl)
      go_wp2
      go_ret
      exact ⟨ret_bool F.out.symm, hx2⟩
    | true =>
      have F := Lib.hid (show formOf e = decide (({ zeroEv with gkind := e.gkind, gindex := e.gindex, gelement := e.gelement, gamount := e.gamount, to := e.to } : Ev) = zeroEv) by unfold formOf; rw [if_pos K0.out, hf]; rfl)
      have hnow := hT.now
      have y0 : w2.cell? ⟨wz.heap.size, 0, none⟩ = some (.int .i64 0) := block_cell hnow 0
      have y1 : w2.cell? ⟨wz.heap.size, 1, none⟩ = some (.int .i64 0) := block_cell hnow 1
      have y2 : w2.cell? ⟨wz.heap.size, 2, none⟩ = some (.int .i64 0) := block_cell hnow 2
      have y3 : w2.cell? ⟨wz.heap.size, 3, none⟩ = some (.slice none 0 0) := block_cell hnow 3
      have y4 : w2.cell? ⟨wz.heap.size, 4, none⟩ = some (.int .i64 0) := block_cell hnow 4
      have y5 : w2.cell? ⟨wz.heap.size, 5, none⟩ = some (.int .i64 0) := block_cell hnow 5
      have y6 : w2.cell? ⟨wz.heap.size, 6, none⟩ = some (.int .i64 e.gkind) := block_cell hnow 6
      have y7 : w2.cell? ⟨wz.heap.size, 7, none⟩ = some (.int .i64 e.gindex) := block_cell hnow 7
      have y8 : w2.cell? ⟨wz.heap.size, 8, none⟩ = some (.int .i64 e.gelement) := block_cell hnow 8
      have y9 : w2.cell? ⟨wz.heap.size, 9, none⟩ = some (.int .i64 e.gamount) := block_cell hnow 9
      have y10 : w2.cell? ⟨wz.heap.size, 10, none⟩ = some (.int .i64 e.to) := block_cell hnow 10
      have y11 : w2.cell? ⟨wz.heap.size, 11, none⟩ = some (.int .i64 0) := block_cell hnow 11
      have y12 : w2.cell? ⟨wz.heap.size, 12, none⟩ = some (.int .i64 0) := block_cell hnow 12
      clear hT hnow z5 z6 z7 z8 z9 z10 z11 z12 hez
      go_wp2_with fail
      refine (equal_any { zeroEv with gkind := e.gkind, gindex := e.gindex, gelement := e.gelement, gamount := e.gamount, to := e.to } zeroEv none none 0 0 0 0 _ (Ints.nil _ _ _ (by omega)) (Ints.nil _ _ _ (by omega))).mono ?_
      rintro en w3 ⟨rfl, hx3⟩
      go_wp2
      go_ret
      exact ⟨ret_bool F.out.symm, hx2.trans hx3⟩
  · by_cases k1 : e.kind = 1
    · have lk := look_forms ((wq.alloc (.cells (e.cells (some ⟨b, off, none⟩) n c) 35)).alloc (.map (formsMap wq.heap.size) 3)).drew (wq.heap.size + 1) wq.heap.size e.kind (.func (.func 79) #[] #[.pointer (some ⟨wq.heap.size, 0, none⟩)])
        (by have h := heap_alloc_new (wq.alloc (.cells (e.cells (some ⟨b, off, none⟩) n c) 35)) (.map (formsMap wq.heap.size) 3); rw [World.size_alloc] at h; exact h) (by rw [k1]; rfl)
      have K1 := Lib.hid k1
      clear k1
      go_region_held3 (fun w' => w'.cell? ⟨w.heap.size, 0, none⟩ = some (.int .i64 e.replica) ∧ w'.cell? ⟨w.heap.size, 1, none⟩ = some (.int .i64 e.number) ∧ w'.cell? ⟨w.heap.size, 2, none⟩ = some (.int .i64 e.time) ∧ w'.cell? ⟨w.heap.size, 3, none⟩ = some (.slice (some ⟨b, off, none⟩) n c) ∧ w'.cell? ⟨w.heap.size, 4, none⟩ = some (.int .i64 e.kind) ∧ w'.cell? ⟨w.heap.size, 5, none⟩ = some (.int .i64 e.action) ∧ w'.cell? ⟨w.heap.size, 6, none⟩ = some (.int .i64 e.gkind) ∧ w'.cell? ⟨w.heap.size, 7, none⟩ = some (.int .i64 e.gindex) ∧ w'.cell? ⟨w.heap.size, 8, none⟩ = some (.int .i64 e.gelement) ∧ w'.cell? ⟨w.heap.size, 9, none⟩ = some (.int .i64 e.gamount) ∧ w'.cell? ⟨w.heap.size, 10, none⟩ = some (.int .i64 e.to) ∧ w'.cell? ⟨w.heap.size, 11, none⟩ = some (.int .i64 e.place) ∧ w'.cell? ⟨w.heap.size, 12, none⟩ = some (.int .i64 e.serial)) (first | go_keep) (first | (go_at_call 60; refine (forms_any e (some ⟨b, off, none⟩) n c _).mono ?_; rintro en w' ⟨rfl, rfl⟩))
      obtain ⟨wz, hwz⟩ : ∃ wz, wz = ((wq.alloc (.cells (e.cells (some ⟨b, off, none⟩) n c) 35)).alloc (.map (formsMap wq.heap.size) 3)).drew := ⟨_, rfl⟩
      have hxz : Ext wq wz := by rw [hwz]; exact (by repeat (first | exact Ext.refl _ | with_reducible assumption | refine Ext.drewN ?_ _ | refine Ext.drew ?_ | refine Ext.alloc ?_ _ | (refine Ext.trans ?_ (by with_reducible assumption))))
      have hez : EvAt wz wq.heap.size e (some ⟨b, off, none⟩) n c := by
        rw [hwz]
        exact (Below.heap_alloc _ _ _ (by simp)).trans (heap_alloc_new wq _)
      have hzs : wq.heap.size < wz.heap.size := by rw [hwz]; simp; omega
      have z5 := hxz.cell q5
      have z6 := hxz.cell q6
      have z7 := hxz.cell q7
      have z8 := hxz.cell q8
      have z9 := hxz.cell q9
      have z10 := hxz.cell q10
      have z11 := hxz.cell q11
      have z12 := hxz.cell q12
      have hx := hx.trans hxz
      rw [← hwz]
      clear hwz lk q0 q1 q2 q3 q4 q5 q6 q7 q8 q9 q10 q11 q12 CV
      go_wp2_with fail
      refine (form2_any wz.heap.size wq.heap.size e { zeroEv with action := e.action, gkind := e.gkind, gindex := e.gindex, gelement := e.gelement, gamount := e.gamount, to := e.to, place := e.place, serial := e.serial } (some ⟨b, off, none⟩) none n c 0 0 _ (heap_alloc_new wz _) (hez.alloc _) (by omega) HN.out HN5.out).mono ?_
      rintro en w2 ⟨rfl, hT⟩
      have hx2 : Ext w w2 := (hx.alloc _).grown hT.grown (fun k hk => by cases hk; exact hx.size)
      cases hf : form2 e with
      | false =>
        have F := Lib.hid (show formOf e = false by unfold formOf; rw [if_neg k0, if_pos K1.out, hf]; rfl)
        go_wp2
        go_ret
        exact ⟨ret_bool F.out.symm, hx2⟩
      | true =>
        have F := Lib.hid (show formOf e = decide (({ zeroEv with action := e.action, place := e.place, serial := e.serial } : Ev) = zeroEv) by unfold formOf; rw [if_neg k0, if_pos K1.out, hf]; rfl)
        have hnow := hT.now
        have y0 : w2.cell? ⟨wz.heap.size, 0, none⟩ = some (.int .i64 0) := block_cell hnow 0
        have y1 : w2.cell? ⟨wz.heap.size, 1, none⟩ = some (.int .i64 0) := block_cell hnow 1
        have y2 : w2.cell? ⟨wz.heap.size, 2, none⟩ = some (.int .i64 0) := block_cell hnow 2
        have y3 : w2.cell? ⟨wz.heap.size, 3, none⟩ = some (.slice none 0 0) := block_cell hnow 3
        have y4 : w2.cell? ⟨wz.heap.size, 4, none⟩ = some (.int .i64 0) := block_cell hnow 4
        have y5 : w2.cell? ⟨wz.heap.size, 5, none⟩ = some (.int .i64 e.action) := block_cell hnow 5
        have y6 : w2.cell? ⟨wz.heap.size, 6, none⟩ = some (.int .i64 0) := block_cell hnow 6
        have y7 : w2.cell? ⟨wz.heap.size, 7, none⟩ = some (.int .i64 0) := block_cell hnow 7
        have y8 : w2.cell? ⟨wz.heap.size, 8, none⟩ = some (.int .i64 0) := block_cell hnow 8
        have y9 : w2.cell? ⟨wz.heap.size, 9, none⟩ = some (.int .i64 0) := block_cell hnow 9
        have y10 : w2.cell? ⟨wz.heap.size, 10, none⟩ = some (.int .i64 0) := block_cell hnow 10
        have y11 : w2.cell? ⟨wz.heap.size, 11, none⟩ = some (.int .i64 e.place) := block_cell hnow 11
        have y12 : w2.cell? ⟨wz.heap.size, 12, none⟩ = some (.int .i64 e.serial) := block_cell hnow 12
        clear hT hnow z5 z6 z7 z8 z9 z10 z11 z12 hez
        go_wp2_with fail
        refine (equal_any { zeroEv with action := e.action, place := e.place, serial := e.serial } zeroEv none none 0 0 0 0 _ (Ints.nil _ _ _ (by omega)) (Ints.nil _ _ _ (by omega))).mono ?_
        rintro en w3 ⟨rfl, hx3⟩
        go_wp2
        go_ret
        exact ⟨ret_bool F.out.symm, hx2.trans hx3⟩
    · by_cases k2 : e.kind = 2
      · have lk := look_forms ((wq.alloc (.cells (e.cells (some ⟨b, off, none⟩) n c) 35)).alloc (.map (formsMap wq.heap.size) 3)).drew (wq.heap.size + 1) wq.heap.size e.kind (.func (.func 80) #[] #[.pointer (some ⟨wq.heap.size, 0, none⟩)])
          (by have h := heap_alloc_new (wq.alloc (.cells (e.cells (some ⟨b, off, none⟩) n c) 35)) (.map (formsMap wq.heap.size) 3); rw [World.size_alloc] at h; exact h) (by rw [k2]; rfl)
        have K2 := Lib.hid k2
        clear k2
        go_region_held3 (fun w' => w'.cell? ⟨w.heap.size, 0, none⟩ = some (.int .i64 e.replica) ∧ w'.cell? ⟨w.heap.size, 1, none⟩ = some (.int .i64 e.number) ∧ w'.cell? ⟨w.heap.size, 2, none⟩ = some (.int .i64 e.time) ∧ w'.cell? ⟨w.heap.size, 3, none⟩ = some (.slice (some ⟨b, off, none⟩) n c) ∧ w'.cell? ⟨w.heap.size, 4, none⟩ = some (.int .i64 e.kind) ∧ w'.cell? ⟨w.heap.size, 5, none⟩ = some (.int .i64 e.action) ∧ w'.cell? ⟨w.heap.size, 6, none⟩ = some (.int .i64 e.gkind) ∧ w'.cell? ⟨w.heap.size, 7, none⟩ = some (.int .i64 e.gindex) ∧ w'.cell? ⟨w.heap.size, 8, none⟩ = some (.int .i64 e.gelement) ∧ w'.cell? ⟨w.heap.size, 9, none⟩ = some (.int .i64 e.gamount) ∧ w'.cell? ⟨w.heap.size, 10, none⟩ = some (.int .i64 e.to) ∧ w'.cell? ⟨w.heap.size, 11, none⟩ = some (.int .i64 e.place) ∧ w'.cell? ⟨w.heap.size, 12, none⟩ = some (.int .i64 e.serial)) (first | go_keep) (first | (go_at_call 60; refine (forms_any e (some ⟨b, off, none⟩) n c _).mono ?_; rintro en w' ⟨rfl, rfl⟩))
        obtain ⟨wz, hwz⟩ : ∃ wz, wz = ((wq.alloc (.cells (e.cells (some ⟨b, off, none⟩) n c) 35)).alloc (.map (formsMap wq.heap.size) 3)).drew := ⟨_, rfl⟩
        have hxz : Ext wq wz := by rw [hwz]; exact (by repeat (first | exact Ext.refl _ | with_reducible assumption | refine Ext.drewN ?_ _ | refine Ext.drew ?_ | refine Ext.alloc ?_ _ | (refine Ext.trans ?_ (by with_reducible assumption))))
        have hez : EvAt wz wq.heap.size e (some ⟨b, off, none⟩) n c := by
          rw [hwz]
          exact (Below.heap_alloc _ _ _ (by simp)).trans (heap_alloc_new wq _)
        have hzs : wq.heap.size < wz.heap.size := by rw [hwz]; simp; omega
        have z5 := hxz.cell q5
        have z6 := hxz.cell q6
        have z7 := hxz.cell q7
        have z8 := hxz.cell q8
        have z9 := hxz.cell q9
        have z10 := hxz.cell q10
        have z11 := hxz.cell q11
        have z12 := hxz.cell q12
        have hx := hx.trans hxz
        rw [← hwz]
        clear hwz lk q0 q1 q2 q3 q4 q5 q6 q7 q8 q9 q10 q11 q12 CV
        go_wp2_with fail
        refine (form3_any wz.heap.size wq.heap.size e { zeroEv with action := e.action, gkind := e.gkind, gindex := e.gindex, gelement := e.gelement, gamount := e.gamount, to := e.to, place := e.place, serial := e.serial } (some ⟨b, off, none⟩) none n c 0 0 _ (heap_alloc_new wz _) (hez.alloc _) (by omega)).mono ?_
        rintro en w2 ⟨rfl, hT⟩
        have hx2 : Ext w w2 := (hx.alloc _).grown hT.grown (fun k hk => by cases hk; exact hx.size)
        cases hf : form3 e with
        | false =>
          have F := Lib.hid (show formOf e = false by unfold formOf; rw [if_neg k0, if_neg k1, if_pos K2.out, hf]; rfl)
          go_wp2
          go_ret
          exact ⟨ret_bool F.out.symm, hx2⟩
        | true =>
          have F := Lib.hid (show formOf e = decide (({ zeroEv with action := e.action, gkind := e.gkind, gindex := e.gindex, gelement := e.gelement, gamount := e.gamount, to := e.to } : Ev) = zeroEv) by unfold formOf; rw [if_neg k0, if_neg k1, if_pos K2.out, hf]; rfl)
          have hnow := hT.now
          have y0 : w2.cell? ⟨wz.heap.size, 0, none⟩ = some (.int .i64 0) := block_cell hnow 0
          have y1 : w2.cell? ⟨wz.heap.size, 1, none⟩ = some (.int .i64 0) := block_cell hnow 1
          have y2 : w2.cell? ⟨wz.heap.size, 2, none⟩ = some (.int .i64 0) := block_cell hnow 2
          have y3 : w2.cell? ⟨wz.heap.size, 3, none⟩ = some (.slice none 0 0) := block_cell hnow 3
          have y4 : w2.cell? ⟨wz.heap.size, 4, none⟩ = some (.int .i64 0) := block_cell hnow 4
          have y5 : w2.cell? ⟨wz.heap.size, 5, none⟩ = some (.int .i64 e.action) := block_cell hnow 5
          have y6 : w2.cell? ⟨wz.heap.size, 6, none⟩ = some (.int .i64 e.gkind) := block_cell hnow 6
          have y7 : w2.cell? ⟨wz.heap.size, 7, none⟩ = some (.int .i64 e.gindex) := block_cell hnow 7
          have y8 : w2.cell? ⟨wz.heap.size, 8, none⟩ = some (.int .i64 e.gelement) := block_cell hnow 8
          have y9 : w2.cell? ⟨wz.heap.size, 9, none⟩ = some (.int .i64 e.gamount) := block_cell hnow 9
          have y10 : w2.cell? ⟨wz.heap.size, 10, none⟩ = some (.int .i64 e.to) := block_cell hnow 10
          have y11 : w2.cell? ⟨wz.heap.size, 11, none⟩ = some (.int .i64 0) := block_cell hnow 11
          have y12 : w2.cell? ⟨wz.heap.size, 12, none⟩ = some (.int .i64 0) := block_cell hnow 12
          clear hT hnow z5 z6 z7 z8 z9 z10 z11 z12 hez
          go_wp2_with fail
          refine (equal_any { zeroEv with action := e.action, gkind := e.gkind, gindex := e.gindex, gelement := e.gelement, gamount := e.gamount, to := e.to } zeroEv none none 0 0 0 0 _ (Ints.nil _ _ _ (by omega)) (Ints.nil _ _ _ (by omega))).mono ?_
          rintro en w3 ⟨rfl, hx3⟩
          go_wp2
          go_ret
          exact ⟨ret_bool F.out.symm, hx2.trans hx3⟩
      · have lk := look_none ((wq.alloc (.cells (e.cells (some ⟨b, off, none⟩) n c) 35)).alloc (.map (formsMap wq.heap.size) 3)).drew (wq.heap.size + 1) wq.heap.size e.kind
          (by have h := heap_alloc_new (wq.alloc (.cells (e.cells (some ⟨b, off, none⟩) n c) 35)) (.map (formsMap wq.heap.size) 3); rw [World.size_alloc] at h; exact h)
          (forms_none _ _ k0 k1 k2)
        have F := Lib.hid (show formOf e = false by unfold formOf; rw [if_neg k0, if_neg k1, if_neg k2])
        clear k0 k1 k2
        go_region_held3 (fun w' => w'.cell? ⟨w.heap.size, 0, none⟩ = some (.int .i64 e.replica) ∧ w'.cell? ⟨w.heap.size, 1, none⟩ = some (.int .i64 e.number) ∧ w'.cell? ⟨w.heap.size, 2, none⟩ = some (.int .i64 e.time) ∧ w'.cell? ⟨w.heap.size, 3, none⟩ = some (.slice (some ⟨b, off, none⟩) n c) ∧ w'.cell? ⟨w.heap.size, 4, none⟩ = some (.int .i64 e.kind) ∧ w'.cell? ⟨w.heap.size, 5, none⟩ = some (.int .i64 e.action) ∧ w'.cell? ⟨w.heap.size, 6, none⟩ = some (.int .i64 e.gkind) ∧ w'.cell? ⟨w.heap.size, 7, none⟩ = some (.int .i64 e.gindex) ∧ w'.cell? ⟨w.heap.size, 8, none⟩ = some (.int .i64 e.gelement) ∧ w'.cell? ⟨w.heap.size, 9, none⟩ = some (.int .i64 e.gamount) ∧ w'.cell? ⟨w.heap.size, 10, none⟩ = some (.int .i64 e.to) ∧ w'.cell? ⟨w.heap.size, 11, none⟩ = some (.int .i64 e.place) ∧ w'.cell? ⟨w.heap.size, 12, none⟩ = some (.int .i64 e.serial)) (first | go_keep) (first | (go_at_call 60; refine (forms_any e (some ⟨b, off, none⟩) n c _).mono ?_; rintro en w' ⟨rfl, rfl⟩))
        go_wp2
        go_ret
        exact ⟨ret_bool F.out.symm, (by repeat (first | exact Ext.refl _ | with_reducible assumption | refine Ext.drewN ?_ _ | refine Ext.drew ?_ | refine Ext.alloc ?_ _ | (refine Ext.trans ?_ (by with_reducible assumption))))⟩

theorem formed_any (e : Ev) (A : Option Addr) (n c : Nat) (w : World) (hr : Ints w A n c e.past) :
    Calls Tryz.prog 36 #[.agg (e.cells A n c)] w fun en w' => en = .returned (.bool (formedC e)) ∧ Ext w w' := by
  have hn := hr.1
  by_cases h1 : validC e.past = true
  · by_cases h2 : btw e.replica 0 (n - 1) = true
    · by_cases h3 : e.number = e.past.getD e.replica.toNat 0 + 1
      · by_cases h4 : e.number ≤ 1024
        · by_cases h5 : btw e.time 1 1073741824 = true
          · refine (formed_yes e A n c w hr h1 h2 h3 h4 h5).mono ?_
            rintro en w' ⟨rfl, hx⟩
            refine ⟨ret_bool ?_, hx⟩
            unfold formedC; rw [h1, hn, h2, decide_eq_true h3, decide_eq_true h4, h5]; simp
          · have h5' : btw e.time 1 1073741824 = false := by simpa using h5
            refine (formed_no e A n c w hr (.inr ⟨h1, .inr ⟨h2, .inr ⟨h3, .inr ⟨h4, h5'⟩⟩⟩⟩)).mono ?_
            rintro en w' ⟨rfl, hx⟩
            refine ⟨ret_bool ?_, hx⟩
            unfold formedC; rw [h5']; simp
        · refine (formed_no e A n c w hr (.inr ⟨h1, .inr ⟨h2, .inr ⟨h3, .inl h4⟩⟩⟩)).mono ?_
          rintro en w' ⟨rfl, hx⟩
          refine ⟨ret_bool ?_, hx⟩
          unfold formedC; rw [decide_eq_false h4]; simp
      · refine (formed_no e A n c w hr (.inr ⟨h1, .inr ⟨h2, .inl h3⟩⟩)).mono ?_
        rintro en w' ⟨rfl, hx⟩
        refine ⟨ret_bool ?_, hx⟩
        unfold formedC; rw [decide_eq_false h3]; simp
    · have h2' : btw e.replica 0 (n - 1) = false := by simpa using h2
      refine (formed_no e A n c w hr (.inr ⟨h1, .inl h2'⟩)).mono ?_
      rintro en w' ⟨rfl, hx⟩
      refine ⟨ret_bool ?_, hx⟩
      unfold formedC; rw [hn, h2']; simp
  · have h1' : validC e.past = false := by simpa using h1
    refine (formed_no e A n c w hr (.inl h1')).mono ?_
    rintro en w' ⟨rfl, hx⟩
    refine ⟨ret_bool ?_, hx⟩
    unfold formedC; rw [h1']; simp
end Go.Proofs.YtolbcmniklbnmaaGreatDoor
