/- The walks of slices.Equal at []int and event.equal. -/
import Derived.Test.YtolbcmniklbnmaaGreatDoorEventA
namespace Go.Proofs.YtolbcmniklbnmaaGreatDoor
open Go Go.RowKit Go.Deep

theorem equal_ints (A B : Option Addr) (n m c d : Nat) (a b : List Int) (w : World) (ha : Ints w A n c a) (hb : Ints w B m d b) :
    Calls Tryz.prog 81 #[.slice A n c, .slice B m d] w fun e w' => e = .returned (.bool (decide (a = b))) ∧ ∃ k, w' = w.drewN k := by
  obtain ⟨rfl, h1c, h2c, ha⟩ := ha
  obtain ⟨rfl, h1d, h2d, hb⟩ := hb
  by_cases hlen : a.length = b.length
  · have hl1 : ((a.length : Int) == (b.length : Int)) = true := by rw [hlen]; simp
    have hl2 : ((a.length : Int) != (b.length : Int)) = false := by rw [hlen]; simp
    have HL := Lib.hid hlen
    clear hlen
    go_enter Tryz.func81, Tryz.ntmps81
    go_wp2
    go_loopw [13] (fun i wr => ∃ k m : Nat, k ≤ a.length ∧ i = .int .i64 k ∧ wr = w.drewN m ∧ a.take k = b.take k) (fun i _ => a.length - (intOf i).toNat)
    case atStart => exact ⟨0, 0, Nat.zero_le _, rfl, rfl, by simp⟩
    case round =>
      obtain ⟨k, m, hk, rfl, rfl, hall⟩ := hrel
      have H := Lib.hid hall
      clear hall
      by_cases hlt : k < a.length
      · have hltb : k < b.length := by rw [← HL.out]; exact hlt
        obtain ⟨b1, off1, rfl, hc1⟩ := ha k hlt
        obtain ⟨b2, off2, rfl, hc2⟩ := hb k hltb
        clear ha hb
        have hkk : (k : Int) < a.length := by omega
        have hkb : (k : Int) < b.length := by omega
        by_cases hle : a[k] = b[k]
        · have t1 : (a[k] == b[k]) = true := by simpa using hle
          have t2 : (a[k] != b[k]) = false := by simpa using hle
          have F := Lib.hid (show a.take (k + 1) = b.take (k + 1) by rw [List.take_succ_eq_append_getElem hlt, List.take_succ_eq_append_getElem hltb, H.out, hle])
          clear hle
          go_wp2
          go_quiet (fail)
          go_wp2
          go_roundw
          case rel => exact ⟨k + 1, _, by omega, by go_num, rfl, F.out⟩
          case measure => simp [intOf]; omega
        · have t1 : (a[k] == b[k]) = false := by simpa using hle
          have t2 : (a[k] != b[k]) = true := by simpa using hle
          have F := Lib.hid (show decide (a = b) = false by
            rw [decide_eq_false_iff_not]
            intro e
            subst e
            exact hle rfl)
          clear hle
          go_wp2
          go_quiet (fail)
          go_wp2
          go_ret
          exact ⟨ret_bool F.out.symm, _, World.drewN_drewN _ _ _⟩
      · have F := Lib.hid (show decide (a = b) = true by
          have h := H.out
          rw [List.take_of_length_le (by omega), List.take_of_length_le (by rw [← HL.out]; omega)] at h
          simpa using h)
        go_wp2
        go_ret
        exact ⟨ret_bool F.out.symm, _, rfl⟩
  · have hl1 : ((a.length : Int) == (b.length : Int)) = false := by simp; omega
    have hl2 : ((a.length : Int) != (b.length : Int)) = true := by simp; omega
    have F := Lib.hid (show decide (a = b) = false by
      rw [decide_eq_false_iff_not]
      intro e
      subst e
      exact hlen rfl)
    clear hlen
    go_enter Tryz.func81, Tryz.ntmps81
    go_wp2
    go_ret
    exact ⟨ret_bool F.out.symm, 0, rfl⟩

/-- Two events that agree in each field are one. -/
theorem Ev.ext_of {a b : Ev} (h1 : a.replica = b.replica) (h2 : a.number = b.number) (h3 : a.time = b.time) (h4 : a.past = b.past) (h5 : a.kind = b.kind) (h6 : a.action = b.action) (g1 : a.gkind = b.gkind) (g2 : a.gindex = b.gindex) (g3 : a.gelement = b.gelement) (g4 : a.gamount = b.gamount) (h8 : a.to = b.to) (h9 : a.place = b.place) (h10 : a.serial = b.serial) : a = b := by
  cases a; cases b; simp_all

theorem no_of {α : Type} {a b : Ev} (f : Ev → α) (h : ¬ f a = f b) : false = decide (a = b) := by
  symm; rw [decide_eq_false_iff_not]; rintro rfl; exact h rfl
theorem last_of {a b : Ev} (h1 : a.replica = b.replica) (h2 : a.number = b.number) (h3 : a.time = b.time) (h4 : a.past = b.past) (h5 : a.kind = b.kind) (h6 : a.action = b.action) (g1 : a.gkind = b.gkind) (g2 : a.gindex = b.gindex) (g3 : a.gelement = b.gelement) (g4 : a.gamount = b.gamount) (h8 : a.to = b.to) (h9 : a.place = b.place) : (a.serial == b.serial) = decide (a = b) := by
  by_cases h : a.serial = b.serial
  · rw [Ev.ext_of h1 h2 h3 h4 h5 h6 g1 g2 g3 g4 h8 h9 h]; simp
  · have : a ≠ b := by rintro rfl; exact h rfl
    simp [h, this]

set_option maxRecDepth 100000 in
set_option maxHeartbeats 4000000 in
theorem equal_any (a b : Ev) (A B : Option Addr) (n c m d : Nat) (w : World) (ha : Ints w A n c a.past) (hb : Ints w B m d b.past) :
    Calls Tryz.prog 61 #[.agg (a.cells A n c), .agg (b.cells B m d)] w fun e w' => e = .returned (.bool (decide (a = b))) ∧ Ext w w' := by
  have box_a : ∀ (w : World) (i : Nat) (v : Value), (a.cells A n c)[i]? = some v → ((w.alloc (.cells (a.cells A n c) 35)).alloc (.cells (b.cells B m d) 35)).cell? ⟨w.heap.size, i, none⟩ = some v := fun w i v h => ((Ext.refl _).alloc _).cell ((cell_new w _ _ i).trans h)
  have box_b : ∀ (w : World) (i : Nat) (v : Value), (b.cells B m d)[i]? = some v → ((w.alloc (.cells (a.cells A n c) 35)).alloc (.cells (b.cells B m d) 35)).cell? ⟨w.heap.size + 1, i, none⟩ = some v := fun w i v h => by
    have hh := cell_new (w.alloc (.cells (a.cells A n c) 35)) (b.cells B m d) 35 i
    rw [World.size_alloc] at hh
    exact hh.trans h
  have a0 : ((w.alloc (.cells (a.cells A n c) 35)).alloc (.cells (b.cells B m d) 35)).cell? ⟨w.heap.size, 0, none⟩ = some (.int .i64 a.replica) := box_a _ 0 _ rfl
  have b0 : ((w.alloc (.cells (a.cells A n c) 35)).alloc (.cells (b.cells B m d) 35)).cell? ⟨w.heap.size + 1, 0, none⟩ = some (.int .i64 b.replica) := box_b _ 0 _ rfl
  have a1 : ((w.alloc (.cells (a.cells A n c) 35)).alloc (.cells (b.cells B m d) 35)).cell? ⟨w.heap.size, 1, none⟩ = some (.int .i64 a.number) := box_a _ 1 _ rfl
  have b1 : ((w.alloc (.cells (a.cells A n c) 35)).alloc (.cells (b.cells B m d) 35)).cell? ⟨w.heap.size + 1, 1, none⟩ = some (.int .i64 b.number) := box_b _ 1 _ rfl
  have a2 : ((w.alloc (.cells (a.cells A n c) 35)).alloc (.cells (b.cells B m d) 35)).cell? ⟨w.heap.size, 2, none⟩ = some (.int .i64 a.time) := box_a _ 2 _ rfl
  have b2 : ((w.alloc (.cells (a.cells A n c) 35)).alloc (.cells (b.cells B m d) 35)).cell? ⟨w.heap.size + 1, 2, none⟩ = some (.int .i64 b.time) := box_b _ 2 _ rfl
  have a3 : ((w.alloc (.cells (a.cells A n c) 35)).alloc (.cells (b.cells B m d) 35)).cell? ⟨w.heap.size, 3, none⟩ = some (.slice A n c) := box_a _ 3 _ rfl
  have b3 : ((w.alloc (.cells (a.cells A n c) 35)).alloc (.cells (b.cells B m d) 35)).cell? ⟨w.heap.size + 1, 3, none⟩ = some (.slice B m d) := box_b _ 3 _ rfl
  have a4 : ((w.alloc (.cells (a.cells A n c) 35)).alloc (.cells (b.cells B m d) 35)).cell? ⟨w.heap.size, 4, none⟩ = some (.int .i64 a.kind) := box_a _ 4 _ rfl
  have b4 : ((w.alloc (.cells (a.cells A n c) 35)).alloc (.cells (b.cells B m d) 35)).cell? ⟨w.heap.size + 1, 4, none⟩ = some (.int .i64 b.kind) := box_b _ 4 _ rfl
  have a5 : ((w.alloc (.cells (a.cells A n c) 35)).alloc (.cells (b.cells B m d) 35)).cell? ⟨w.heap.size, 5, none⟩ = some (.int .i64 a.action) := box_a _ 5 _ rfl
  have b5 : ((w.alloc (.cells (a.cells A n c) 35)).alloc (.cells (b.cells B m d) 35)).cell? ⟨w.heap.size + 1, 5, none⟩ = some (.int .i64 b.action) := box_b _ 5 _ rfl
  have a6 : ((w.alloc (.cells (a.cells A n c) 35)).alloc (.cells (b.cells B m d) 35)).cell? ⟨w.heap.size, 6, none⟩ = some (.int .i64 a.gkind) := box_a _ 6 _ rfl
  have b6 : ((w.alloc (.cells (a.cells A n c) 35)).alloc (.cells (b.cells B m d) 35)).cell? ⟨w.heap.size + 1, 6, none⟩ = some (.int .i64 b.gkind) := box_b _ 6 _ rfl
  have a7 : ((w.alloc (.cells (a.cells A n c) 35)).alloc (.cells (b.cells B m d) 35)).cell? ⟨w.heap.size, 7, none⟩ = some (.int .i64 a.gindex) := box_a _ 7 _ rfl
  have b7 : ((w.alloc (.cells (a.cells A n c) 35)).alloc (.cells (b.cells B m d) 35)).cell? ⟨w.heap.size + 1, 7, none⟩ = some (.int .i64 b.gindex) := box_b _ 7 _ rfl
  have a8 : ((w.alloc (.cells (a.cells A n c) 35)).alloc (.cells (b.cells B m d) 35)).cell? ⟨w.heap.size, 8, none⟩ = some (.int .i64 a.gelement) := box_a _ 8 _ rfl
  have b8 : ((w.alloc (.cells (a.cells A n c) 35)).alloc (.cells (b.cells B m d) 35)).cell? ⟨w.heap.size + 1, 8, none⟩ = some (.int .i64 b.gelement) := box_b _ 8 _ rfl
  have a9 : ((w.alloc (.cells (a.cells A n c) 35)).alloc (.cells (b.cells B m d) 35)).cell? ⟨w.heap.size, 9, none⟩ = some (.int .i64 a.gamount) := box_a _ 9 _ rfl
  have b9 : ((w.alloc (.cells (a.cells A n c) 35)).alloc (.cells (b.cells B m d) 35)).cell? ⟨w.heap.size + 1, 9, none⟩ = some (.int .i64 b.gamount) := box_b _ 9 _ rfl
  have a10 : ((w.alloc (.cells (a.cells A n c) 35)).alloc (.cells (b.cells B m d) 35)).cell? ⟨w.heap.size, 10, none⟩ = some (.int .i64 a.to) := box_a _ 10 _ rfl
  have b10 : ((w.alloc (.cells (a.cells A n c) 35)).alloc (.cells (b.cells B m d) 35)).cell? ⟨w.heap.size + 1, 10, none⟩ = some (.int .i64 b.to) := box_b _ 10 _ rfl
  have a11 : ((w.alloc (.cells (a.cells A n c) 35)).alloc (.cells (b.cells B m d) 35)).cell? ⟨w.heap.size, 11, none⟩ = some (.int .i64 a.place) := box_a _ 11 _ rfl
  have b11 : ((w.alloc (.cells (a.cells A n c) 35)).alloc (.cells (b.cells B m d) 35)).cell? ⟨w.heap.size + 1, 11, none⟩ = some (.int .i64 b.place) := box_b _ 11 _ rfl
  have a12 : ((w.alloc (.cells (a.cells A n c) 35)).alloc (.cells (b.cells B m d) 35)).cell? ⟨w.heap.size, 12, none⟩ = some (.int .i64 a.serial) := box_a _ 12 _ rfl
  have b12 : ((w.alloc (.cells (a.cells A n c) 35)).alloc (.cells (b.cells B m d) 35)).cell? ⟨w.heap.size + 1, 12, none⟩ = some (.int .i64 b.serial) := box_b _ 12 _ rfl
  clear box_a box_b
  have CE := Lib.hid (fun (W : World) (s : Sub w W) => equal_ints A B n m c d a.past b.past W (ha.sub s) (hb.sub s))
  clear ha hb
  go_enter Tryz.func61, Tryz.ntmps61
  go_wp2_with (go_at_call 81; refine (CE.out _ (by repeat (first | exact Sub.refl _ | with_reducible assumption | refine Sub.drewN ?_ _ | refine Sub.drew ?_ | refine Sub.alloc ?_ _ | (refine Sub.trans ?_ (by with_reducible assumption))))).mono ?_; rintro en w' ⟨rfl, kk, rfl⟩)
  all_goals go_ret
  all_goals first
    | exact ⟨ret_bool (no_of Ev.replica (by assumption)), (by repeat (first | exact Ext.refl _ | with_reducible assumption | refine Ext.drewN ?_ _ | refine Ext.drew ?_ | refine Ext.alloc ?_ _ | (refine Ext.trans ?_ (by with_reducible assumption))))⟩
    | exact ⟨ret_bool (no_of Ev.number (by assumption)), (by repeat (first | exact Ext.refl _ | with_reducible assumption | refine Ext.drewN ?_ _ | refine Ext.drew ?_ | refine Ext.alloc ?_ _ | (refine Ext.trans ?_ (by with_reducible assumption))))⟩
    | exact ⟨ret_bool (no_of Ev.time (by assumption)), (by repeat (first | exact Ext.refl _ | with_reducible assumption | refine Ext.drewN ?_ _ | refine Ext.drew ?_ | refine Ext.alloc ?_ _ | (refine Ext.trans ?_ (by with_reducible assumption))))⟩
    | exact ⟨ret_bool (no_of Ev.past (by assumption)), (by repeat (first | exact Ext.refl _ | with_reducible assumption | refine Ext.drewN ?_ _ | refine Ext.drew ?_ | refine Ext.alloc ?_ _ | (refine Ext.trans ?_ (by with_reducible assumption))))⟩
    | exact ⟨ret_bool (no_of Ev.kind (by assumption)), (by repeat (first | exact Ext.refl _ | with_reducible assumption | refine Ext.drewN ?_ _ | refine Ext.drew ?_ | refine Ext.alloc ?_ _ | (refine Ext.trans ?_ (by with_reducible assumption))))⟩
    | exact ⟨ret_bool (no_of Ev.action (by assumption)), (by repeat (first | exact Ext.refl _ | with_reducible assumption | refine Ext.drewN ?_ _ | refine Ext.drew ?_ | refine Ext.alloc ?_ _ | (refine Ext.trans ?_ (by with_reducible assumption))))⟩
    | exact ⟨ret_bool (no_of Ev.gkind (by assumption)), (by repeat (first | exact Ext.refl _ | with_reducible assumption | refine Ext.drewN ?_ _ | refine Ext.drew ?_ | refine Ext.alloc ?_ _ | (refine Ext.trans ?_ (by with_reducible assumption))))⟩
    | exact ⟨ret_bool (no_of Ev.gindex (by assumption)), (by repeat (first | exact Ext.refl _ | with_reducible assumption | refine Ext.drewN ?_ _ | refine Ext.drew ?_ | refine Ext.alloc ?_ _ | (refine Ext.trans ?_ (by with_reducible assumption))))⟩
    | exact ⟨ret_bool (no_of Ev.gelement (by assumption)), (by repeat (first | exact Ext.refl _ | with_reducible assumption | refine Ext.drewN ?_ _ | refine Ext.drew ?_ | refine Ext.alloc ?_ _ | (refine Ext.trans ?_ (by with_reducible assumption))))⟩
    | exact ⟨ret_bool (no_of Ev.gamount (by assumption)), (by repeat (first | exact Ext.refl _ | with_reducible assumption | refine Ext.drewN ?_ _ | refine Ext.drew ?_ | refine Ext.alloc ?_ _ | (refine Ext.trans ?_ (by with_reducible assumption))))⟩
    | exact ⟨ret_bool (no_of Ev.to (by assumption)), (by repeat (first | exact Ext.refl _ | with_reducible assumption | refine Ext.drewN ?_ _ | refine Ext.drew ?_ | refine Ext.alloc ?_ _ | (refine Ext.trans ?_ (by with_reducible assumption))))⟩
    | exact ⟨ret_bool (no_of Ev.place (by assumption)), (by repeat (first | exact Ext.refl _ | with_reducible assumption | refine Ext.drewN ?_ _ | refine Ext.drew ?_ | refine Ext.alloc ?_ _ | (refine Ext.trans ?_ (by with_reducible assumption))))⟩
    | exact ⟨ret_bool (last_of (by assumption) (by assumption) (by assumption) (by assumption) (by assumption) (by assumption) (by assumption) (by assumption) (by assumption) (by assumption) (by assumption) (by assumption)), (by repeat (first | exact Ext.refl _ | with_reducible assumption | refine Ext.drewN ?_ _ | refine Ext.drew ?_ | refine Ext.alloc ?_ _ | (refine Ext.trans ?_ (by with_reducible assumption))))⟩
end Go.Proofs.YtolbcmniklbnmaaGreatDoor
