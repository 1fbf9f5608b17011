/- The walks of clock.fold (with the greater of two numbers) and clock.Join. -/
import Derived.Test.YtolbcmniklbnmaaGreatDoorClockC
namespace Go.Proofs.YtolbcmniklbnmaaGreatDoor
open Go Go.RowKit Go.Deep

/-- The lists, one behind the other, joined number by number. -/
def foldOp (op : Int → Int → Int) (ls : List (List Int)) : List Int := match ls with | [] => [] | x :: r => r.foldl (List.zipWith op) x
/-- .. after k further lists -/
def foldTo (op : Int → Int → Int) (ls : List (List Int)) (k : Nat) : List Int := foldOp op (ls.take (k + 1))
/-- .. in the middle of a list -/
def mixed (op : Int → Int → Int) (acc x : List Int) (j : Nat) : List Int := List.zipWith op (acc.take j) (x.take j) ++ acc.drop j

theorem foldTo_zero (op : Int → Int → Int) (x : List Int) (r : List (List Int)) : foldTo op (x :: r) 0 = x := by simp [foldTo, foldOp]
theorem foldTo_succ (op : Int → Int → Int) (x : List Int) (r : List (List Int)) (k : Nat) (h : k < r.length) : foldTo op (x :: r) (k + 1) = List.zipWith op (foldTo op (x :: r) k) r[k] := by
  simp only [foldTo, foldOp, List.take_succ_cons]
  rw [List.take_succ_eq_append_getElem h, List.foldl_append]
  rfl
theorem foldTo_all (op : Int → Int → Int) (ls : List (List Int)) (k : Nat) (h : ls.length ≤ k + 1) : foldTo op ls k = foldOp op ls := by
  unfold foldTo; rw [List.take_of_length_le h]
theorem foldl_len (op : Int → Int → Int) (N : Nat) : ∀ (r : List (List Int)) (x : List Int), x.length = N → (∀ y ∈ r, y.length = N) → (r.foldl (List.zipWith op) x).length = N
  | [], _, hx, _ => hx
  | y :: r, x, hx, hr => foldl_len op N r _ (by rw [List.length_zipWith, hx, hr y (List.mem_cons_self ..)]; exact Nat.min_self N) (fun z hz => hr z (List.mem_cons_of_mem _ hz))
theorem foldTo_len (op : Int → Int → Int) (N : Nat) (x : List Int) (r : List (List Int)) (hx : x.length = N) (hr : ∀ y ∈ r, y.length = N) (k : Nat) : (foldTo op (x :: r) k).length = N := by
  simp only [foldTo, foldOp, List.take_succ_cons]
  exact foldl_len op N _ _ hx (fun y hy => hr y (List.mem_of_mem_take hy))
theorem mixed_zero (op : Int → Int → Int) (acc x : List Int) : mixed op acc x 0 = acc := by simp [mixed]
theorem mixed_all (op : Int → Int → Int) (acc x : List Int) (h : x.length = acc.length) : mixed op acc x x.length = List.zipWith op acc x := by
  unfold mixed; rw [h, List.take_length, ← h, List.take_length, h, List.drop_length, List.append_nil]
theorem mixed_at (op : Int → Int → Int) (acc x : List Int) (j : Nat) (h : x.length = acc.length) (hj : j < x.length) : (mixed op acc x j)[j]? = some (acc[j]'(by omega)) := by
  unfold mixed
  rw [List.getElem?_append_right (by simp; omega)]
  rw [List.length_zipWith, List.length_take, List.length_take, List.getElem?_drop]
  rw [show j + (j - min (min j acc.length) (min j x.length)) = j from by omega]
  exact List.getElem?_eq_getElem (by omega)
theorem mixed_succ (op : Int → Int → Int) (acc x : List Int) (j : Nat) (h : x.length = acc.length) (hj : j < x.length) : mixed op acc x (j + 1) = (mixed op acc x j).set j (op (acc[j]'(by omega)) x[j]) := by
  unfold mixed
  have hj' : j < acc.length := by omega
  rw [List.take_succ_eq_append_getElem hj, List.take_succ_eq_append_getElem hj', List.zipWith_append (by simp; omega)]
  rw [List.set_append_right _ _ (by simp; omega)]
  rw [List.drop_eq_getElem_cons hj', List.length_zipWith, List.length_take, List.length_take, show j - min (min j acc.length) (min j x.length) = 0 from by omega, List.append_assoc]
  rfl

/-- What clock.alike says, list by list. -/
theorem alike_facts {x : List Int} {r : List (List Int)} (h : alikeC (x :: r) = true) : validC x = true ∧ (∀ y ∈ r, validC y = true ∧ y.length = x.length) := by
  simp [alikeC] at h
  exact ⟨h.1, fun y hy => h.2 y hy⟩


set_option maxHeartbeats 1000000 in
theorem fold1_any (A : Option Addr) (n c : Nat) (ls : List (List Int)) (w : World) (hr : Rows w A n c ls) :
    Calls Tryz.prog 39 #[.func (.func 40) #[] #[], .slice A n c] w fun e w' => ∃ A' n' c', e = .returned (.slice A' n' c') ∧
      w'.ownsRow w.heap.size 3 1 (.slice A' n' c') n' ((if alikeC ls then foldOp max ls else []).map (Value.int .i64)) ∧ Ext w w' := by
  cases hal : alikeC ls with
  | false =>
    go_enter Tryz.func39, Tryz.ntmps39
    go_wp2_with (go_at_call 41; refine (alike_any _ _ _ _ _ hr).mono ?_; rintro e w' ⟨rfl, rfl⟩)
    go_ret
    exact ⟨none, 0, 0, rfl, World.ownsRow_nil _ _ _ _, Ext.refl _⟩
  | true =>
    cases ls with
    | nil => simp [alikeC] at hal
    | cons x r =>
    obtain ⟨hx, hrr⟩ := alike_facts hal
    obtain ⟨hx1, hx5, _⟩ := valid_facts hx
    have hlen : r.length + 1 = n := by have := hr.1; simpa using this
    have hnc : n ≤ c := hr.2.1
    have hc63 : c ≤ 9223372036854775807 := hr.2.2.1
    obtain ⟨b, off, hA, A0, n0, c0, hcell0, hi0⟩ := hr.2.2.2 0 (by simp)
    subst hA
    rw [Nat.add_zero] at hcell0
    have hn0 : x.length = n0 := hi0.1
    subst hn0
    have HR := Lib.hid hr
    have HV := Lib.hid hrr
    clear hr hrr
    subst hlen
    by_cases hc1 : c = 1
    · have hr0 : r.length = 0 := by omega
      have hr0' : r = [] := List.eq_nil_of_length_eq_zero hr0
      subst hr0' hc1
      go_enter Tryz.func39, Tryz.ntmps39
      go_wp2_with (first
        | (go_at_call 41; refine (alike_any _ _ _ _ _ HR.out).mono ?_; rintro e w' ⟨rfl, rfl⟩)
        | (go_at_call 38; refine (clone_any _ _ _ _ _ hi0 (by omega)).mono ?_; rintro e w1 ⟨A', c', rfl, hown, hx1⟩))
      refine wp_loop_rounds 1 ?_
      rw [rounds_succ]
      go_wp2
      go_ret
      exact ⟨A', _, c', rfl, by simpa [foldOp] using hown, hx1⟩
    go_enter Tryz.func39, Tryz.ntmps39
    go_wp2_with (first
      | (go_at_call 41; refine (alike_any _ _ _ _ _ HR.out).mono ?_; rintro e w' ⟨rfl, rfl⟩)
      | (go_at_call 38; refine (clone_any _ _ _ _ _ hi0 (by omega)).mono ?_; rintro e w1 ⟨A', c', rfl, hown, hx1⟩; obtain ⟨g, rfl, hg, hgl⟩ := own_addr hown (by omega)))
    go_loopw [20] (fun i wr => ∃ k : Nat, k ≤ r.length ∧ i = .int .i64 k ∧ wr.ownsRow w.heap.size 3 1 (.slice (some ⟨g, 0, none⟩) x.length c') x.length ((foldTo max (x :: r) k).map (Value.int .i64)) ∧ Ext w wr) (fun i _ => r.length - (intOf i).toNat)
    case atStart => exact ⟨0, Nat.zero_le _, rfl, by rw [foldTo_zero]; exact hown, hx1⟩
    case round =>
      obtain ⟨k, hk, rfl, hown, hxr⟩ := hrel
      by_cases hlt : k < r.length
      · obtain ⟨b', off', hA, A1, n1, c1, hcell, hi⟩ := HR.out.2.2.2 (k + 1) (by simpa using hlt)
        cases hA
        have hy : (x :: r)[k + 1]'(by simpa using hlt) = r[k] := rfl
        rw [hy] at hi
        rw [show off + (k + 1) = off + 1 + k from by omega] at hcell
        have hcell := hxr.cell hcell
        have hn1 : n1 = x.length := by rw [← hi.1]; exact (HV.out _ (List.getElem_mem hlt)).2
        subst hn1
        have hil := hi.1
        have hacc := foldTo_len max x.length x r rfl (fun y hy => (HV.out y hy).2) k
        obtain ⟨acc, hE⟩ : ∃ acc, foldTo max (x :: r) k = acc := ⟨_, rfl⟩
        have hS := foldTo_succ max x r k hlt
        rw [hE] at hown hacc hS
        have HS := Lib.hid hS
        have HL := Lib.hid (show r[k].length = acc.length by rw [hil, hacc])
        clear hS hE hy
        have HI := Lib.hid hi
        clear hi hil
        have HACC := Lib.hid hacc
        clear hacc
        go_wp2
        obtain ⟨wo, rfl⟩ : ∃ wo : World, wo = wr := ⟨_, rfl⟩
        go_loopw [26] (fun i wi => ∃ j : Nat, j ≤ x.length ∧ i = .int .i64 j ∧ wi.ownsRow w.heap.size 3 1 (.slice (some ⟨g, 0, none⟩) x.length c') x.length ((mixed max acc r[k] j).map (Value.int .i64)) ∧ Ext w wi) (fun i _ => x.length - (intOf i).toNat)
        case atStart => exact ⟨0, Nat.zero_le _, rfl, by rw [mixed_zero]; exact hown, hxr⟩
        case round =>
          obtain ⟨j, hj, rfl, hown, hxr⟩ := hrel
          clear hcell
          by_cases hltj : j < x.length
          · have hi := HI.out.ext hxr
            have hjr : j < r[k].length := by rw [hi.1]; exact hltj
            have hja : j < acc.length := by rw [HACC.out]; exact hltj
            obtain ⟨b2, off2, rfl, hc2⟩ := hi.2.2.2 j hjr
            clear hi
            have hco : wr.cell? ⟨g, j, none⟩ = some (.int .i64 acc[j]) := by rw [hown.cellAt j (by omega), List.getElem?_map, mixed_at _ _ _ _ HL.out hjr]; rfl
            have hfo := hown.frozenAt j
            have hst := (hown.stored j (.int .i64 (max acc[j] r[k][j]))).1
            have hxr' := hxr.set (p := ⟨g, j, none⟩) hg (.int .i64 (max acc[j] r[k][j]))
            rw [← List.map_set, ← mixed_succ max acc r[k] j HL.out hjr] at hst
            clear hown hxr
            go_wp2_with (go_at_call 40; refine (join1_any _ _ _).mono ?_; rintro e w' ⟨rfl, rfl⟩)
            go_roundw
            case rel => exact ⟨j + 1, by omega, by go_num, hst, hxr'⟩
            case measure => simp [intOf]; omega
          · have hje : j = x.length := by omega
            have hAll := mixed_all max acc r[k] HL.out
            rw [HL.out, HACC.out] at hAll
            rw [hje, hAll, ← HS.out] at hown
            clear hje hAll
            go_wp2
            go_roundw
            case rel => exact ⟨k + 1, by omega, by go_num, hown, hxr⟩
            case measure => simp [intOf]; omega
      · have hF := foldTo_all max (x :: r) k (by simp; omega)
        rw [hF] at hown
        clear hF
        go_wp2
        go_ret
        exact ⟨_, _, _, rfl, hown, hxr⟩

/-- clock.Join -/
def joinC (ls : List (List Int)) : List Int := if alikeC ls then foldOp max ls else []

theorem join_any (A : Option Addr) (n c : Nat) (ls : List (List Int)) (w : World) (hr : Rows w A n c ls) :
    Calls Tryz.prog 23 #[.slice A n c] w fun e w' => ∃ A' n' c', e = .returned (.slice A' n' c') ∧
      w'.ownsRow w.heap.size 3 1 (.slice A' n' c') n' ((joinC ls).map (Value.int .i64)) ∧ Ext w w' := by
  have C := Lib.hid (fold1_any A n c ls w hr)
  go_enter Tryz.func23, Tryz.ntmps23
  go_wp2_with (go_at_call 39; refine (C.out).mono ?_; rintro e w' ⟨A', n', c', rfl, hown, hx⟩)
  go_ret
  exact ⟨A', n', c', rfl, hown, hx⟩
end Go.Proofs.YtolbcmniklbnmaaGreatDoor
