/- The walks of clock.Missing and clock.Has. -/
import Derived.Test.YtolbcmniklbnmaaGreatDoorClockC
import Derived.Deep.AppendLies
import Derived.IntWalk
namespace Go.Proofs.YtolbcmniklbnmaaGreatDoor
open Go Go.RowKit Go.Deep

/-- The spans that b has and a has not, of the first k replicas. -/
def missTo (a b : List Int) : Nat → List (Int × Int × Int)
  | 0 => []
  | k + 1 => missTo a b k ++ (if a.getD k 0 < b.getD k 0 then [((k : Int), a.getD k 0 + 1, b.getD k 0)] else [])
/-- clock.Missing -/
def missC (a b : List Int) : List (Int × Int × Int) := if alike2 a b then missTo a b a.length else []
def spanCells (l : List (Int × Int × Int)) : List Value := l.flatMap fun s => [.int .i64 s.1, .int .i64 s.2.1, .int .i64 s.2.2]
theorem spanCells_append (l r : List (Int × Int × Int)) : spanCells (l ++ r) = spanCells l ++ spanCells r := by simp [spanCells]
theorem missTo_len (a b : List Int) : ∀ k, (missTo a b k).length ≤ k
  | 0 => Nat.le_refl _
  | k + 1 => by
    have := missTo_len a b k
    rw [missTo, List.length_append]
    split <;> simp <;> omega

theorem span_info : (Tryz.prog.info? 49).map (fun i => (i.zero, i.size, i.bytes)) = some (some (.agg #[.int .i64 0, .int .i64 0, .int .i64 0]), 3, 24) := by kernel_rfl

set_option maxRecDepth 100000 in
theorem missing_any (A B : Option Addr) (n m c d : Nat) (a b : List Int) (w : World) (ha : Ints w A n c a) (hb : Ints w B m d b) :
    Calls Tryz.prog 24 #[.slice A n c, .slice B m d] w fun e w' => ∃ A' c', e = .returned (.slice A' (missC a b).length c') ∧
      w'.ownsRow w.heap.size 49 3 (.slice A' (missC a b).length c') (missC a b).length (spanCells (missC a b)) ∧ Ext w w' := by
  have h2 := Rows.two 29 ha hb
  cases hal : alike2 a b with
  | false =>
    have hal' : alikeC [a, b] = false := hal
    have F := Lib.hid (show missC a b = [] by simp [missC, hal])
    go_enter Tryz.func24, Tryz.ntmps24
    go_wp2_with (go_at_call 41; refine (alike_any _ _ _ _ _ h2).mono ?_; rintro e w' ⟨rfl, rfl⟩)
    go_ret
    rw [F.out]
    exact ⟨none, 0, rfl, World.ownsRow_nil _ _ _ _, (by repeat (first | exact Ext.refl _ | with_reducible assumption | refine Ext.drewN ?_ _ | refine Ext.drew ?_ | refine Ext.alloc ?_ _ | (refine Ext.trans ?_ (by with_reducible assumption))))⟩
  | true =>
    have hal' : alikeC [a, b] = true := hal
    have hf := alike2_eq a b
    rw [hal] at hf
    simp at hf
    obtain ⟨hva, hvb, hlen⟩ := hf
    have va := valid_facts hva
    have vb := valid_facts hvb
    have HA := Lib.hid ha
    have HB := Lib.hid hb
    obtain rfl := ha.1
    have hm : a.length = m := by rw [← hb.1, hlen]
    subst hm
    have HL := Lib.hid hlen
    clear ha hb hlen
    have F := Lib.hid (show missC a b = missTo a b a.length by simp [missC, hal])
    obtain ⟨i0, hi, hz0, hz1, hz2⟩ := info_parts span_info
    have h1 := va.1
    have h5 := va.2.1
    have VA := Lib.hid va.2.2
    have VB := Lib.hid vb.2.2
    clear va vb hva hvb
    go_enter Tryz.func24, Tryz.ntmps24
    go_wp2_with (go_at_call 41; refine (alike_any _ _ _ _ _ h2).mono ?_; rintro e w' ⟨rfl, rfl⟩)
    go_loopw [5, 14] (fun v i wr => ∃ k : Nat, k ≤ a.length ∧ i = .int .i64 k ∧ wr.ownsRow w.heap.size 49 3 v (missTo a b k).length (spanCells (missTo a b k)) ∧ Ext w wr) (fun _ i _ => a.length - (intOf i).toNat)
    case atStart => exact ⟨0, Nat.zero_le _, rfl, World.ownsRow_nil _ _ _ _, (by repeat (first | exact Ext.refl _ | with_reducible assumption | refine Ext.drewN ?_ _ | refine Ext.drew ?_ | refine Ext.alloc ?_ _ | (refine Ext.trans ?_ (by with_reducible assumption))))⟩
    case round =>
      obtain ⟨k, hk, rfl, hown, hxr⟩ := hrel
      by_cases hlt : k < a.length
      · have hltb : k < b.length := by rw [HL.out]; exact hlt
        obtain ⟨b1, off1, rfl, hc1⟩ := HA.out.2.2.2 k hlt
        obtain ⟨b2, off2, rfl, hc2⟩ := HB.out.2.2.2 k hltb
        have C1 := Lib.hid hc1
        have C2 := Lib.hid hc2
        have hc1 := hxr.cell hc1
        have hc2 := hxr.cell hc2
        have ka := VA.out _ (List.getElem_mem hlt)
        have kb := VB.out _ (List.getElem_mem hltb)
        have ka1 := ka.1
        have ka2 := ka.2
        clear ka kb
        have hkk : (k : Int) < a.length := by omega
        have S := Lib.hid (show missTo a b (k + 1) = missTo a b k ++ (if a[k] < b[k] then [((k : Int), a[k] + 1, b[k])] else []) by
          simp [missTo, List.getD_eq_getElem?_getD, List.getElem?_eq_getElem hlt, List.getElem?_eq_getElem hltb])
        by_cases hle : a[k] < b[k]
        · go_wp2
          go_quiet (fail)
          go_wp2
          have hwrap : IntKind.i64.wrap (a[k] + 1) = a[k] + 1 := IntWalk.i64_in _ (by omega)
          have hlen := missTo_len a b k
          obtain ⟨wq, hwq⟩ : ∃ wq, wq = wr.drewN nq := ⟨_, rfl⟩
          have hown : wq.ownsRow w.heap.size 49 3 u5 (missTo a b k).length (spanCells (missTo a b k)) := by rw [hwq]; exact hown
          have hxr : Ext w wq := by rw [hwq]; exact (by repeat (first | exact Ext.refl _ | with_reducible assumption | refine Ext.drewN ?_ _ | refine Ext.drew ?_ | refine Ext.alloc ?_ _ | (refine Ext.trans ?_ (by with_reducible assumption))))
          have hd1 : wq.cell? ⟨b1, off1 + k, none⟩ = some (.int .i64 a[k]) := by rw [hwq]; exact hc1
          have hd2 : wq.cell? ⟨b2, off2 + k, none⟩ = some (.int .i64 b[k]) := by rw [hwq]; exact hc2
          rw [← hwq]
          clear hwq hc1 hc2
          have hsz := hxr.size
          go_region_held3 (fun w' => w'.cell? ⟨b1, off1 + k, none⟩ = some (.int .i64 a[k]) ∧ w'.cell? ⟨b2, off2 + k, none⟩ = some (.int .i64 b[k])) (first | go_keep | exact ⟨hx3.cell C1.out, hx3.cell C2.out⟩) ((refine step_append_lies _ (by rfl) _ _ _ (by rfl) w.heap.size 49 i0 _ 3 24 Tryz.underlying44 hi hz0 hz1 hz2 rfl (by omega) u5 _ _ (by rfl) ((hown.alloc _).drew) ⟨wq.heap.size, 0, none⟩ 1 1 [.int .i64 k, .int .i64 (a[k] + 1), .int .i64 b[k]] (by rfl) (by rfl) (World.news_of_block (cs := #[.int .i64 k, .int .i64 (a[k] + 1), .int .i64 b[k]]) (t := 49) (fr := (0, 0)) (heap_alloc_new wq _)) (by simp [Value.oneCell']) (by omega) (by unfold maxLen; omega) (by omega) (by simp; omega) (wq.heap.size + 1) (by simp) ?_; intro gg cap w3 hown' hgrow hat hlt'; have hx3 : Ext w w3 := ((hxr.alloc _).drew).grown hgrow (fun j hj => (hown.lt j hj).1)))
          clear hwrap
          have HL2 := Lib.hid (show (missTo a b k).length + 1 = (missTo a b (k + 1)).length from by rw [S.out, if_pos hle, List.length_append]; rfl)
          rw [show spanCells (missTo a b k) ++ [Value.int .i64 k, .int .i64 (a[k] + 1), .int .i64 b[k]] = spanCells (missTo a b (k + 1)) from by rw [S.out, if_pos hle, spanCells_append]; rfl, show (missTo a b k).length + 1 = (missTo a b (k + 1)).length from by rw [S.out, if_pos hle, List.length_append]; rfl] at hown'
          clear hgrow hown hd1 hd2 hlen
          go_wp2
          go_roundw
          case rel => exact ⟨k + 1, by omega, by go_num, by rw [HL2.out]; exact hown', hx3⟩
          case measure => simp [intOf]; omega
        · rw [show missTo a b k = missTo a b (k + 1) from by rw [S.out, if_neg hle, List.append_nil]] at hown
          go_wp2
          go_quiet (fail)
          go_wp2
          go_roundw
          case rel => exact ⟨k + 1, by omega, by go_num, hown, (by repeat (first | exact Ext.refl _ | with_reducible assumption | refine Ext.drewN ?_ _ | refine Ext.drew ?_ | refine Ext.alloc ?_ _ | (refine Ext.trans ?_ (by with_reducible assumption))))⟩
          case measure => simp [intOf]; omega
      · have hke : k = a.length := by omega
        rw [hke, ← F.out] at hown
        clear hke
        obtain ⟨A', c', rfl⟩ := own_form hown
        go_wp2
        go_ret
        exact ⟨A', c', rfl, hown, hxr⟩

/-- clock.Has -/
def hasC (l : List Int) (r n : Int) : Bool := validC l && (decide (0 ≤ r) && (decide (r < l.length) && (decide (1 ≤ n) && decide (n ≤ l.getD r.toNat 0))))

theorem has_any (A : Option Addr) (n c : Nat) (l : List Int) (r x : Int) (w : World) (hr : Ints w A n c l) :
    Calls Tryz.prog 46 #[.slice A n c, .agg #[.int .i64 r, .int .i64 x]] w fun e w' => e = .returned (.bool (hasC l r x)) ∧ Ext w w' := by
  have hr1 : Ints (w.alloc (.cells #[.int .i64 r, .int .i64 x] 90)) A n c l := hr.sub (by repeat (first | exact Sub.refl _ | with_reducible assumption | refine Sub.drewN ?_ _ | refine Sub.drew ?_ | refine Sub.alloc ?_ _ | (refine Sub.trans ?_ (by with_reducible assumption))))
  have CV := fun k => valid_any A n c l ((w.alloc (.cells #[.int .i64 r, .int .i64 x] 90)).drewN k) (hr1.sub (by repeat (first | exact Sub.refl _ | with_reducible assumption | refine Sub.drewN ?_ _ | refine Sub.drew ?_ | refine Sub.alloc ?_ _ | (refine Sub.trans ?_ (by with_reducible assumption)))))
  have HL := Lib.hid hr.1
  cases hv : validC l with
  | false =>
    rw [hv] at CV
    have CV' := Lib.hid CV
    clear CV
    have F := Lib.hid (show hasC l r x = false by simp [hasC, hv])
    go_enter Tryz.func46, Tryz.ntmps46
    go_wp2
    go_quiet ((go_at_call 16; exact quiet_left (CV'.out _)))
    go_wp2
    go_ret
    exact ⟨ret_bool F.out.symm, (by repeat (first | exact Ext.refl _ | with_reducible assumption | refine Ext.drewN ?_ _ | refine Ext.drew ?_ | refine Ext.alloc ?_ _ | (refine Ext.trans ?_ (by with_reducible assumption))))⟩
  | true =>
    rw [hv] at CV
    have CV' := Lib.hid CV
    clear CV
    have hln := hr.1
    by_cases h0 : 0 ≤ r
    · obtain ⟨k, rfl⟩ := Int.eq_ofNat_of_zero_le h0
      by_cases h1 : k < n
      · have h1' : (k : Int) < n := by omega
        have hkl : k < l.length := by omega
        obtain ⟨b, off, rfl, hc⟩ := hr1.2.2.2 k hkl
        by_cases h2 : 1 ≤ x
        · by_cases h3 : x ≤ l[k]
          · have F := Lib.hid (show hasC l k x = true by simp [hasC, hv, hkl, h2, h3])
            clear hr hr1 hln
            go_enter Tryz.func46, Tryz.ntmps46
            go_wp2
            go_quiet ((go_at_call 16; exact quiet_left (CV'.out _)))
            go_wp2
            go_ret
            exact ⟨ret_bool F.out.symm, (by repeat (first | exact Ext.refl _ | with_reducible assumption | refine Ext.drewN ?_ _ | refine Ext.drew ?_ | refine Ext.alloc ?_ _ | (refine Ext.trans ?_ (by with_reducible assumption))))⟩
          · have h3' : decide (x ≤ l[k]) = false := by simpa using h3
            have F := Lib.hid (show hasC l k x = false by simp [hasC, hv, hkl, h2, h3])
            clear hr hr1 hln
            go_enter Tryz.func46, Tryz.ntmps46
            go_wp2
            go_quiet ((go_at_call 16; exact quiet_left (CV'.out _)))
            go_wp2
            go_ret
            exact ⟨ret_bool F.out.symm, (by repeat (first | exact Ext.refl _ | with_reducible assumption | refine Ext.drewN ?_ _ | refine Ext.drew ?_ | refine Ext.alloc ?_ _ | (refine Ext.trans ?_ (by with_reducible assumption))))⟩
        · have h2' : decide (1 ≤ x) = false := by simpa using h2
          have F := Lib.hid (show hasC l k x = false by simp [hasC, h2])
          clear hr hr1 hln
          go_enter Tryz.func46, Tryz.ntmps46
          go_wp2
          go_quiet ((go_at_call 16; exact quiet_left (CV'.out _)))
          go_wp2
          go_ret
          exact ⟨ret_bool F.out.symm, (by repeat (first | exact Ext.refl _ | with_reducible assumption | refine Ext.drewN ?_ _ | refine Ext.drew ?_ | refine Ext.alloc ?_ _ | (refine Ext.trans ?_ (by with_reducible assumption))))⟩
      · have h1' : decide ((k : Int) < n) = false := by simp; omega
        have h1'' : decide (k < n) = false := by simp; omega
        have F := Lib.hid (show hasC l k x = false by simp [hasC]; omega)
        clear hr hr1 hln
        go_enter Tryz.func46, Tryz.ntmps46
        go_wp2
        go_quiet ((go_at_call 16; exact quiet_left (CV'.out _)))
        go_wp2
        go_ret
        exact ⟨ret_bool F.out.symm, (by repeat (first | exact Ext.refl _ | with_reducible assumption | refine Ext.drewN ?_ _ | refine Ext.drew ?_ | refine Ext.alloc ?_ _ | (refine Ext.trans ?_ (by with_reducible assumption))))⟩
    · have h0' : decide (0 ≤ r) = false := by simpa using h0
      have F := Lib.hid (show hasC l r x = false by simp [hasC, h0])
      clear hr hr1 hln
      go_enter Tryz.func46, Tryz.ntmps46
      go_wp2
      go_quiet ((go_at_call 16; exact quiet_left (CV'.out _)))
      go_wp2
      go_ret
      exact ⟨ret_bool F.out.symm, (by repeat (first | exact Ext.refl _ | with_reducible assumption | refine Ext.drewN ?_ _ | refine Ext.drew ?_ | refine Ext.alloc ?_ _ | (refine Ext.trans ?_ (by with_reducible assumption))))⟩
end Go.Proofs.YtolbcmniklbnmaaGreatDoor
