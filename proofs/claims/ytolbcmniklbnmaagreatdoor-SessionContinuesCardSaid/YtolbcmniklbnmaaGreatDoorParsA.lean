/- The walk of clock.Parse at the text of a valid clock. -/
import Derived.Test.YtolbcmniklbnmaaGreatDoorFormA
namespace Go.Proofs.YtolbcmniklbnmaaGreatDoor
open Go Go.RowKit Go.Deep

/-- internal/bytealg.MaxLen is there. -/
def Len (w : World) : Prop := ∃ m, w.cell? ⟨2, 0, none⟩ = some (.int .i64 m)
theorem Len.ext {w w' : World} (h : Len w) (hx : Ext w w') : Len w' := by
  obtain ⟨m, h⟩ := h; exact ⟨m, hx.cell h⟩
theorem Ext.bytes {a b : World} (h : Ext a b) (e : TypeId) (s : ByteArray) : Ext a (Lib.bytesWorld b e s) :=
  h.trans ⟨rfl, rfl, rfl, by rw [Lib.bytesWorld_size]; omega, fun k hk => Lib.bytesWorld_at_old b e s k hk⟩

theorem cut1_any (l : List Int) (w : World) : Calls Tryz.prog 30 #[.string (str (text l)), .string ⟨#[91]⟩] w fun e w' => e = .returned (.tuple #[.string (str (mid l ++ [93])), .bool true]) ∧ w = w' := by
  have h := Tryz.strings_CutPrefix (str (text l)) ⟨#[91]⟩ w
  have e1 : Lib.trimPrefix (str (text l)).data.toList (⟨#[91]⟩ : ByteArray).data.toList = mid l ++ [93] := (text_prefix l).2
  have e2 : Lib.hasPrefix (str (text l)).data.toList (⟨#[91]⟩ : ByteArray).data.toList = true := (text_prefix l).1
  rw [e1, e2] at h
  exact h.mono fun _ _ k => ⟨k.1, k.2.symm⟩
theorem cut2_any (l : List Int) (hl : (mid l).length ≤ 30) (w : World) : Calls Tryz.prog 31 #[.string (str (mid l ++ [93])), .string ⟨#[93]⟩] w fun e w' => e = .returned (.tuple #[.string (str (mid l)), .bool true]) ∧ w = w' := by
  have h := Tryz.strings_CutSuffix (str (mid l ++ [93])) ⟨#[93]⟩ w (by rw [str_size, List.length_append]; simp; omega)
  have e1 : Lib.trimSuffix (str (mid l ++ [93])).data.toList (⟨#[93]⟩ : ByteArray).data.toList = mid l := (text_suffix l).2
  have e2 : Lib.hasSuffix (str (mid l ++ [93])).data.toList (⟨#[93]⟩ : ByteArray).data.toList = true := (text_suffix l).1
  rw [e1, e2] at h
  exact h.mono fun _ _ k => ⟨k.1, k.2.symm⟩
theorem split_any (l : List Int) (h1 : 1 ≤ l.length) (hl : (mid l).length ≤ 30) (h0 : ∀ n ∈ l, 0 ≤ n ∧ n ≤ 1024) (w : World) (hm : Len w) :
    Calls Tryz.prog 32 #[.string (str (mid l)), .string ⟨#[32]⟩] w fun e w' => e = .returned (.slice (some ⟨w.heap.size, 0, none⟩) l.length l.length) ∧ w' = w.alloc (.cells (nums l l.length).toArray 9) := by
  obtain ⟨m, hm⟩ := hm
  have h := Tryz.strings_Split (str (mid l)) ⟨#[32]⟩ m w (by rw [str_size]; omega) hm (by decide)
  obtain ⟨e1, e2⟩ := mid_pieces l (by rintro rfl; simp at h1) (fun n hn => (h0 n hn).1)
  rw [e2, e1] at h
  unfold nums
  rw [List.take_length]
  rw [List.map_map] at h
  exact h
theorem atoi_any (n : Int) (h0 : 0 ≤ n) (h1 : n ≤ 1024) (w : World) :
    Calls Tryz.prog 33 #[.string (str (Lib.itoa n))] w fun e w' => e = .returned (.tuple #[.int .i64 n, .nilIface]) ∧ Ext w w' := by
  refine (Tryz.strconv_Atoi (str (Lib.itoa n)) n (by have := itoa_short h0 h1; rw [str_size]; omega) (atoi_itoa h0) w).mono ?_
  rintro e w' ⟨rfl, t, rfl⟩
  exact ⟨rfl, (Ext.refl w).bytes _ _⟩
/-- The first k numbers as cells. -/
def intsTo (l : List Int) (k : Nat) : List Value := (l.take k).map (Value.int .i64)
theorem ints_snoc (l : List Int) (k : Nat) (h : k < l.length) : intsTo l (k + 1) = intsTo l k ++ [.int .i64 l[k]] := by
  unfold intsTo; rw [List.take_succ_eq_append_getElem h, List.map_append]; rfl

set_option maxRecDepth 100000 in
theorem parse_any (l : List Int) (w : World) (hv : validC l = true) (ht : Tab w) (hm : Len w) :
    Calls Tryz.prog 17 #[.string (str (text l))] w fun e w' => ∃ A' c', e = .returned (.tuple #[.slice A' l.length c', .int .i64 0]) ∧ Ints w' A' l.length c' l ∧ Ext w w' := by
  obtain ⟨h1, h5, hall⟩ := valid_facts hv
  obtain ⟨i0, hi, hz0, hz1, hz2⟩ := info_parts int_info
  have hml := mid_short l h5 hall
  have C1 := Lib.hid (cut1_any l w)
  have C2 := Lib.hid (cut2_any l hml w)
  have C3 := Lib.hid (split_any l h1 hml hall w hm)
  have HV := Lib.hid hall
  have F := Lib.hid (show formatC l = str (text l) by simp [formatC, hv])
  clear hall hv
  go_enter Tryz.func17, Tryz.ntmps17
  go_wp2_with fail
  refine C1.out.mono ?_
  rintro en w1 ⟨rfl, rfl⟩
  go_wp2_with fail
  refine C2.out.mono ?_
  rintro en w1 ⟨rfl, rfl⟩
  go_wp2_with fail
  refine C3.out.mono ?_
  rintro en w1 ⟨rfl, hw1⟩
  have hx1 : Ext w w1 := by rw [hw1]; exact (by repeat (first | exact Ext.refl _ | with_reducible assumption | refine Ext.drewN ?_ _ | refine Ext.drew ?_ | refine Ext.alloc ?_ _ | (refine Ext.trans ?_ (by with_reducible assumption))))
  have HC := Lib.hid (show ∀ k (h : k < l.length), w1.cell? ⟨w.heap.size, k, none⟩ = some (.string (str (Lib.itoa l[k]))) from fun k h => by
    rw [hw1, cell_new]
    simp [nums, h])
  clear hw1
  go_wp2_with fail
  go_loopw [7, 31] (fun v i wr => ∃ k : Nat, k ≤ l.length ∧ i = .int .i64 k ∧ wr.ownsRow w1.heap.size 3 1 v k (intsTo l k) ∧ Ext w1 wr) (fun _ i _ => l.length - (intOf i).toNat)
  case atStart => exact ⟨0, Nat.zero_le _, rfl, World.ownsRow_nil _ _ _ _, Ext.refl _⟩
  case round =>
    obtain ⟨k, hk, rfl, hown, hxr⟩ := hrel
    by_cases hlt : k < l.length
    · have hc1 := hxr.cell (HC.out k hlt)
      obtain ⟨ka1, ka2⟩ := HV.out _ (List.getElem_mem hlt)
      have CI := Lib.hid (atoi_any l[k] ka1 ka2 wr)
      have S := Lib.hid (ints_snoc l k hlt)
      go_wp2_with fail
      refine CI.out.mono ?_
      rintro en w2 ⟨rfl, hx2⟩
      have hown2 := own_ext hown hx2
      go_wp2_with (at_builtin; refine wpList_append_own _ rfl _ _ 29 rfl w1.heap.size 3 i0 (.int .i64 0) 1 8 Tryz.underlying29 hi hz0 hz1 hz2 rfl (by decide) _ k (intsTo l k) rfl (hown2.alloc _) ⟨w2.heap.size, 0, none⟩ 1 1 [.int .i64 l[k]] rfl ?qc1 ?qc2 ?qc3 ?qc4 ?qc5 ?qc6 ?_)
      case qc1 => rfl
      case qc2 => exact one_news
      case qc3 => simp [Value.oneCell']
      case qc4 => unfold maxLen; omega
      case qc5 => omega
      case qc6 => have := (hxr.trans hx2).size; simp; omega
      intro v' w3 hown3 hgrow hnil
      have hxw : Ext w1 w3 := ((hxr.trans hx2).alloc _).grown hgrow (fun j hj => (hown2.lt j hj).1)
      rw [← S.out] at hown3
      clear hown2 hown hgrow hnil hc1
      go_wp2
      go_roundw
      case rel => exact ⟨k + 1, by omega, by go_num, hown3, hxw⟩
      case measure => simp [intOf]; omega
    · have hke : k = l.length := by omega
      subst hke
      rw [show intsTo l l.length = l.map (Value.int .i64) by unfold intsTo; rw [List.take_length]] at hown
      obtain ⟨A', c', rfl⟩ := own_form hown
      have hi := Ints.of_own hown
      have CF := Lib.hid (format_any A' l.length c' l wr hi (ht.ext (hx1.trans hxr)))
      have HI := Lib.hid hi
      clear hown hi
      go_wp2_with fail
      refine CF.out.mono ?_
      rintro en w2 ⟨rfl, hx2⟩
      rw [F.out]
      go_wp2
      go_ret2
      exact ⟨A', c', rfl, HI.out.ext hx2, hx1.trans (hxr.trans hx2)⟩
end Go.Proofs.YtolbcmniklbnmaaGreatDoor
