/- The walk of clock.Format. -/
import Derived.Test.YtolbcmniklbnmaaGreatDoorClockC
import Derived.Test.YtolbcmniklbnmaaGreatDoorTextA
import Derived.Test.YtolbcmniklbnmaaGreatDoorShelf
namespace Go.Proofs.YtolbcmniklbnmaaGreatDoor
open Go Go.RowKit Go.Deep

/-- What the walks read of the package-level variables. -/
def Tab (w : World) : Prop := Lib.TabIs Tryz.prog w "internal/strconv.uint64pow10" .u64 Lib.pow10Tab
theorem Tab.ext {w w' : World} (h : Tab w) (hx : Ext w w') : Tab w' := by
  unfold Tab Lib.TabIs World.var? at h ⊢
  cases hg : Tryz.prog.globalNamed "internal/strconv.uint64pow10" with
  | none => rw [hg] at h; cases h
  | some g =>
    rw [hg] at h
    simp only [Option.bind_some] at h ⊢
    by_cases hl : g < w.heap.size
    · rw [hx.block hl]; exact h
    · rw [Array.getElem?_eq_none (by omega)] at h; cases h
theorem Ext.grow {a b : World} (h : Ext a b) (k : Nat) (os : Array Obj) : Ext a (Go.Sort.grow (b.drewN k) os) := h.trans ⟨rfl, rfl, rfl, by simp [Go.Sort.grow], fun i hi => by
    show ((b.drewN k).heap ++ os)[i]? = _
    rw [Array.getElem?_append_left (by show i < b.heap.size; omega)]
    rfl⟩

theorem ext_grown {a b : World} (h : Ext a b) : a.grownBy b none := ⟨h.os, h.tape, h.output, h.size, fun i hi _ => Below.block h i hi⟩
theorem own_ext {a b : World} {base : Nat} {e : TypeId} {size n : Nat} {v : Value} {xs : List Value} (h : a.ownsRow base e size v n xs) (hx : Ext a b) : b.ownsRow base e size v n xs := h.kept (ext_grown hx) (by cases hv : v.ownBlock <;> simp)
theorem one_news {w : World} {v : Value} {t : TypeId} : ∀ (j : Nat) (u : Value), [v][j]? = some u → (w.alloc (.cells #[v] t)).cell? ((⟨w.heap.size, 0, none⟩ : Addr).add j) = some u := by
  intro j u hu
  have hadd : (⟨w.heap.size, 0, none⟩ : Addr).add j = ⟨w.heap.size, j, none⟩ := by unfold Addr.add; split <;> simp_all
  rw [hadd, cell_new]
  cases j with
  | zero => simpa using hu
  | succ j => simp at hu

theorem str_info : (Tryz.prog.info? 9).map (fun i => (i.zero, i.size, i.bytes)) = some (some (.string ⟨#[]⟩), 1, 16) := by kernel_rfl

/-- clock.Format -/
def formatC (l : List Int) : ByteArray := if validC l then str (text l) else ⟨#[]⟩
/-- The numerals of the first k numbers. -/
def nums (l : List Int) (k : Nat) : List Value := (l.take k).map (fun n => Value.string (str (Lib.itoa n)))
theorem nums_succ (l : List Int) (k : Nat) (h : k < l.length) : nums l (k + 1) = nums l k ++ [.string (str (Lib.itoa l[k]))] := by
  unfold nums; rw [List.take_succ_eq_append_getElem h, List.map_append]; rfl
theorem nums_len (l : List Int) (k : Nat) (h : k ≤ l.length) : (nums l k).length = k := by simp [nums, h]
theorem ret_str {a b : ByteArray} (h : a = b) : Ending.returned (.string a) = .returned (.string b) := by rw [h]

theorem text_parts (l : List Int) : (⟨#[91]⟩ ++ ⟨(Lib.join (l.map Lib.itoa) [32]).toArray⟩ ++ ⟨#[93]⟩ : ByteArray) = str (text l) := by
  apply ByteArray.ext
  simp [str, text, mid]

set_option maxRecDepth 100000 in
theorem format_any (A : Option Addr) (n c : Nat) (l : List Int) (w : World) (hr : Ints w A n c l) (ht : Tab w) :
    Calls Tryz.prog 18 #[.slice A n c] w fun e w' => e = .returned (.string (formatC l)) ∧ Ext w w' := by
  have CV := valid_any A n c l w hr
  cases hv : validC l with
  | false =>
    have F := Lib.hid (show formatC l = ⟨#[]⟩ by simp [formatC, hv])
    go_enter Tryz.func18, Tryz.ntmps18
    go_wp2_with (go_at_call 16; refine CV.mono ?_; rintro e w' ⟨rfl, rfl⟩)
    go_ret
    exact ⟨ret_str F.out.symm, Ext.refl _⟩
  | true =>
    obtain ⟨h1, h5, hall⟩ := valid_facts hv
    obtain ⟨i0, hi, hz0, hz1, hz2⟩ := info_parts str_info
    have HA := Lib.hid hr
    have HV := Lib.hid hall
    obtain rfl := hr.1
    have F := Lib.hid (show formatC l = str (text l) by simp [formatC, hv])
    clear hall hr
    go_enter Tryz.func18, Tryz.ntmps18
    go_wp2_with (go_at_call 16; refine CV.mono ?_; rintro e w' ⟨rfl, rfl⟩)
    go_loopw [3, 11] (fun v i wr => ∃ k : Nat, k ≤ l.length ∧ i = .int .i64 k ∧ wr.ownsRow w.heap.size 9 1 v k (nums l k) ∧ Ext w wr) (fun _ i _ => l.length - (intOf i).toNat)
    case atStart => exact ⟨0, Nat.zero_le _, rfl, World.ownsRow_nil _ _ _ _, (by repeat (first | exact Ext.refl _ | with_reducible assumption | refine Ext.drewN ?_ _ | refine Ext.drew ?_ | refine Ext.alloc ?_ _ | (refine Ext.trans ?_ (by with_reducible assumption))))⟩
    case round =>
      obtain ⟨k, hk, rfl, hown, hxr⟩ := hrel
      by_cases hlt : k < l.length
      · obtain ⟨b1, off1, rfl, hc1⟩ := HA.out.2.2.2 k hlt
        have hc1 := hxr.cell hc1
        obtain ⟨ka1, ka2⟩ := HV.out _ (List.getElem_mem hlt)
        have CI := Lib.hid (Tryz.strconv_Itoa l[k] (by omega) (by omega) wr (ht.ext hxr))
        have S := Lib.hid (nums_succ l k hlt)
        go_wp2_with fail
        refine CI.out.mono ?_
        rintro en w1 ⟨rfl, q, os, hw1⟩
        have hx1 : Ext wr w1 := by rw [hw1]; exact (Ext.refl wr).grow q os
        have hown1 : w1.ownsRow w.heap.size 9 1 u3 k (nums l k) := own_ext hown hx1
        clear hw1
        go_wp2_with (at_builtin; refine wpList_append_own _ rfl _ _ 74 rfl w.heap.size 9 i0 (.string ⟨#[]⟩) 1 16 Tryz.underlying74 hi hz0 hz1 hz2 rfl (by decide) u3 k (nums l k) rfl (hown1.alloc _) ⟨w1.heap.size, 0, none⟩ 1 1 [.string (str (Lib.itoa l[k]))] rfl ?qc1 ?qc2 ?qc3 ?qc4 ?qc5 ?qc6 ?_)
        case qc1 => rfl
        case qc2 => exact one_news
        case qc3 => simp [Value.oneCell']
        case qc4 => unfold maxLen; omega
        case qc5 => omega
        case qc6 => have := (hxr.trans hx1).size; simp; omega
        intro v' w2 hown2 hgrow hnil
        have hx2 : Ext w w2 := ((hxr.trans hx1).alloc _).grown hgrow (fun j hj => (hown.lt j hj).1)
        rw [← S.out] at hown2
        clear hown1 hown hgrow hnil hc1
        go_wp2
        go_roundw
        case rel => exact ⟨k + 1, by omega, by go_num, hown2, hx2⟩
        case measure => simp [intOf]; omega
      · have hke : k = l.length := by omega
        subst hke
        obtain ⟨A', c', rfl⟩ := own_form hown
        obtain ⟨g, rfl, hg1, hg2⟩ := own_addr hown h1
        have hcap : l.length ≤ c' := by
          rcases hown.2 with ⟨h', _⟩ | ⟨g', cap', cur, h', _, _, h2, _⟩
          · cases h'
          · cases h'; exact h2
        have CJ := Tryz.strings_Join g 0 c' (l.map (fun n => str (Lib.itoa n))) ⟨#[32]⟩ wr (fun j x hj => by
          have hjl : j < l.length := by
            have := (List.getElem?_eq_some_iff.1 hj).1
            simpa using this
          rw [Nat.zero_add, hown.cellAt j (by omega)]
          unfold nums
          rw [List.take_length, List.getElem?_map]
          rw [List.getElem?_map] at hj
          rw [List.getElem?_eq_getElem hjl] at hj ⊢
          simpa using hj) hg2 (by simp; omega) (by simpa using hcap) (by
          have := mid_short l h5 HV.out
          have e : (l.map (fun n => str (Lib.itoa n))).map (fun x : ByteArray => x.data.toList) = l.map Lib.itoa := by rw [List.map_map]; rfl
          rw [e]
          show (mid l).length ≤ _
          omega)
        have e : (l.map (fun n => str (Lib.itoa n))).map (fun x : ByteArray => x.data.toList) = l.map Lib.itoa := by rw [List.map_map]; rfl
        rw [e, List.length_map] at CJ
        have CJ' := Lib.hid CJ
        clear CJ e hown
        go_wp2_with fail
        refine CJ'.out.mono ?_
        rintro en w1 ⟨rfl, hx1⟩
        have hms : (Lib.join (List.map Lib.itoa l) [32]).length ≤ 30 := mid_short l h5 HV.out
        have n1 : ¬ 9223372036854775807 < 1 + (Lib.join (List.map Lib.itoa l) [32]).length := by omega
        have n2 : ¬ 9223372036854775807 < 1 + (Lib.join (List.map Lib.itoa l) [32]).length + 1 := by omega
        go_wp2
        go_ret
        exact ⟨ret_str (by rw [F.out]; exact text_parts l), hxr.trans hx1⟩
end Go.Proofs.YtolbcmniklbnmaaGreatDoor
