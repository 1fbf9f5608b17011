/- The walks of session.empty and proper. -/
import Derived.Test.YtolbcmniklbnmaaGreatDoorSesE
namespace Go.Proofs.YtolbcmniklbnmaaGreatDoor
open Go Go.RowKit Go.Deep

def nz (n : Int) : Bool := decide (n ≠ 0)
theorem empty1_any (n : Int) (w : World) : Calls Tryz.prog 64 #[.int .i64 n] w fun e w' => e = .returned (.bool (nz n)) ∧ w = w' := by
  by_cases h : n = 0
  · subst h
    go_enter Tryz.func64, Tryz.ntmps64
    go_wp2
    go_ret
    exact ⟨rfl, rfl⟩
  · have h' : (n == 0) = false := by simpa using h
    have h'' : (n != 0) = true := by simpa using h
    go_enter Tryz.func64, Tryz.ntmps64
    go_wp2
    go_ret
    exact ⟨ret_bool (by simp [nz, h]), rfl⟩

/-- slices.IndexFunc's answer -/
def idxC {α : Type} (p : α → Bool) (l : List α) : Int := match l.findIdx? p with | some k => k | none => -1
theorem idxC_hit {α : Type} {p : α → Bool} {l : List α} {k : Nat} (hk : k < l.length) (hp : p l[k] = true) (hb : (l.take k).any p = false) : idxC p l = k := by
  unfold idxC
  have h : l.findIdx? p = some k := by
    rw [List.findIdx?_eq_some_iff_getElem]
    refine ⟨hk, hp, fun j hj => ?_⟩
    have hjl : j < l.length := by omega
    rw [List.any_eq_false] at hb
    exact hb l[j] (by rw [List.mem_take_iff_getElem]; exact ⟨j, by omega, rfl⟩)
  rw [h]
theorem idxC_miss {α : Type} {p : α → Bool} {l : List α} (hb : l.any p = false) : idxC p l = -1 := by
  unfold idxC
  have h : l.findIdx? p = none := by
    rw [List.findIdx?_eq_none_iff]
    intro x hx
    rw [List.any_eq_false] at hb
    simpa using hb x hx
  rw [h]
theorem idxC_any {α : Type} (p : α → Bool) (l : List α) : decide (0 ≤ idxC p l) = l.any p := by
  cases h : l.any p with
  | false => rw [idxC_miss h]; rfl
  | true =>
    unfold idxC
    cases hf : l.findIdx? p with
    | none =>
      rw [List.findIdx?_eq_none_iff] at hf
      rw [List.any_eq_true] at h
      obtain ⟨x, hx, hp⟩ := h
      rw [hf x hx] at hp; cases hp
    | some k => simp
theorem any_take_succ {α : Type} {p : α → Bool} {l : List α} {k : Nat} (h : k < l.length) (hp : p l[k] = false) (ha : (l.take k).any p = false) : (l.take (k + 1)).any p = false := by
  rw [List.take_succ_eq_append_getElem h, List.any_append, ha]; simp [hp]
theorem any_of_take {α : Type} {p : α → Bool} {l : List α} {k : Nat} (h : l.length ≤ k) (ha : (l.take k).any p = false) : l.any p = false := by
  rwa [List.take_of_length_le h] at ha

theorem index_nz (A : Option Addr) (n c : Nat) (l : List Int) (w : World) (hr : Ints w A n c l) :
    Calls Tryz.prog 82 #[.slice A n c, .func (.func 64) #[] #[]] w fun e w' => e = .returned (.int .i64 (idxC nz l)) ∧ w = w' := by
  obtain ⟨rfl, h1c, h2c, hr⟩ := hr
  go_enter Tryz.func82, Tryz.ntmps82
  go_wp2
  go_loop [8] (fun i => ∃ k : Nat, k ≤ l.length ∧ i = .int .i64 k ∧ (l.take k).any nz = false) (fun i => l.length - (intOf i).toNat)
  case atStart => exact ⟨0, Nat.zero_le _, rfl, by simp⟩
  case round =>
    obtain ⟨k, hk, rfl, hall⟩ := hrel
    have H := Lib.hid hall
    clear hall
    by_cases hlt : k < l.length
    · obtain ⟨b, off, rfl, hc⟩ := hr k hlt
      clear hr
      cases hv : nz l[k] with
      | true =>
        have F := Lib.hid (idxC_hit hlt hv H.out)
        go_wp2_with (go_at_call 64; refine (empty1_any _ _).mono ?_; rintro e w' ⟨rfl, rfl⟩)
        go_ret
        exact ⟨ret_int F.out.symm, rfl⟩
      | false =>
        have F := Lib.hid (any_take_succ hlt hv H.out)
        go_wp2_with (go_at_call 64; refine (empty1_any _ _).mono ?_; rintro e w' ⟨rfl, rfl⟩)
        go_round
        case rel => exact ⟨k + 1, by omega, by go_num, F.out⟩
        case measure => simp [intOf]; omega
    · have F := Lib.hid (idxC_miss (any_of_take (by omega) H.out))
      go_wp2
      go_ret
      exact ⟨ret_int F.out.symm, rfl⟩

theorem contains_nz (A : Option Addr) (n c : Nat) (l : List Int) (w : World) (hr : Ints w A n c l) :
    Calls Tryz.prog 63 #[.slice A n c, .func (.func 64) #[] #[]] w fun e w' => e = .returned (.bool (l.any nz)) ∧ w = w' := by
  have C := Lib.hid (index_nz A n c l w hr)
  have F := Lib.hid (idxC_any nz l)
  go_enter Tryz.func63, Tryz.ntmps63
  go_wp2_with (go_at_call 82; refine (C.out).mono ?_; rintro e w' ⟨rfl, rfl⟩)
  go_ret
  exact ⟨ret_bool F.out, rfl⟩

theorem Ints.block {w : World} {l : List Int} {t : TypeId} (h : l.length ≤ 9223372036854775807) : Ints (w.alloc (.cells (l.map (Value.int .i64)).toArray t)) (some ⟨w.heap.size, 0, none⟩) l.length l.length l :=
  ⟨rfl, Nat.le_refl _, h, fun k hk => ⟨w.heap.size, 0, rfl, by rw [cell_new]; simp [hk]⟩⟩

/-- session.empty -/
def emptyC (e : Ev) : Bool := decide (e = zeroEv)
theorem emptyC_eq (e : Ev) : emptyC e = (decide (e.past.length = 0) && (decide (e.gkind = 0 ∧ e.gindex = 0 ∧ e.gelement = 0 ∧ e.gamount = 0) && !([e.replica, e.number, e.time, e.kind, e.action, e.to, e.place, e.serial].any nz))) := by
  cases e
  simp [emptyC, zeroEv, nz]
  rw [Bool.eq_iff_iff]
  simp
  constructor
  · rintro ⟨rfl, rfl, rfl, rfl, rfl, rfl, rfl, rfl, rfl, rfl, rfl, rfl, rfl⟩; simp
  · rintro ⟨rfl, ⟨rfl, rfl, rfl, rfl⟩, rfl, rfl, rfl, rfl, rfl, rfl, rfl, rfl⟩; simp

theorem empty_not {e : Ev} (h : ¬ e = zeroEv) : false = emptyC e := by simp [emptyC, h]
theorem empty_all {e : Ev} (hE : emptyC e = (decide (e.past.length = 0) && (decide (e.gkind = 0 ∧ e.gindex = 0 ∧ e.gelement = 0 ∧ e.gamount = 0) && !([e.replica, e.number, e.time, e.kind, e.action, e.to, e.place, e.serial].any nz))))
    (h0 : e.past.length = 0) (h1 : e.gkind = 0) (h2 : e.gindex = 0) (h3 : e.gelement = 0) (h4 : e.gamount = 0) :
    (!nz e.replica && (!nz e.number && (!nz e.time && (!nz e.kind && (!nz e.action && (!nz e.to && (!nz e.place && !nz e.serial))))))) = emptyC e := by
  rw [hE, h0, h1, h2, h3, h4]; simp

set_option maxRecDepth 100000 in
set_option maxHeartbeats 2000000 in
theorem empty_any (e : Ev) (A : Option Addr) (n c : Nat) (w : World) (hr : Ints w A n c e.past) :
    Calls Tryz.prog 42 #[.agg (e.cells A n c)] w fun en w' => en = .returned (.bool (emptyC e)) ∧ Ext w w' := by
  obtain ⟨b0, b1, b2, b3, b4, b5, b6, b7, b8, b9, b10, b11, b12⟩ := box_cells e A n c w
  have hi := Ints.block (w := w.alloc (.cells (e.cells A n c) 35)) (l := [e.replica, e.number, e.time, e.kind, e.action, e.to, e.place, e.serial]) (t := 3) (by simp)
  rw [World.size_alloc] at hi
  have hi : Ints ((w.alloc (.cells (e.cells A n c) 35)).alloc (.cells #[.int .i64 e.replica, .int .i64 e.number, .int .i64 e.time, .int .i64 e.kind, .int .i64 e.action, .int .i64 e.to, .int .i64 e.place, .int .i64 e.serial] 3)) (some ⟨w.heap.size + 1, 0, none⟩) 8 8 [e.replica, e.number, e.time, e.kind, e.action, e.to, e.place, e.serial] := hi
  have C := Lib.hid (contains_nz _ _ _ _ _ hi)
  have hn := hr.1
  have B3 := fun o => ((Ext.refl _).alloc o).cell b3
  have B6 := fun o => ((Ext.refl _).alloc o).cell b6
  have B7 := fun o => ((Ext.refl _).alloc o).cell b7
  have B8 := fun o => ((Ext.refl _).alloc o).cell b8
  have B9 := fun o => ((Ext.refl _).alloc o).cell b9
  have HE := Lib.hid (emptyC_eq e)
  have HN := Lib.hid hn
  clear hr hi hn
  by_cases h0 : n = 0
  · have h0' : ((n : Int) == 0) = true := by rw [h0]; rfl
    have H0 := Lib.hid h0
    clear h0
    go_enter Tryz.func42, Tryz.ntmps42
    go_wp2_with (go_at_call 63; refine (C.out).mono ?_; rintro e w' ⟨rfl, rfl⟩)
    all_goals go_ret
    all_goals first
      | exact ⟨ret_bool (empty_all HE.out (by rw [HN.out, H0.out]) (by assumption) (by assumption) (by assumption) (by assumption)), (by repeat (first | exact Ext.refl _ | with_reducible assumption | refine Ext.drewN ?_ _ | refine Ext.drew ?_ | refine Ext.alloc ?_ _ | (refine Ext.trans ?_ (by with_reducible assumption))))⟩
      | exact ⟨ret_bool (empty_not (fun h => absurd (congrArg Ev.gkind h) (by assumption))), (by repeat (first | exact Ext.refl _ | with_reducible assumption | refine Ext.drewN ?_ _ | refine Ext.drew ?_ | refine Ext.alloc ?_ _ | (refine Ext.trans ?_ (by with_reducible assumption))))⟩
      | exact ⟨ret_bool (empty_not (fun h => absurd (congrArg Ev.gindex h) (by assumption))), (by repeat (first | exact Ext.refl _ | with_reducible assumption | refine Ext.drewN ?_ _ | refine Ext.drew ?_ | refine Ext.alloc ?_ _ | (refine Ext.trans ?_ (by with_reducible assumption))))⟩
      | exact ⟨ret_bool (empty_not (fun h => absurd (congrArg Ev.gelement h) (by assumption))), (by repeat (first | exact Ext.refl _ | with_reducible assumption | refine Ext.drewN ?_ _ | refine Ext.drew ?_ | refine Ext.alloc ?_ _ | (refine Ext.trans ?_ (by with_reducible assumption))))⟩
      | exact ⟨ret_bool (empty_not (fun h => absurd (congrArg Ev.gamount h) (by assumption))), (by repeat (first | exact Ext.refl _ | with_reducible assumption | refine Ext.drewN ?_ _ | refine Ext.drew ?_ | refine Ext.alloc ?_ _ | (refine Ext.trans ?_ (by with_reducible assumption))))⟩
  · have h0' : ((n : Int) == 0) = false := by simp; omega
    have F := Lib.hid (show emptyC e = false by rw [emptyC_eq, HN.out, decide_eq_false h0]; rfl)
    clear h0
    go_enter Tryz.func42, Tryz.ntmps42
    go_wp2
    go_ret
    exact ⟨ret_bool F.out.symm, (by repeat (first | exact Ext.refl _ | with_reducible assumption | refine Ext.drewN ?_ _ | refine Ext.drew ?_ | refine Ext.alloc ?_ _ | (refine Ext.trans ?_ (by with_reducible assumption))))⟩

/-- session.proper -/
def properC (a : SAct) (r : Int) : Bool := if a.write then decide (a.clock.length = 0) && writeC a.event r else fitsC a.clock r && emptyC a.event

set_option maxRecDepth 100000 in
set_option maxHeartbeats 1000000 in
theorem proper_any (a : SAct) (s : Sls) (r : Int) (w : World) (ha : a.In w s) :
    Calls Tryz.prog 25 #[.agg (a.cells s), .int .i64 r] w fun en w' => en = .returned (.bool (properC a r)) ∧ Ext w w' := by
  obtain ⟨b0, b1, b2, b3, b4, b5, b6, b7, b8, b9, b10, b11, b12, b13, b14⟩ := act_cells a s w
  have CW := fun (W : World) (k : Sub w W) => write_any a.event s.B s.m s.d r W (ha.2.sub k)
  have CF := fun (W : World) (k : Sub w W) => fits_any s.A s.n s.c a.clock r W (ha.1.sub k)
  have CE := Lib.hid (fun (W : World) (k : Sub w W) => empty_any a.event s.B s.m s.d W (ha.2.sub k))
  have HN := Lib.hid ha.1.1
  clear ha
  cases hw : a.write with
  | true =>
    rw [hw] at b0
    have CW := Lib.hid CW
    by_cases h0 : s.n = 0
    · have h0' : ((s.n : Int) == 0) = true := by rw [h0]; rfl
      have F := Lib.hid (show properC a r = writeC a.event r by simp [properC, hw, HN.out, h0])
      clear h0
      go_enter Tryz.func25, Tryz.ntmps25
      go_wp2_with (go_at_call 19; refine (CW.out _ (by repeat (first | exact Sub.refl _ | with_reducible assumption | refine Sub.drewN ?_ _ | refine Sub.drew ?_ | refine Sub.alloc ?_ _ | (refine Sub.trans ?_ (by with_reducible assumption))))).mono ?_; rintro e w1 ⟨rfl, hx⟩)
      go_ret
      exact ⟨ret_bool F.out.symm, ((Ext.refl w).alloc _).trans hx⟩
    · have h0' : ((s.n : Int) == 0) = false := by simp; omega
      have F := Lib.hid (show properC a r = false by simp [properC, hw, HN.out, h0])
      clear h0
      go_enter Tryz.func25, Tryz.ntmps25
      go_wp2
      go_ret
      exact ⟨ret_bool F.out.symm, (by repeat (first | exact Ext.refl _ | with_reducible assumption | refine Ext.drewN ?_ _ | refine Ext.drew ?_ | refine Ext.alloc ?_ _ | (refine Ext.trans ?_ (by with_reducible assumption))))⟩
  | false =>
    rw [hw] at b0
    cases hf : fitsC a.clock r with
    | false =>
      have F := Lib.hid (show properC a r = false by simp [properC, hw, hf])
      simp only [hf] at CF
      have CF' := Lib.hid CF
      clear CF
      go_enter Tryz.func25, Tryz.ntmps25
      go_wp2_with (go_at_call 22; refine (CF'.out _ (by repeat (first | exact Sub.refl _ | with_reducible assumption | refine Sub.drewN ?_ _ | refine Sub.drew ?_ | refine Sub.alloc ?_ _ | (refine Sub.trans ?_ (by with_reducible assumption))))).mono ?_; rintro e w1 ⟨rfl, rfl⟩)
      go_ret
      exact ⟨ret_bool F.out.symm, (by repeat (first | exact Ext.refl _ | with_reducible assumption | refine Ext.drewN ?_ _ | refine Ext.drew ?_ | refine Ext.alloc ?_ _ | (refine Ext.trans ?_ (by with_reducible assumption))))⟩
    | true =>
      have F := Lib.hid (show properC a r = emptyC a.event by simp [properC, hw, hf])
      simp only [hf] at CF
      have CF' := Lib.hid CF
      clear CF CW
      go_enter Tryz.func25, Tryz.ntmps25
      go_wp2_with (first | (go_at_call 22; refine (CF'.out _ (by repeat (first | exact Sub.refl _ | with_reducible assumption | refine Sub.drewN ?_ _ | refine Sub.drew ?_ | refine Sub.alloc ?_ _ | (refine Sub.trans ?_ (by with_reducible assumption))))).mono ?_; rintro e w1 ⟨rfl, rfl⟩) | (go_at_call 42; refine (CE.out _ (by repeat (first | exact Sub.refl _ | with_reducible assumption | refine Sub.drewN ?_ _ | refine Sub.drew ?_ | refine Sub.alloc ?_ _ | (refine Sub.trans ?_ (by with_reducible assumption))))).mono ?_; rintro e w1 ⟨rfl, hx⟩))
      go_ret
      exact ⟨ret_bool F.out.symm, ((Ext.refl w).alloc _).trans hx⟩
end Go.Proofs.YtolbcmniklbnmaaGreatDoor
