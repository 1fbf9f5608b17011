/- The walk of session.Check. -/
import Derived.Test.YtolbcmniklbnmaaGreatDoorSesH
namespace Go.Proofs.YtolbcmniklbnmaaGreatDoor
open Go Go.RowKit Go.Deep

/-- The first guarantee that an act breaks behind others, among the first j. -/
def firstTo (a : SAct) (pre : List SAct) : Nat → Option Int
  | 0 => none
  | j + 1 => match firstTo a pre j with
    | some x => some x
    | none => if (gact j == a.write) && pre.any (brkC j a) then some ((j : Int) + 1) else none
/-- What one round of session.Check answers, if it answers. -/
def stepC (r : Int) (l : List SAct) (k : Nat) : Option (Int × Int) :=
  match l[k]? with
  | none => none
  | some a => if properC a r then (match firstTo a (l.take k) 4 with | some g => some (g, (k : Int)) | none => none) else some (0, (k : Int))
def goC (r : Int) (l : List SAct) : Nat → Option (Int × Int)
  | 0 => none
  | k + 1 => match goC r l k with | some x => some x | none => stepC r l k
/-- session.Check -/
def checkC (r : Int) (l : List SAct) : Int × Int := if r < 1 ∨ 5 < r then (0, 0) else match goC r l l.length with | some x => x | none => (0, -1)

theorem goC_mono {r : Int} {l : List SAct} {k n : Nat} {x : Int × Int} (h : goC r l k = some x) (hk : k ≤ n) : goC r l n = some x := by
  induction n with
  | zero => have : k = 0 := by omega
            subst this; exact h
  | succ n ih =>
    by_cases he : k = n + 1
    · subst he; exact h
    · rw [goC, ih (by omega)]
theorem check_hit {r : Int} {l : List SAct} {k : Nat} {x : Int × Int} (h1 : 1 ≤ r) (h5 : r ≤ 5) (hk : k < l.length) (hn : goC r l k = none) (hs : stepC r l k = some x) : checkC r l = x := by
  unfold checkC
  rw [if_neg (by omega)]
  have : goC r l (k + 1) = some x := by rw [goC, hn]; exact hs
  rw [goC_mono this (by omega)]
theorem firstTo_mono {a : SAct} {pre : List SAct} {j n : Nat} {x : Int} (h : firstTo a pre j = some x) (hj : j ≤ n) : firstTo a pre n = some x := by
  induction n with
  | zero => have : j = 0 := by omega
            subst this; exact h
  | succ n ih =>
    by_cases he : j = n + 1
    · subst he; exact h
    · rw [firstTo, ih (by omega)]
theorem step_hit {r : Int} {l : List SAct} {k j : Nat} (hk : k < l.length) (hp : properC l[k] r = true) (hj : j < 4) (hn : firstTo l[k] (l.take k) j = none) (hg : ((gact j == l[k].write) && (l.take k).any (brkC j l[k])) = true) : stepC r l k = some ((j : Int) + 1, (k : Int)) := by
  have h : firstTo l[k] (l.take k) (j + 1) = some ((j : Int) + 1) := by rw [firstTo, hn]; simp only [hg, if_true]
  unfold stepC
  rw [List.getElem?_eq_getElem hk]
  simp only [hp, if_true, firstTo_mono h (show j + 1 ≤ 4 by omega)]
theorem step_miss {r : Int} {l : List SAct} {k : Nat} (hk : k < l.length) (hp : properC l[k] r = true) (hn : firstTo l[k] (l.take k) 4 = none) : stepC r l k = none := by
  unfold stepC
  rw [List.getElem?_eq_getElem hk]
  simp only [hp, if_true, hn]
theorem step_bad {r : Int} {l : List SAct} {k : Nat} (hk : k < l.length) (hp : properC l[k] r = false) : stepC r l k = some (0, (k : Int)) := by
  unfold stepC
  rw [List.getElem?_eq_getElem hk]
  simp [hp]

theorem ret_pair {a b c d : Int} (h : a = c) (k : b = d) : Ending.returned (.tuple #[.int .i64 a, .int .i64 b]) = .returned (.tuple #[.int .i64 c, .int .i64 d]) := by rw [h, k]

theorem check_no (r : Int) (A : Option Addr) (n c : Nat) (w : World) (h : r < 1 ∨ 5 < r) :
    Calls Tryz.prog 13 #[.int .i64 r, .slice A n c] w fun en w' => en = .returned (.tuple #[.int .i64 0, .int .i64 0]) ∧ Ext w w' := by
  by_cases h1 : r < 1
  · go_enter Tryz.func13, Tryz.ntmps13
    go_wp2
    go_ret2
    exact ⟨rfl, Ext.refl _⟩
  · have h5 : 5 < r := by omega
    go_enter Tryz.func13, Tryz.ntmps13
    go_wp2
    go_ret2
    exact ⟨rfl, Ext.refl _⟩

set_option maxRecDepth 100000 in
set_option maxHeartbeats 4000000 in
theorem check_yes (r : Int) (A : Option Addr) (n c : Nat) (l : List SAct) (w : World) (hr : Acts w A n c l) (h1 : 1 ≤ r) (h5 : r ≤ 5) :
    Calls Tryz.prog 13 #[.int .i64 r, .slice A n c] w fun en w' => en = .returned (.tuple #[.int .i64 (checkC r l).1, .int .i64 (checkC r l).2]) ∧ Ext w w' := by
  have HA := Lib.hid hr
  obtain ⟨rfl, h1c, h2c, hr⟩ := hr
  have HR := Lib.hid hr
  clear hr
  have d1 : decide (r < 1) = false := by simp; omega
  have d5 : decide (5 < r) = false := by simp; omega
  go_enter Tryz.func13, Tryz.ntmps13
  go_wp2
  go_loopw [18] (fun i wr => ∃ k : Nat, k ≤ l.length ∧ i = .int .i64 k ∧ goC r l k = none ∧ Ext w wr) (fun i _ => l.length - (intOf i).toNat)
  case atStart => exact ⟨0, Nat.zero_le _, rfl, rfl, Ext.refl _⟩
  case round =>
    obtain ⟨k, hk, rfl, hgo, hx⟩ := hrel
    have HGO := Lib.hid hgo
    clear hgo
    by_cases hlt : k < l.length
    · obtain ⟨b, off, s, rfl, hcell, hin⟩ := HR.out k hlt
      have c0 : wr.cell? ⟨b, off + k * 15, none⟩ = some (.bool l[k].write) := hx.cell (hcell 0 (.bool l[k].write) rfl)
      have c1 : wr.cell? ⟨b, off + k * 15 + 1, none⟩ = some (.slice s.A s.n s.c) := hx.cell (hcell 1 (.slice s.A s.n s.c) rfl)
      have c2 : wr.cell? ⟨b, off + k * 15 + 2, none⟩ = some (.int .i64 l[k].event.replica) := hx.cell (hcell 2 (.int .i64 l[k].event.replica) rfl)
      have c3 : wr.cell? ⟨b, off + k * 15 + 3, none⟩ = some (.int .i64 l[k].event.number) := hx.cell (hcell 3 (.int .i64 l[k].event.number) rfl)
      have c4 : wr.cell? ⟨b, off + k * 15 + 4, none⟩ = some (.int .i64 l[k].event.time) := hx.cell (hcell 4 (.int .i64 l[k].event.time) rfl)
      have c5 : wr.cell? ⟨b, off + k * 15 + 5, none⟩ = some (.slice s.B s.m s.d) := hx.cell (hcell 5 (.slice s.B s.m s.d) rfl)
      have c6 : wr.cell? ⟨b, off + k * 15 + 6, none⟩ = some (.int .i64 l[k].event.kind) := hx.cell (hcell 6 (.int .i64 l[k].event.kind) rfl)
      have c7 : wr.cell? ⟨b, off + k * 15 + 7, none⟩ = some (.int .i64 l[k].event.action) := hx.cell (hcell 7 (.int .i64 l[k].event.action) rfl)
      have c8 : wr.cell? ⟨b, off + k * 15 + 8, none⟩ = some (.int .i64 l[k].event.gkind) := hx.cell (hcell 8 (.int .i64 l[k].event.gkind) rfl)
      have c9 : wr.cell? ⟨b, off + k * 15 + 9, none⟩ = some (.int .i64 l[k].event.gindex) := hx.cell (hcell 9 (.int .i64 l[k].event.gindex) rfl)
      have c10 : wr.cell? ⟨b, off + k * 15 + 10, none⟩ = some (.int .i64 l[k].event.gelement) := hx.cell (hcell 10 (.int .i64 l[k].event.gelement) rfl)
      have c11 : wr.cell? ⟨b, off + k * 15 + 11, none⟩ = some (.int .i64 l[k].event.gamount) := hx.cell (hcell 11 (.int .i64 l[k].event.gamount) rfl)
      have c12 : wr.cell? ⟨b, off + k * 15 + 12, none⟩ = some (.int .i64 l[k].event.to) := hx.cell (hcell 12 (.int .i64 l[k].event.to) rfl)
      have c13 : wr.cell? ⟨b, off + k * 15 + 13, none⟩ = some (.int .i64 l[k].event.place) := hx.cell (hcell 13 (.int .i64 l[k].event.place) rfl)
      have c14 : wr.cell? ⟨b, off + k * 15 + 14, none⟩ = some (.int .i64 l[k].event.serial) := hx.cell (hcell 14 (.int .i64 l[k].event.serial) rfl)
      clear hcell
      have CP := Lib.hid (fun (W : World) (h : Ext w W) => proper_any l[k] s r W (hin.ext h))
      cases hp : properC l[k] r with
      | false =>
        have F := Lib.hid (check_hit h1 h5 hlt HGO.out (step_bad hlt hp))
        go_wp2_with fail
        refine (CP.out _ (hx.alloc _)).mono ?_
        rintro en w1 ⟨rfl, hx1⟩
        clear c0 c1 c2 c3 c4 c5 c6 c7 c8 c9 c10 c11 c12 c13 c14
        go_wp2
        go_ret2
        exact ⟨ret_pair (congrArg Prod.fst F.out).symm (congrArg Prod.snd F.out).symm, (hx.alloc _).trans hx1⟩
      | true =>
        go_wp2_with fail
        refine (CP.out _ (hx.alloc _)).mono ?_
        rintro en w1 ⟨rfl, hx1⟩
        have hxw : Ext w w1 := (hx.alloc _).trans hx1
        have hbox : ∀ i v, (l[k].cells s)[i]? = some v → w1.cell? ⟨wr.heap.size, i, none⟩ = some v := fun i v h => hx1.cell ((cell_new wr (l[k].cells s) 37 i).trans h)
        clear c0 c1 c2 c3 c4 c5 c6 c7 c8 c9 c10 c11 c12 c13 c14 hx1
        obtain ⟨ab, hab⟩ : ∃ ab, ab = wr.heap.size := ⟨_, rfl⟩
        rw [← hab] at hbox ⊢
        clear hab
        have HB := Lib.hid hbox
        clear hbox
        go_wp2_with fail
        refine (guarantees_any w1).mono ?_
        rintro en w2 ⟨rfl, hw2⟩
        have hx2 : Ext w1 w2 := by rw [← hw2]; exact (by repeat (first | exact Ext.refl _ | with_reducible assumption | refine Ext.drewN ?_ _ | refine Ext.drew ?_ | refine Ext.alloc ?_ _ | (refine Ext.trans ?_ (by with_reducible assumption))))
        have hnb : w2.cell? ⟨w1.heap.size, 0, none⟩ = some (.func (.func 43) #[] #[]) := by
          rw [← hw2]; exact ((Ext.refl _).alloc _).cell (cell_new w1 _ _ 0)
        have hgs : ∀ i v, (gcells w1.heap.size)[i]? = some v → w2.cell? ⟨w1.heap.size + 1, i, none⟩ = some v := fun i v h => by
          have hh := cell_new (w1.alloc (.cells #[.func (.func 43) #[] #[]] 91)) (gcells w1.heap.size) 67 i
          rw [World.size_alloc] at hh
          rw [← hw2]
          exact hh.trans h
        have hx20 : Ext w w2 := hxw.trans hx2
        have hab2 : ∀ i v, (l[k].cells s)[i]? = some v → w2.cell? ⟨ab, i, none⟩ = some v := fun i v h => hx2.cell (HB.out i v h)
        obtain ⟨nb, hnbe⟩ : ∃ nb, nb = w1.heap.size := ⟨_, rfl⟩
        rw [← hnbe] at hnb hgs ⊢
        have HGS := Lib.hid hgs
        have HNB := Lib.hid hnb
        have HAB := Lib.hid hab2
        have HX20 := Lib.hid hx20
        have aw : w2.cell? ⟨ab, 0, none⟩ = some (.bool l[k].write) := hab2 0 _ rfl
        have AW := Lib.hid aw
        clear hw2 hnbe hgs hnb hab2 hx20 hxw hx2 aw HB CP hx
        go_wp2_with fail
        obtain ⟨wo, rfl⟩ : ∃ wo : World, wo = wr := ⟨_, rfl⟩
        go_loopw [30] (fun i wi => ∃ j : Nat, j ≤ 4 ∧ i = .int .i64 j ∧ firstTo l[k] (l.take k) j = none ∧ Ext w2 wi) (fun i _ => 4 - (intOf i).toNat)
        case atStart => exact ⟨0, Nat.zero_le _, rfl, rfl, Ext.refl _⟩
        case round =>
          obtain ⟨j, hj, rfl, hfst, hxi⟩ := hrel
          have HF := Lib.hid hfst
          clear hfst
          by_cases hltj : j < 4
          · obtain ⟨e0, e1, e2, e3⟩ := gcells_at nb j hltj
            have g0 := hxi.cell (HGS.out _ _ e0)
            have g1 := hxi.cell (HGS.out _ _ e1)
            have g2 := hxi.cell (HGS.out _ _ e2)
            have g3 := hxi.cell (HGS.out _ _ e3)
            have aw := fun o => ((Ext.refl wr).alloc o).cell (hxi.cell AW.out)
            clear e0 e1 e2 e3
            by_cases hw : gact j = l[k].write
            · have hw' : (gact j == l[k].write) = true := by simpa using hw
              have HW := Lib.hid hw'
              clear hw
              have hxx : Ext w (wr.alloc (.cells #[.int .i64 ((j : Int) + 1), .bool (gact j), .bool (gbefore j), .func (gfn j) #[] (gcap nb j)] 67)) := (HX20.out.trans hxi).alloc _
              have C := Lib.hid (contains_acts wr.heap.size ab (brkC j l[k]) (some ⟨b, off, none⟩) k c (l.take k) _ ((HA.out.take hk).ext hxx) (fun b t W hW hb => check1_any j l[k] b s t wr.heap.size ab nb W (hin.ext (hxx.trans hW)) hb (hW.cell (cell_new wr _ _ 2)) (hW.cell (cell_new wr _ _ 3)) (hW.cell (((Ext.refl wr).alloc _).cell (hxi.cell HNB.out))) (fun i v h => hW.cell (((Ext.refl wr).alloc _).cell (hxi.cell (HAB.out i v h))))))
              cases hany : (l.take k).any (brkC j l[k]) with
              | true =>
                have F := Lib.hid (check_hit h1 h5 hlt HGO.out (step_hit hlt hp hltj HF.out (by rw [HW.out, hany]; rfl)))
                go_wp2_with fail
                refine (C.out).mono ?_
                rintro en w5 ⟨rfl, hx5⟩
                have y0 : w5.cell? ⟨wr.heap.size, 0, none⟩ = some (.int .i64 ((j : Int) + 1)) := hx5.cell (cell_new wr _ _ 0)
                clear g0 g1 g2 g3
                go_wp2
                go_ret2
                exact ⟨ret_pair (congrArg Prod.fst F.out).symm (congrArg Prod.snd F.out).symm, hxx.trans hx5⟩
              | false =>
                have F := Lib.hid (show firstTo l[k] (l.take k) (j + 1) = none by rw [firstTo, HF.out]; simp [hany])
                go_wp2_with fail
                refine (C.out).mono ?_
                rintro en w5 ⟨rfl, hx5⟩
                clear g0 g1 g2 g3
                go_wp2
                go_roundw
                case rel => exact ⟨j + 1, by omega, by go_num, F.out, (hxi.alloc _).trans hx5⟩
                case measure => simp [intOf]; omega
            · have hw' : (gact j == l[k].write) = false := by simpa using hw
              have F := Lib.hid (show firstTo l[k] (l.take k) (j + 1) = none by rw [firstTo, HF.out]; simp [hw'])
              clear hw
              go_wp2
              go_roundw
              case rel => exact ⟨j + 1, by omega, by go_num, F.out, (by repeat (first | exact Ext.refl _ | with_reducible assumption | refine Ext.drewN ?_ _ | refine Ext.drew ?_ | refine Ext.alloc ?_ _ | (refine Ext.trans ?_ (by with_reducible assumption))))⟩
              case measure => simp [intOf]; omega
          · have F := Lib.hid (show goC r l (k + 1) = none by
              rw [goC, HGO.out]
              exact step_miss hlt hp (by have := HF.out; rwa [show j = 4 from by omega] at this))
            have hx9 := HX20.out.trans hxi
            clear AW
            go_wp2
            go_roundw
            case rel => exact ⟨k + 1, by omega, by go_num, F.out, hx9⟩
            case measure => simp [intOf]; omega
    · have F := Lib.hid (show checkC r l = (0, -1) by
        unfold checkC
        rw [if_neg (by omega), show l.length = k from by omega, HGO.out])
      go_wp2
      go_ret2
      exact ⟨ret_pair (congrArg Prod.fst F.out).symm (congrArg Prod.snd F.out).symm, hx⟩
end Go.Proofs.YtolbcmniklbnmaaGreatDoor
