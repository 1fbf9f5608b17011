/- The walks of session.Acknowledge and Wrote. -/
import Derived.Test.YtolbcmniklbnmaaGreatDoorSesB
namespace Go.Proofs.YtolbcmniklbnmaaGreatDoor
open Go Go.RowKit Go.Deep

/-- What session.Acknowledge answers, and the clock behind it. -/
def ackC (s : List Int) (e : Ev) : Int × List Int := if writeC e s.length then (0, joinC [s, e.past.set e.replica.toNat e.number]) else (1, s)
/-- What session.Wrote answers, and the clock behind it. -/
def wroteC (s : List Int) (e : Ev) : Int × List Int := if writeC e s.length then (if containsC e.past s then ackC s e else (9, s)) else (1, s)

theorem formed_facts {e : Ev} (h : formedC e = true) : validC e.past = true ∧ 0 ≤ e.replica ∧ e.replica < e.past.length ∧ e.number = e.past.getD e.replica.toNat 0 + 1 ∧ e.number ≤ 1024 := by
  simp only [formedC, btw, Bool.and_eq_true, decide_eq_true_eq] at h
  exact ⟨h.1, h.2.1.1, by omega, h.2.2.1, h.2.2.2.1⟩

set_option maxRecDepth 100000 in
set_option maxHeartbeats 2000000 in
theorem ack_any (b : Nat) (A B : Option Addr) (n c m d : Nat) (s : List Int) (e : Ev) (w : World) (hs : Ses w b A n c s) (hl : Ints w B m d e.past) :
    Calls Tryz.prog 21 #[.pointer (some ⟨b, 0, none⟩), .agg (e.cells B m d)] w fun en w' => en = .returned (.int .i64 (ackC s e).1) ∧ (∃ A' n' c', Ses w' b A' n' c' (ackC s e).2) ∧ But b w w' := by
  obtain ⟨b0, b1, b2, b3, b4, b5, b6, b7, b8, b9, b10, b11, b12⟩ := box_cells e B m d w
  have hxa : Ext w (w.alloc (.cells (e.cells B m d) 35)) := (by repeat (first | exact Ext.refl _ | with_reducible assumption | refine Ext.drewN ?_ _ | refine Ext.drew ?_ | refine Ext.alloc ?_ _ | (refine Ext.trans ?_ (by with_reducible assumption))))
  have hc := hxa.cell hs.cell
  have hn := hs.2.1
  have hbl := lt_of_block hs.1
  have hne : ¬ w.heap.size = b := by omega
  have CW := fun (W : World) (h : Sub w W) => write_any e B m d n W (hl.sub h)
  have Q0 := Lib.hid b0
  have Q1 := Lib.hid b1
  have Q2 := Lib.hid b2
  have Q3 := Lib.hid b3
  have Q4 := Lib.hid b4
  have Q5 := Lib.hid b5
  have Q6 := Lib.hid b6
  have Q7 := Lib.hid b7
  have Q8 := Lib.hid b8
  have Q9 := Lib.hid b9
  have Q10 := Lib.hid b10
  have Q11 := Lib.hid b11
  have Q12 := Lib.hid b12
  have QC := Lib.hid hc
  cases hf : writeC e n with
  | false =>
    have F := Lib.hid (show ackC s e = (1, s) by simp [ackC, hn, hf])
    rw [hf] at CW
    have CW' := Lib.hid CW
    have HS := Lib.hid hs
    clear hs hl hn CW
    go_enter Tryz.func21, Tryz.ntmps21
    go_wp2_with fail
    go_region_held3 (fun w' => w'.cell? ⟨w.heap.size, 0, none⟩ = some (.int .i64 e.replica) ∧ w'.cell? ⟨w.heap.size, 1, none⟩ = some (.int .i64 e.number) ∧ w'.cell? ⟨w.heap.size, 2, none⟩ = some (.int .i64 e.time) ∧ w'.cell? ⟨w.heap.size, 3, none⟩ = some (.slice B m d) ∧ w'.cell? ⟨w.heap.size, 4, none⟩ = some (.int .i64 e.kind) ∧ w'.cell? ⟨w.heap.size, 5, none⟩ = some (.int .i64 e.action) ∧ w'.cell? ⟨w.heap.size, 6, none⟩ = some (.int .i64 e.gkind) ∧ w'.cell? ⟨w.heap.size, 7, none⟩ = some (.int .i64 e.gindex) ∧ w'.cell? ⟨w.heap.size, 8, none⟩ = some (.int .i64 e.gelement) ∧ w'.cell? ⟨w.heap.size, 9, none⟩ = some (.int .i64 e.gamount) ∧ w'.cell? ⟨w.heap.size, 10, none⟩ = some (.int .i64 e.to) ∧ w'.cell? ⟨w.heap.size, 11, none⟩ = some (.int .i64 e.place) ∧ w'.cell? ⟨w.heap.size, 12, none⟩ = some (.int .i64 e.serial) ∧ w'.cell? ⟨b, 0, none⟩ = some (.slice A n c)) (first | go_keep | exact ⟨hx.cell Q0.out, hx.cell Q1.out, hx.cell Q2.out, hx.cell Q3.out, hx.cell Q4.out, hx.cell Q5.out, hx.cell Q6.out, hx.cell Q7.out, hx.cell Q8.out, hx.cell Q9.out, hx.cell Q10.out, hx.cell Q11.out, hx.cell Q12.out, hx.cell QC.out⟩) (first | (go_at_call 19; refine (CW'.out _ (by repeat (first | exact Sub.refl _ | with_reducible assumption | refine Sub.drewN ?_ _ | refine Sub.drew ?_ | refine Sub.alloc ?_ _ | (refine Sub.trans ?_ (by with_reducible assumption))))).mono ?_; rintro en w1 ⟨rfl, hx⟩))
    go_wp2
    go_ret
    rw [F.out]
    exact ⟨rfl, ⟨A, n, c, HS.out.ext (hxa.drew.trans hx)⟩, But.of_ext (hxa.drew.trans hx)⟩
  | true =>
    have F := Lib.hid (show ackC s e = (0, joinC [s, e.past.set e.replica.toNat e.number]) by simp [ackC, hn, hf])
    have hfo : formedC e = true := by simp only [writeC, Bool.and_eq_true] at hf; exact hf.1
    have ff := formed_facts hfo
    have hr0 := ff.2.1
    have hm := hl.1
    have hr1 : e.replica < (m : Int) := by have := ff.2.2.1; omega
    have hv := valid_facts ff.1
    have hm5 : m ≤ 5 := by have := hv.2.1; omega
    have hm1 : 1 ≤ m := by have := hv.1; omega
    rw [hf] at CW
    have CW' := Lib.hid CW
    have HS := Lib.hid hs
    have HL := Lib.hid hl
    have HM := Lib.hid hm
    clear hs hl hn CW hfo ff hv hm
    go_enter Tryz.func21, Tryz.ntmps21
    go_wp2_with fail
    go_region_held3 (fun w' => w'.cell? ⟨w.heap.size, 0, none⟩ = some (.int .i64 e.replica) ∧ w'.cell? ⟨w.heap.size, 1, none⟩ = some (.int .i64 e.number) ∧ w'.cell? ⟨w.heap.size, 2, none⟩ = some (.int .i64 e.time) ∧ w'.cell? ⟨w.heap.size, 3, none⟩ = some (.slice B m d) ∧ w'.cell? ⟨w.heap.size, 4, none⟩ = some (.int .i64 e.kind) ∧ w'.cell? ⟨w.heap.size, 5, none⟩ = some (.int .i64 e.action) ∧ w'.cell? ⟨w.heap.size, 6, none⟩ = some (.int .i64 e.gkind) ∧ w'.cell? ⟨w.heap.size, 7, none⟩ = some (.int .i64 e.gindex) ∧ w'.cell? ⟨w.heap.size, 8, none⟩ = some (.int .i64 e.gelement) ∧ w'.cell? ⟨w.heap.size, 9, none⟩ = some (.int .i64 e.gamount) ∧ w'.cell? ⟨w.heap.size, 10, none⟩ = some (.int .i64 e.to) ∧ w'.cell? ⟨w.heap.size, 11, none⟩ = some (.int .i64 e.place) ∧ w'.cell? ⟨w.heap.size, 12, none⟩ = some (.int .i64 e.serial) ∧ w'.cell? ⟨b, 0, none⟩ = some (.slice A n c)) (first | go_keep | exact ⟨hx.cell Q0.out, hx.cell Q1.out, hx.cell Q2.out, hx.cell Q3.out, hx.cell Q4.out, hx.cell Q5.out, hx.cell Q6.out, hx.cell Q7.out, hx.cell Q8.out, hx.cell Q9.out, hx.cell Q10.out, hx.cell Q11.out, hx.cell Q12.out, hx.cell QC.out⟩) (first | (go_at_call 19; refine (CW'.out _ (by repeat (first | exact Sub.refl _ | with_reducible assumption | refine Sub.drewN ?_ _ | refine Sub.drew ?_ | refine Sub.alloc ?_ _ | (refine Sub.trans ?_ (by with_reducible assumption))))).mono ?_; rintro en w1 ⟨rfl, hx⟩))
    have hx1 : Ext w w1 := hxa.drew.trans hx
    have c0 := hx.cell Q0.out
    have c1 := hx.cell Q1.out
    have c3 := hx.cell Q3.out
    have c0 : w1.cell? ⟨w.heap.size, 0, none⟩ = some (.int .i64 e.replica) := c0
    have c1 : w1.cell? ⟨w.heap.size, 1, none⟩ = some (.int .i64 e.number) := c1
    have c3 : w1.cell? ⟨w.heap.size, 3, none⟩ = some (.slice B m d) := c3
    clear b0 b1 b2 b3 b4 b5 b6 b7 b8 b9 b10 b11 b12 hc hx
    go_wp2_with fail
    refine (clone_any B m d e.past w1 (HL.out.ext hx1) (by omega)).mono ?_
    rintro en w2 ⟨A2, c2, rfl, hown, hx2⟩
    obtain ⟨g, rfl, hg, hgl⟩ := own_addr hown (by omega)
    have hkl : e.replica.toNat < e.past.length := by rw [HM.out]; omega
    have hco : w2.cell? ⟨g, e.replica.toNat, none⟩ = some (.int .i64 e.past[e.replica.toNat]) := by rw [hown.cellAt _ (by omega), List.getElem?_map, List.getElem?_eq_getElem hkl]; rfl
    have hfo := hown.frozenAt e.replica.toNat
    have hst := (hown.stored e.replica.toNat (.int .i64 e.number)).1
    have hx3 : Ext w1 (w2.setCell ⟨g, e.replica.toNat, none⟩ (.int .i64 e.number)) := hx2.set hg _
    rw [← List.map_set] at hst
    have hi := Ints.of_own hst
    have hs3 := (HS.out.ext hx1).ext hx3
    have hc3 := hs3.cell
    have d0 := hx2.cell c0
    have d1 := hx2.cell c1
    have HI := Lib.hid hi
    have HS3 := Lib.hid hs3
    have hgne : ¬ g = b := by have := hx1.size; omega
    have hgw : ¬ g = w.heap.size := by have := hxa.size; have := hx1.size; have := cell_lt c0; simp at this; omega
    have hcb2 := (HS.out.ext (hx1.trans hx2)).cell
    clear hst hown c0 c1 c3 hi hs3
    go_wp2_with fail
    have hr2 := Rows.two 29 HS3.out.2 HI.out
    rw [show (w2.setCell ⟨g, e.replica.toNat, none⟩ (.int .i64 e.number)).heap.size = w2.heap.size from by simp [World.setCell]] at hr2
    refine (join_any _ 2 2 [s, e.past.set e.replica.toNat e.number] _ hr2).mono ?_
    rintro en w4 ⟨A', n', c', rfl, hown, hx4⟩
    have hx5 : Ext w1 w4 := (hx3.alloc _).trans hx4
    have hs4 := (HS.out.ext hx1).ext hx5
    have hc4 := hs4.cell
    have hf4 := block_free hs4.1 0
    have hi := Ints.of_own hown
    have HB := Lib.hid (show But b w (w4.setCell ⟨b, 0, none⟩ (.slice A' n' c')) from ((But.of_ext hx1).ext hx5).set 0 _)
    have HS' := Lib.hid (show Ses (w4.setCell ⟨b, 0, none⟩ (.slice A' n' c')) b A' n' c' (joinC [s, e.past.set e.replica.toNat e.number]) from ⟨block_set hs4.1 0 _, hi.but hs4.1 ((But.refl b w4).set 0 _)⟩)
    clear hx1 hx2 hx3 hx4 hx5 hown hs4 hi hc3 hco hfo d0 d1 hcb2
    go_wp2
    go_ret
    rw [F.out]
    exact ⟨rfl, ⟨A', n', c', HS'.out⟩, HB.out⟩

set_option maxRecDepth 100000 in
set_option maxHeartbeats 2000000 in
theorem wrote_any (b : Nat) (A B : Option Addr) (n c m d : Nat) (s : List Int) (e : Ev) (w : World) (hs : Ses w b A n c s) (hl : Ints w B m d e.past) :
    Calls Tryz.prog 9 #[.pointer (some ⟨b, 0, none⟩), .agg (e.cells B m d)] w fun en w' => en = .returned (.int .i64 (wroteC s e).1) ∧ (∃ A' n' c', Ses w' b A' n' c' (wroteC s e).2) ∧ But b w w' := by
  obtain ⟨b0, b1, b2, b3, b4, b5, b6, b7, b8, b9, b10, b11, b12⟩ := box_cells e B m d w
  have hxa : Ext w (w.alloc (.cells (e.cells B m d) 35)) := (by repeat (first | exact Ext.refl _ | with_reducible assumption | refine Ext.drewN ?_ _ | refine Ext.drew ?_ | refine Ext.alloc ?_ _ | (refine Ext.trans ?_ (by with_reducible assumption))))
  have hc := hxa.cell hs.cell
  have hn := hs.2.1
  have hbl := lt_of_block hs.1
  have hne : ¬ w.heap.size = b := by omega
  have CW := fun (W : World) (h : Sub w W) => write_any e B m d n W (hl.sub h)
  have Q0 := Lib.hid b0
  have Q1 := Lib.hid b1
  have Q2 := Lib.hid b2
  have Q3 := Lib.hid b3
  have Q4 := Lib.hid b4
  have Q5 := Lib.hid b5
  have Q6 := Lib.hid b6
  have Q7 := Lib.hid b7
  have Q8 := Lib.hid b8
  have Q9 := Lib.hid b9
  have Q10 := Lib.hid b10
  have Q11 := Lib.hid b11
  have Q12 := Lib.hid b12
  have QC := Lib.hid hc
  cases hf : writeC e n with
  | false =>
    have F := Lib.hid (show wroteC s e = (1, s) by simp [wroteC, hn, hf])
    rw [hf] at CW
    have CW' := Lib.hid CW
    have HS := Lib.hid hs
    clear hs hl hn CW
    go_enter Tryz.func9, Tryz.ntmps9
    go_wp2_with fail
    go_region_held3 (fun w' => w'.cell? ⟨w.heap.size, 0, none⟩ = some (.int .i64 e.replica) ∧ w'.cell? ⟨w.heap.size, 1, none⟩ = some (.int .i64 e.number) ∧ w'.cell? ⟨w.heap.size, 2, none⟩ = some (.int .i64 e.time) ∧ w'.cell? ⟨w.heap.size, 3, none⟩ = some (.slice B m d) ∧ w'.cell? ⟨w.heap.size, 4, none⟩ = some (.int .i64 e.kind) ∧ w'.cell? ⟨w.heap.size, 5, none⟩ = some (.int .i64 e.action) ∧ w'.cell? ⟨w.heap.size, 6, none⟩ = some (.int .i64 e.gkind) ∧ w'.cell? ⟨w.heap.size, 7, none⟩ = some (.int .i64 e.gindex) ∧ w'.cell? ⟨w.heap.size, 8, none⟩ = some (.int .i64 e.gelement) ∧ w'.cell? ⟨w.heap.size, 9, none⟩ = some (.int .i64 e.gamount) ∧ w'.cell? ⟨w.heap.size, 10, none⟩ = some (.int .i64 e.to) ∧ w'.cell? ⟨w.heap.size, 11, none⟩ = some (.int .i64 e.place) ∧ w'.cell? ⟨w.heap.size, 12, none⟩ = some (.int .i64 e.serial) ∧ w'.cell? ⟨b, 0, none⟩ = some (.slice A n c)) (first | go_keep | exact ⟨hx.cell Q0.out, hx.cell Q1.out, hx.cell Q2.out, hx.cell Q3.out, hx.cell Q4.out, hx.cell Q5.out, hx.cell Q6.out, hx.cell Q7.out, hx.cell Q8.out, hx.cell Q9.out, hx.cell Q10.out, hx.cell Q11.out, hx.cell Q12.out, hx.cell QC.out⟩) (first | (go_at_call 19; refine (CW'.out _ (by repeat (first | exact Sub.refl _ | with_reducible assumption | refine Sub.drewN ?_ _ | refine Sub.drew ?_ | refine Sub.alloc ?_ _ | (refine Sub.trans ?_ (by with_reducible assumption))))).mono ?_; rintro en w1 ⟨rfl, hx⟩))
    go_wp2
    go_ret
    rw [F.out]
    exact ⟨rfl, ⟨A, n, c, HS.out.ext (hxa.drew.trans hx)⟩, But.of_ext (hxa.drew.trans hx)⟩
  | true =>
    rw [hf] at CW
    have CW' := Lib.hid CW
    have HS := Lib.hid hs
    have HL := Lib.hid hl
    have CC := Lib.hid (fun (W : World) (hx : Ext w W) => contains_any B A m n d c e.past s W (hl.ext hx) (hs.2.ext hx))
    clear hs hl CW
    go_enter Tryz.func9, Tryz.ntmps9
    go_wp2_with fail
    go_region_held3 (fun w' => w'.cell? ⟨w.heap.size, 0, none⟩ = some (.int .i64 e.replica) ∧ w'.cell? ⟨w.heap.size, 1, none⟩ = some (.int .i64 e.number) ∧ w'.cell? ⟨w.heap.size, 2, none⟩ = some (.int .i64 e.time) ∧ w'.cell? ⟨w.heap.size, 3, none⟩ = some (.slice B m d) ∧ w'.cell? ⟨w.heap.size, 4, none⟩ = some (.int .i64 e.kind) ∧ w'.cell? ⟨w.heap.size, 5, none⟩ = some (.int .i64 e.action) ∧ w'.cell? ⟨w.heap.size, 6, none⟩ = some (.int .i64 e.gkind) ∧ w'.cell? ⟨w.heap.size, 7, none⟩ = some (.int .i64 e.gindex) ∧ w'.cell? ⟨w.heap.size, 8, none⟩ = some (.int .i64 e.gelement) ∧ w'.cell? ⟨w.heap.size, 9, none⟩ = some (.int .i64 e.gamount) ∧ w'.cell? ⟨w.heap.size, 10, none⟩ = some (.int .i64 e.to) ∧ w'.cell? ⟨w.heap.size, 11, none⟩ = some (.int .i64 e.place) ∧ w'.cell? ⟨w.heap.size, 12, none⟩ = some (.int .i64 e.serial) ∧ w'.cell? ⟨b, 0, none⟩ = some (.slice A n c)) (first | go_keep | exact ⟨hx.cell Q0.out, hx.cell Q1.out, hx.cell Q2.out, hx.cell Q3.out, hx.cell Q4.out, hx.cell Q5.out, hx.cell Q6.out, hx.cell Q7.out, hx.cell Q8.out, hx.cell Q9.out, hx.cell Q10.out, hx.cell Q11.out, hx.cell Q12.out, hx.cell QC.out⟩) (first | (go_at_call 19; refine (CW'.out _ (by repeat (first | exact Sub.refl _ | with_reducible assumption | refine Sub.drewN ?_ _ | refine Sub.drew ?_ | refine Sub.alloc ?_ _ | (refine Sub.trans ?_ (by with_reducible assumption))))).mono ?_; rintro en w1 ⟨rfl, hx⟩))
    have hx1 : Ext w w1 := hxa.drew.trans hx
    have c0 := hx.cell Q0.out
    have c1 := hx.cell Q1.out
    have c2 := hx.cell Q2.out
    have c3 := hx.cell Q3.out
    have c4 := hx.cell Q4.out
    have c5 := hx.cell Q5.out
    have c6 := hx.cell Q6.out
    have c7 := hx.cell Q7.out
    have c8 := hx.cell Q8.out
    have c9 := hx.cell Q9.out
    have c10 := hx.cell Q10.out
    have c11 := hx.cell Q11.out
    have c12 := hx.cell Q12.out
    have cc := hx.cell QC.out
    have c0 : w1.cell? ⟨w.heap.size, 0, none⟩ = some (.int .i64 e.replica) := c0
    have c1 : w1.cell? ⟨w.heap.size, 1, none⟩ = some (.int .i64 e.number) := c1
    have c2 : w1.cell? ⟨w.heap.size, 2, none⟩ = some (.int .i64 e.time) := c2
    have c3 : w1.cell? ⟨w.heap.size, 3, none⟩ = some (.slice B m d) := c3
    have c4 : w1.cell? ⟨w.heap.size, 4, none⟩ = some (.int .i64 e.kind) := c4
    have c5 : w1.cell? ⟨w.heap.size, 5, none⟩ = some (.int .i64 e.action) := c5
    have c6 : w1.cell? ⟨w.heap.size, 6, none⟩ = some (.int .i64 e.gkind) := c6
    have c7 : w1.cell? ⟨w.heap.size, 7, none⟩ = some (.int .i64 e.gindex) := c7
    have c8 : w1.cell? ⟨w.heap.size, 8, none⟩ = some (.int .i64 e.gelement) := c8
    have c9 : w1.cell? ⟨w.heap.size, 9, none⟩ = some (.int .i64 e.gamount) := c9
    have c10 : w1.cell? ⟨w.heap.size, 10, none⟩ = some (.int .i64 e.to) := c10
    have c11 : w1.cell? ⟨w.heap.size, 11, none⟩ = some (.int .i64 e.place) := c11
    have c12 : w1.cell? ⟨w.heap.size, 12, none⟩ = some (.int .i64 e.serial) := c12
    have cc : w1.cell? ⟨b, 0, none⟩ = some (.slice A n c) := cc
    have HX1 := Lib.hid hx1
    clear b0 b1 b2 b3 b4 b5 b6 b7 b8 b9 b10 b11 b12 hc hx Q0 Q1 Q2 Q3 Q4 Q5 Q6 Q7 Q8 Q9 Q10 Q11 Q12 QC hx1
    have Q0 := Lib.hid c0
    have Q1 := Lib.hid c1
    have Q2 := Lib.hid c2
    have Q3 := Lib.hid c3
    have Q4 := Lib.hid c4
    have Q5 := Lib.hid c5
    have Q6 := Lib.hid c6
    have Q7 := Lib.hid c7
    have Q8 := Lib.hid c8
    have Q9 := Lib.hid c9
    have Q10 := Lib.hid c10
    have Q11 := Lib.hid c11
    have Q12 := Lib.hid c12
    have QC := Lib.hid cc
    go_wp2_with fail
    cases hk : containsC e.past s with
    | false =>
      have F := Lib.hid (show wroteC s e = (9, s) by simp [wroteC, hn, hf, hk])
      have CC' := CC.out
      rw [hk] at CC'
      have CC2 := Lib.hid CC'
      clear CC' CC hn
      go_region_held3 (fun w' => w'.cell? ⟨w.heap.size, 3, none⟩ = some (.slice B m d) ∧ w'.cell? ⟨b, 0, none⟩ = some (.slice A n c)) (first | go_keep | exact ⟨hx2.cell Q3.out, hx2.cell QC.out⟩) (first | (go_at_call 20; refine (CC2.out _ HX1.out.drew).mono ?_; rintro en w2 ⟨rfl, hx2⟩))
      go_wp2
      go_ret
      rw [F.out]
      exact ⟨rfl, ⟨A, n, c, HS.out.ext (HX1.out.drew.trans hx2)⟩, But.of_ext (HX1.out.drew.trans hx2)⟩
    | true =>
      have F := Lib.hid (show wroteC s e = ackC s e by simp [wroteC, hn, hf, hk])
      have CC' := CC.out
      rw [hk] at CC'
      have CC2 := Lib.hid CC'
      clear CC' CC hn
      go_region_held3 (fun w' => w'.cell? ⟨w.heap.size, 3, none⟩ = some (.slice B m d) ∧ w'.cell? ⟨b, 0, none⟩ = some (.slice A n c)) (first | go_keep | exact ⟨hx2.cell Q3.out, hx2.cell QC.out⟩) (first | (go_at_call 20; refine (CC2.out _ HX1.out.drew).mono ?_; rintro en w2 ⟨rfl, hx2⟩))
      have hx3 : Ext w w2 := HX1.out.drew.trans hx2
      have hx4 : Ext w1 w2 := (Ext.refl w1).drew.trans hx2
      have d0 := hx4.cell Q0.out
      have d1 := hx4.cell Q1.out
      have d2 := hx4.cell Q2.out
      have d3 := hx4.cell Q3.out
      have d4 := hx4.cell Q4.out
      have d5 := hx4.cell Q5.out
      have d6 := hx4.cell Q6.out
      have d7 := hx4.cell Q7.out
      have d8 := hx4.cell Q8.out
      have d9 := hx4.cell Q9.out
      have d10 := hx4.cell Q10.out
      have d11 := hx4.cell Q11.out
      have d12 := hx4.cell Q12.out
      clear c0 c1 c2 c3 c4 c5 c6 c7 c8 c9 c10 c11 c12 cc hx2 hx4
      go_wp2_with fail
      refine (ack_any b A B n c m d s e w2 (HS.out.ext hx3) (HL.out.ext hx3)).mono ?_
      rintro en w3 ⟨rfl, hs3, hb3⟩
      have HS3 := Lib.hid hs3
      clear hs3
      go_wp2
      go_ret
      rw [F.out]
      exact ⟨rfl, HS3.out, (But.of_ext hx3).trans hb3⟩
end Go.Proofs.YtolbcmniklbnmaaGreatDoor
