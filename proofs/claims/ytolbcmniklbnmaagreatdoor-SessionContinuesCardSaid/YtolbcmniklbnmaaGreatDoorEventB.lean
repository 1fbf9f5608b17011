/- The walks of the three functions that event.forms makes. -/
import Derived.Test.YtolbcmniklbnmaaGreatDoorEventA
namespace Go.Proofs.YtolbcmniklbnmaaGreatDoor
open Go Go.RowKit Go.Deep

/-- An event that lies in a block of its own. -/
def EvAt (w : World) (b : Nat) (e : Ev) (A : Option Addr) (n c : Nat) : Prop := w.heap[b]? = some (.cells (e.cells A n c) 35 (0, 0))
theorem block_cell {w : World} {b : Nat} {cs : Array Value} {t : TypeId} (h : w.heap[b]? = some (.cells cs t (0, 0))) (i : Nat) : w.cell? ⟨b, i, none⟩ = cs[i]? := by
  unfold World.cell?; rw [h]; rfl
theorem block_free {w : World} {b : Nat} {cs : Array Value} {t : TypeId} (h : w.heap[b]? = some (.cells cs t (0, 0))) (i : Nat) : w.frozen? ⟨b, i, none⟩ = false := by
  simp [World.frozen?, h]
theorem block_set {w : World} {b : Nat} {cs : Array Value} {t : TypeId} (h : w.heap[b]? = some (.cells cs t (0, 0))) (i : Nat) (u : Value) : (w.setCell ⟨b, i, none⟩ u).heap[b]? = some (.cells (cs.setIfInBounds i u) t (0, 0)) := by
  simp [World.setCell, Array.getElem?_modify, h]
theorem block_far {w : World} {b : Nat} {o : Obj} (h : w.heap[b]? = some o) {p : Addr} (hp : b ≠ p.block) (u : Value) : (w.setCell p u).heap[b]? = some o := (Below.heap_setCell w p u b hp).trans h

def form1 (e : Ev) : Bool := btw e.action 0 255 && (btw e.place 0 1024 && btw e.serial 1 1048576)
def form3 (e : Ev) : Bool := btw e.place 1 1024 && btw e.serial 1 1048576
def form2 (e : Ev) : Bool := btw e.gkind 0 1 && (btw e.gelement 0 (if e.gkind = 1 then 5 else 0) && (btw e.gindex 0 1023 && (btw e.gamount 1 1000000 && (btw e.to 0 (e.past.length - 1) && !decide (e.to = e.replica)))))

theorem EvAt.set6 {w : World} {b : Nat} {x : Ev} {A : Option Addr} {n c : Nat} (h : EvAt w b x A n c) (v : Int) : EvAt (w.setCell ⟨b, 6, none⟩ (.int .i64 v)) b { x with gkind := v } A n c := block_set h 6 _
theorem EvAt.set7 {w : World} {b : Nat} {x : Ev} {A : Option Addr} {n c : Nat} (h : EvAt w b x A n c) (v : Int) : EvAt (w.setCell ⟨b, 7, none⟩ (.int .i64 v)) b { x with gindex := v } A n c := block_set h 7 _
theorem EvAt.set8 {w : World} {b : Nat} {x : Ev} {A : Option Addr} {n c : Nat} (h : EvAt w b x A n c) (v : Int) : EvAt (w.setCell ⟨b, 8, none⟩ (.int .i64 v)) b { x with gelement := v } A n c := block_set h 8 _
theorem EvAt.set9 {w : World} {b : Nat} {x : Ev} {A : Option Addr} {n c : Nat} (h : EvAt w b x A n c) (v : Int) : EvAt (w.setCell ⟨b, 9, none⟩ (.int .i64 v)) b { x with gamount := v } A n c := block_set h 9 _
theorem EvAt.set10 {w : World} {b : Nat} {x : Ev} {A : Option Addr} {n c : Nat} (h : EvAt w b x A n c) (v : Int) : EvAt (w.setCell ⟨b, 10, none⟩ (.int .i64 v)) b { x with to := v } A n c := block_set h 10 _
theorem EvAt.alloc {w : World} {b : Nat} {x : Ev} {A : Option Addr} {n c : Nat} (h : EvAt w b x A n c) (o : Obj) : EvAt (w.alloc o) b x A n c := (Below.heap_alloc _ o b (lt_of_block h)).trans h
theorem grown_set {a w : World} {g : Nat} (h : a.grownBy w (some g)) (i : Nat) (u : Value) : a.grownBy (w.setCell ⟨g, i, none⟩ u) (some g) :=
  ⟨h.os, h.tape, h.output, by simpa [World.setCell] using h.size, fun k hk hne => (Below.heap_setCell w ⟨g, i, none⟩ u k (fun e => hne (by rw [e]))).trans (h.block k hk hne)⟩
theorem grown_alloc {a w : World} {row : Option Nat} (h : a.grownBy w row) (o : Obj) : a.grownBy (w.alloc o) row :=
  ⟨h.os, h.tape, h.output, Nat.le_trans h.size (by simp), fun k hk hne => (Below.heap_alloc w o k (Nat.lt_of_lt_of_le hk h.size)).trans (h.block k hk hne)⟩
theorem grown_refl (w : World) (row : Option Nat) : w.grownBy w row := ⟨rfl, rfl, rfl, Nat.le_refl _, fun _ _ _ => rfl⟩

/-- Only the event in block b has turned: it is now x. -/
structure Turned (w w' : World) (b : Nat) (x : Ev) (A : Option Addr) (n c : Nat) : Prop where
  now : EvAt w' b x A n c
  grown : w.grownBy w' (some b)
  same : w'.heap.size = w.heap.size

set_option maxRecDepth 100000 in
set_option maxHeartbeats 1000000 in
theorem form1_any (xb eb : Nat) (e x : Ev) (A A' : Option Addr) (n c n' c' : Nat) (w : World) (hx : EvAt w xb x A' n' c') (he : EvAt w eb e A n c) (hne : xb ≠ eb) :
    Calls Tryz.prog 78 #[.pointer (some ⟨xb, 0, none⟩), .pointer (some ⟨eb, 0, none⟩)] w fun en w' => en = .returned (.bool (form1 e)) ∧ Turned w w' xb { x with action := 0, place := 0, serial := 0 } A' n' c' := by
  have x5 : w.cell? ⟨xb, 5, none⟩ = some (.int .i64 x.action) := block_cell hx 5
  have x11 : w.cell? ⟨xb, 11, none⟩ = some (.int .i64 x.place) := block_cell hx 11
  have x12 : w.cell? ⟨xb, 12, none⟩ = some (.int .i64 x.serial) := block_cell hx 12
  have f5 := block_free hx 5
  have f11 := block_free hx 11
  have f12 := block_free hx 12
  have e5 : w.cell? ⟨eb, 5, none⟩ = some (.int .i64 e.action) := block_cell he 5
  have e11 : w.cell? ⟨eb, 11, none⟩ = some (.int .i64 e.place) := block_cell he 11
  have e12 : w.cell? ⟨eb, 12, none⟩ = some (.int .i64 e.serial) := block_cell he 12
  have hT : Turned w (((w.setCell ⟨xb, 5, none⟩ (.int .i64 0)).setCell ⟨xb, 11, none⟩ (.int .i64 0)).setCell ⟨xb, 12, none⟩ (.int .i64 0)) xb { x with action := 0, place := 0, serial := 0 } A' n' c' :=
    ⟨block_set (block_set (block_set hx 5 _) 11 _) 12 _, ⟨rfl, rfl, rfl, by simp [World.setCell], fun k _ hk => by
      have hk' : k ≠ xb := fun h => hk (by rw [h])
      rw [Below.heap_setCell _ _ _ _ hk', Below.heap_setCell _ _ _ _ hk', Below.heap_setCell _ _ _ _ hk']⟩, by simp [World.setCell]⟩
  have HT := Lib.hid hT
  clear hT
  cases h1 : btw e.action 0 255 <;> cases h2 : btw e.place 0 1024 <;> cases h3 : btw e.serial 1 1048576
  all_goals
    go_enter Tryz.func78, Tryz.ntmps78
    go_wp2_with (go_at_call 59; refine (between_any _ _ _ _).mono ?_; rintro en w' ⟨rfl, rfl⟩)
    go_ret
    exact ⟨ret_bool (by simp [form1, h1, h2, h3]), HT.out⟩

set_option maxRecDepth 100000 in
set_option maxHeartbeats 1000000 in
theorem form3_any (xb eb : Nat) (e x : Ev) (A A' : Option Addr) (n c n' c' : Nat) (w : World) (hx : EvAt w xb x A' n' c') (he : EvAt w eb e A n c) (hne : xb ≠ eb) :
    Calls Tryz.prog 80 #[.pointer (some ⟨xb, 0, none⟩), .pointer (some ⟨eb, 0, none⟩)] w fun en w' => en = .returned (.bool (form3 e)) ∧ Turned w w' xb { x with place := 0, serial := 0 } A' n' c' := by
  have x11 : w.cell? ⟨xb, 11, none⟩ = some (.int .i64 x.place) := block_cell hx 11
  have x12 : w.cell? ⟨xb, 12, none⟩ = some (.int .i64 x.serial) := block_cell hx 12
  have f11 := block_free hx 11
  have f12 := block_free hx 12
  have e11 : w.cell? ⟨eb, 11, none⟩ = some (.int .i64 e.place) := block_cell he 11
  have e12 : w.cell? ⟨eb, 12, none⟩ = some (.int .i64 e.serial) := block_cell he 12
  have hT : Turned w ((w.setCell ⟨xb, 11, none⟩ (.int .i64 0)).setCell ⟨xb, 12, none⟩ (.int .i64 0)) xb { x with place := 0, serial := 0 } A' n' c' :=
    ⟨block_set (block_set hx 11 _) 12 _, ⟨rfl, rfl, rfl, by simp [World.setCell], fun k _ hk => by
      have hk' : k ≠ xb := fun h => hk (by rw [h])
      rw [Below.heap_setCell _ _ _ _ hk', Below.heap_setCell _ _ _ _ hk']⟩, by simp [World.setCell]⟩
  have HT := Lib.hid hT
  clear hT
  cases h2 : btw e.place 1 1024 <;> cases h3 : btw e.serial 1 1048576
  all_goals
    go_enter Tryz.func80, Tryz.ntmps80
    go_wp2_with (go_at_call 59; refine (between_any _ _ _ _).mono ?_; rintro en w' ⟨rfl, rfl⟩)
    go_ret
    exact ⟨ret_bool (by simp [form3, h2, h3]), HT.out⟩

/-- Only the event in block b has turned, and there may be new blocks. -/
structure TurnedX (w w' : World) (b : Nat) (x : Ev) (A : Option Addr) (n c : Nat) : Prop where
  now : EvAt w' b x A n c
  grown : w.grownBy w' (some b)

theorem turned2 (xb : Nat) (x : Ev) (A' : Option Addr) (n' c' : Nat) (w : World) (hx : EvAt w xb x A' n' c') (o : Obj) :
    TurnedX w ((((((w.setCell ⟨xb, 6, none⟩ (.int .i64 0)).setCell ⟨xb, 7, none⟩ (.int .i64 0)).setCell ⟨xb, 8, none⟩ (.int .i64 0)).setCell ⟨xb, 9, none⟩ (.int .i64 0)).setCell ⟨xb, 10, none⟩ (.int .i64 0)).alloc o) xb { x with gkind := 0, gindex := 0, gelement := 0, gamount := 0, to := 0 } A' n' c' :=
  ⟨(((((hx.set6 0).set7 0).set8 0).set9 0).set10 0).alloc o, grown_alloc (grown_set (grown_set (grown_set (grown_set (grown_set (grown_refl w _) 6 _) 7 _) 8 _) 9 _) 10 _) o⟩

set_option maxRecDepth 100000 in
set_option maxHeartbeats 1000000 in
theorem form2_any (xb eb : Nat) (e x : Ev) (A A' : Option Addr) (n c n' c' : Nat) (w : World) (hx : EvAt w xb x A' n' c') (he : EvAt w eb e A n c) (hne : xb ≠ eb) (hn : e.past.length = n) (hn5 : n ≤ 5) :
    Calls Tryz.prog 79 #[.pointer (some ⟨xb, 0, none⟩), .pointer (some ⟨eb, 0, none⟩)] w fun en w' => en = .returned (.bool (form2 e)) ∧ TurnedX w w' xb { x with gkind := 0, gindex := 0, gelement := 0, gamount := 0, to := 0 } A' n' c' := by
  have x6 : w.cell? ⟨xb, 6, none⟩ = some (.int .i64 x.gkind) := block_cell hx 6
  have x7 : w.cell? ⟨xb, 7, none⟩ = some (.int .i64 x.gindex) := block_cell hx 7
  have x8 : w.cell? ⟨xb, 8, none⟩ = some (.int .i64 x.gelement) := block_cell hx 8
  have x9 : w.cell? ⟨xb, 9, none⟩ = some (.int .i64 x.gamount) := block_cell hx 9
  have x10 : w.cell? ⟨xb, 10, none⟩ = some (.int .i64 x.to) := block_cell hx 10
  have f6 := block_free hx 6
  have f7 := block_free hx 7
  have f8 := block_free hx 8
  have f9 := block_free hx 9
  have f10 := block_free hx 10
  have e0 : w.cell? ⟨eb, 0, none⟩ = some (.int .i64 e.replica) := block_cell he 0
  have e3 : w.cell? ⟨eb, 3, none⟩ = some (.slice A n c) := block_cell he 3
  have e6 : w.cell? ⟨eb, 6, none⟩ = some (.int .i64 e.gkind) := block_cell he 6
  have e7 : w.cell? ⟨eb, 7, none⟩ = some (.int .i64 e.gindex) := block_cell he 7
  have e8 : w.cell? ⟨eb, 8, none⟩ = some (.int .i64 e.gelement) := block_cell he 8
  have e9 : w.cell? ⟨eb, 9, none⟩ = some (.int .i64 e.gamount) := block_cell he 9
  have e10 : w.cell? ⟨eb, 10, none⟩ = some (.int .i64 e.to) := block_cell he 10
  obtain ⟨W, hW⟩ : ∃ W, W = ((((((w.setCell ⟨xb, 6, none⟩ (.int .i64 0)).setCell ⟨xb, 7, none⟩ (.int .i64 0)).setCell ⟨xb, 8, none⟩ (.int .i64 0)).setCell ⟨xb, 9, none⟩ (.int .i64 0)).setCell ⟨xb, 10, none⟩ (.int .i64 0)).alloc (.cells #[.int .i64 e.gkind, .int .i64 e.gindex, .int .i64 e.gelement, .int .i64 e.gamount] 33)) := ⟨_, rfl⟩
  have HT := Lib.hid (show TurnedX w W xb { x with gkind := 0, gindex := 0, gelement := 0, gamount := 0, to := 0 } A' n' c' by rw [hW]; exact turned2 xb x A' n' c' w hx _)
  have heW : EvAt W eb e A n c := (HT.out.grown.block eb (lt_of_block he) (fun h => hne (by injection h with h; exact h.symm))).trans he
  have C0 := Lib.hid (show W.cell? ⟨eb, 0, none⟩ = some (.int .i64 e.replica) from block_cell heW 0)
  have C3 := Lib.hid (show W.cell? ⟨eb, 3, none⟩ = some (.slice A n c) from block_cell heW 3)
  have C10 := Lib.hid (show W.cell? ⟨eb, 10, none⟩ = some (.int .i64 e.to) from block_cell heW 10)
  have hg : ∀ i, W.cell? ⟨w.heap.size, i, none⟩ = #[.int .i64 e.gkind, .int .i64 e.gindex, .int .i64 e.gelement, .int .i64 e.gamount][i]? := fun i => by
    have h := cell_new (((((w.setCell ⟨xb, 6, none⟩ (.int .i64 0)).setCell ⟨xb, 7, none⟩ (.int .i64 0)).setCell ⟨xb, 8, none⟩ (.int .i64 0)).setCell ⟨xb, 9, none⟩ (.int .i64 0)).setCell ⟨xb, 10, none⟩ (.int .i64 0)) #[.int .i64 e.gkind, .int .i64 e.gindex, .int .i64 e.gelement, .int .i64 e.gamount] 33 i
    rw [← hW] at h
    simpa only [World.setCell, Array.size_modify] using h
  have G0 := Lib.hid (hg 0)
  have G1 := Lib.hid (hg 1)
  have G2 := Lib.hid (hg 2)
  have G3 := Lib.hid (hg 3)
  have HW := Lib.hid hW
  clear hW hg heW
  by_cases hk : e.gkind = 1
  · have hk1 : (e.gkind == 1) = true := by simpa using hk
    have hk' : (if e.gkind = 1 then (5 : Int) else 0) = 5 := if_pos hk
    clear hk
    have E := Lib.hid (show form2 e = (btw e.gkind 0 1 && (btw e.gelement 0 5 && (btw e.gindex 0 1023 && (btw e.gamount 1 1000000 && (btw e.to 0 ((n : Int) - 1) && !decide (e.to = e.replica)))))) by unfold form2; rw [hk', hn])
    clear hk' hn
    go_enter Tryz.func79, Tryz.ntmps79
    go_wp2_with fail
    rw [← HW.out]
    have c0 := C0.out
    have c3 := C3.out
    have c10 := C10.out
    have g0 := G0.out
    have g1 := G1.out
    have g2 := G2.out
    have g3 := G3.out
    clear x6 x7 x8 x9 x10 f6 f7 f8 f9 f10 e0 e3 e6 e7 e8 e9 e10 hx he HW C0 C3 C10 G0 G1 G2 G3
    cases h1 : btw e.gkind 0 1 with
    | false =>
      go_wp2_with (go_at_call 59; refine (between_any _ _ _ _).mono ?_; rintro en w' ⟨rfl, rfl⟩)
      go_ret
      exact ⟨ret_bool (by rw [E.out]; simp [h1]), HT.out⟩
    | true =>
      cases h2 : btw e.gelement 0 5 with
      | false =>
        go_wp2_with (go_at_call 59; refine (between_any _ _ _ _).mono ?_; rintro en w' ⟨rfl, rfl⟩)
        go_ret
        exact ⟨ret_bool (by rw [E.out]; simp [h1, h2]), HT.out⟩
      | true =>
        cases h3 : btw e.gindex 0 1023 with
        | false =>
          go_wp2_with (go_at_call 59; refine (between_any _ _ _ _).mono ?_; rintro en w' ⟨rfl, rfl⟩)
          go_ret
          exact ⟨ret_bool (by rw [E.out]; simp [h1, h2, h3]), HT.out⟩
        | true =>
          cases h4 : btw e.gamount 1 1000000 with
          | false =>
            go_wp2_with (go_at_call 59; refine (between_any _ _ _ _).mono ?_; rintro en w' ⟨rfl, rfl⟩)
            go_ret
            exact ⟨ret_bool (by rw [E.out]; simp [h1, h2, h3, h4]), HT.out⟩
          | true =>
            cases h5 : btw e.to 0 ((n : Int) - 1) with
            | false =>
              go_wp2_with (go_at_call 59; refine (between_any _ _ _ _).mono ?_; rintro en w' ⟨rfl, rfl⟩)
              go_ret
              exact ⟨ret_bool (by rw [E.out]; simp [h1, h2, h3, h4, h5]), HT.out⟩
            | true =>
              by_cases ht : e.to = e.replica
              · have ht' : (e.to == e.replica) = true := by simpa using ht
                have ht'' : (e.to != e.replica) = false := by simpa using ht
                have h6 := Lib.hid ht
                clear ht
                go_wp2_with (go_at_call 59; refine (between_any _ _ _ _).mono ?_; rintro en w' ⟨rfl, rfl⟩)
                go_ret
                exact ⟨ret_bool (by rw [E.out]; simp [h1, h2, h3, h4, h5, h6.out]), HT.out⟩
              · have ht' : (e.to == e.replica) = false := by simpa using ht
                have ht'' : (e.to != e.replica) = true := by simpa using ht
                have h6 := Lib.hid ht
                clear ht
                go_wp2_with (go_at_call 59; refine (between_any _ _ _ _).mono ?_; rintro en w' ⟨rfl, rfl⟩)
                go_ret
                exact ⟨ret_bool (by rw [E.out]; simp [h1, h2, h3, h4, h5, h6.out]), HT.out⟩
  · have hk1 : (e.gkind == 1) = false := by simpa using hk
    have hk' : (if e.gkind = 1 then (5 : Int) else 0) = 0 := if_neg hk
    clear hk
    have E := Lib.hid (show form2 e = (btw e.gkind 0 1 && (btw e.gelement 0 0 && (btw e.gindex 0 1023 && (btw e.gamount 1 1000000 && (btw e.to 0 ((n : Int) - 1) && !decide (e.to = e.replica)))))) by unfold form2; rw [hk', hn])
    clear hk' hn
    go_enter Tryz.func79, Tryz.ntmps79
    go_wp2_with fail
    rw [← HW.out]
    have c0 := C0.out
    have c3 := C3.out
    have c10 := C10.out
    have g0 := G0.out
    have g1 := G1.out
    have g2 := G2.out
    have g3 := G3.out
    clear x6 x7 x8 x9 x10 f6 f7 f8 f9 f10 e0 e3 e6 e7 e8 e9 e10 hx he HW C0 C3 C10 G0 G1 G2 G3
    cases h1 : btw e.gkind 0 1 with
    | false =>
      go_wp2_with (go_at_call 59; refine (between_any _ _ _ _).mono ?_; rintro en w' ⟨rfl, rfl⟩)
      go_ret
      exact ⟨ret_bool (by rw [E.out]; simp [h1]), HT.out⟩
    | true =>
      cases h2 : btw e.gelement 0 0 with
      | false =>
        go_wp2_with (go_at_call 59; refine (between_any _ _ _ _).mono ?_; rintro en w' ⟨rfl, rfl⟩)
        go_ret
        exact ⟨ret_bool (by rw [E.out]; simp [h1, h2]), HT.out⟩
      | true =>
        cases h3 : btw e.gindex 0 1023 with
        | false =>
          go_wp2_with (go_at_call 59; refine (between_any _ _ _ _).mono ?_; rintro en w' ⟨rfl, rfl⟩)
          go_ret
          exact ⟨ret_bool (by rw [E.out]; simp [h1, h2, h3]), HT.out⟩
        | true =>
          cases h4 : btw e.gamount 1 1000000 with
          | false =>
            go_wp2_with (go_at_call 59; refine (between_any _ _ _ _).mono ?_; rintro en w' ⟨rfl, rfl⟩)
            go_ret
            exact ⟨ret_bool (by rw [E.out]; simp [h1, h2, h3, h4]), HT.out⟩
          | true =>
            cases h5 : btw e.to 0 ((n : Int) - 1) with
            | false =>
              go_wp2_with (go_at_call 59; refine (between_any _ _ _ _).mono ?_; rintro en w' ⟨rfl, rfl⟩)
              go_ret
              exact ⟨ret_bool (by rw [E.out]; simp [h1, h2, h3, h4, h5]), HT.out⟩
            | true =>
              by_cases ht : e.to = e.replica
              · have ht' : (e.to == e.replica) = true := by simpa using ht
                have ht'' : (e.to != e.replica) = false := by simpa using ht
                have h6 := Lib.hid ht
                clear ht
                go_wp2_with (go_at_call 59; refine (between_any _ _ _ _).mono ?_; rintro en w' ⟨rfl, rfl⟩)
                go_ret
                exact ⟨ret_bool (by rw [E.out]; simp [h1, h2, h3, h4, h5, h6.out]), HT.out⟩
              · have ht' : (e.to == e.replica) = false := by simpa using ht
                have ht'' : (e.to != e.replica) = true := by simpa using ht
                have h6 := Lib.hid ht
                clear ht
                go_wp2_with (go_at_call 59; refine (between_any _ _ _ _).mono ?_; rintro en w' ⟨rfl, rfl⟩)
                go_ret
                exact ⟨ret_bool (by rw [E.out]; simp [h1, h2, h3, h4, h5, h6.out]), HT.out⟩
end Go.Proofs.YtolbcmniklbnmaaGreatDoor
