/- From a reading of the acts to the predicate of the walks. -/
import Derived.Test.YtolbcmniklbnmaaGreatDoorOpenA
namespace Go.Proofs.YtolbcmniklbnmaaGreatDoor
open Go Go.RowKit Go.Deep Go.ChangeShapes Go.WideShapes

variable {H : Type} {enc : TypeId × Value → H} {W : World} {base : Nat} {spare : Nat → Bool} {held : Bool}

theorem c_int : Tryz.prog.cellsOf 3 = 1 := by kernel_rfl
theorem c_bool : Tryz.prog.cellsOf 4 = 1 := by kernel_rfl
theorem c_ints : Tryz.prog.cellsOf 29 = 1 := by kernel_rfl
theorem c_right : Tryz.prog.cellsOf 31 = 3 := by kernel_rfl
theorem c_give : Tryz.prog.cellsOf 33 = 4 := by kernel_rfl
theorem c_event : Tryz.prog.cellsOf 35 = 13 := by kernel_rfl
theorem c_act : Tryz.prog.cellsOf 37 = 15 := by kernel_rfl

theorem list3 : ∀ (cs : List Value), cs.length = 3 → ∃ x0 x1 x2, cs = [x0, x1, x2]
  | [x0, x1, x2], _ => ⟨x0, x1, x2, rfl⟩
theorem list4 : ∀ (cs : List Value), cs.length = 4 → ∃ x0 x1 x2 x3, cs = [x0, x1, x2, x3]
  | [x0, x1, x2, x3], _ => ⟨x0, x1, x2, x3, rfl⟩
theorem list13 : ∀ (cs : List Value), cs.length = 13 → ∃ x0 x1 x2 x3 x4 x5 x6 x7 x8 x9 x10 x11 x12, cs = [x0, x1, x2, x3, x4, x5, x6, x7, x8, x9, x10, x11, x12]
  | [x0, x1, x2, x3, x4, x5, x6, x7, x8, x9, x10, x11, x12], _ => ⟨x0, x1, x2, x3, x4, x5, x6, x7, x8, x9, x10, x11, x12, rfl⟩
theorem list15 : ∀ (cs : List Value), cs.length = 15 → ∃ x0 x1 x2 x3 x4 x5 x6 x7 x8 x9 x10 x11 x12 x13 x14, cs = [x0, x1, x2, x3, x4, x5, x6, x7, x8, x9, x10, x11, x12, x13, x14]
  | [x0, x1, x2, x3, x4, x5, x6, x7, x8, x9, x10, x11, x12, x13, x14], _ => ⟨x0, x1, x2, x3, x4, x5, x6, x7, x8, x9, x10, x11, x12, x13, x14, rfl⟩

theorem right_of_trod {n : Nat} {cs : List Value} {x : DataW H × List MemPlace} (h : DataW.trod enc Tryz.prog W base spare held n 31 cs = some x) : ∃ a b c, cs = [.int .i64 a, .int .i64 b, .int .i64 c] := by
  obtain ⟨hl, k, hf⟩ := field_of Tryz.underlying31 h
  have hl' : cs.length = 3 := hl.trans c_right
  clear hl h
  · obtain ⟨x0, x1, x2, rfl⟩ := list3 cs hl'
    clear hl'
    obtain ⟨y0, g0⟩ := hf 0 _ rfl
    simp only [List.getElem_toArray, List.getElem_cons_zero, List.getElem_cons_succ] at g0
    rw [c_int] at g0
    obtain ⟨z0, e0⟩ := num_of_trod Tryz.underlying3 g0
    obtain rfl : x0 = .int .i64 z0 := by simpa using e0
    obtain ⟨y1, g1⟩ := hf 1 _ rfl
    simp only [List.getElem_toArray, List.getElem_cons_zero, List.getElem_cons_succ] at g1
    rw [c_int] at g1
    obtain ⟨z1, e1⟩ := num_of_trod Tryz.underlying3 g1
    obtain rfl : x1 = .int .i64 z1 := by simpa using e1
    obtain ⟨y2, g2⟩ := hf 2 _ rfl
    simp only [List.getElem_toArray, List.getElem_cons_zero, List.getElem_cons_succ] at g2
    rw [c_int] at g2
    obtain ⟨z2, e2⟩ := num_of_trod Tryz.underlying3 g2
    obtain rfl : x2 = .int .i64 z2 := by simpa using e2
    exact ⟨z0, z1, z2, rfl⟩
theorem give_of_trod {n : Nat} {cs : List Value} {x : DataW H × List MemPlace} (h : DataW.trod enc Tryz.prog W base spare held n 33 cs = some x) : ∃ a b c d, cs = [.int .i64 a, .int .i64 b, .int .i64 c, .int .i64 d] := by
  obtain ⟨hl, k, hf⟩ := field_of Tryz.underlying33 h
  have hl' : cs.length = 4 := hl.trans c_give
  clear hl h
  · obtain ⟨x0, x1, x2, x3, rfl⟩ := list4 cs hl'
    clear hl'
    obtain ⟨y0, g0⟩ := hf 0 _ rfl
    simp only [List.getElem_toArray, List.getElem_cons_zero, List.getElem_cons_succ] at g0
    rw [c_right] at g0
    obtain ⟨a, b, c, e0⟩ := right_of_trod g0
    have e0 : [x0, x1, x2] = [.int .i64 a, .int .i64 b, .int .i64 c] := e0
    simp only [List.cons.injEq, and_true] at e0
    obtain ⟨rfl, rfl, rfl⟩ := e0
    obtain ⟨y1, g1⟩ := hf 1 _ rfl
    simp only [List.getElem_toArray, List.getElem_cons_zero, List.getElem_cons_succ] at g1
    rw [c_int] at g1
    obtain ⟨z3, e3⟩ := num_of_trod Tryz.underlying3 g1
    obtain rfl : x3 = .int .i64 z3 := by simpa using e3
    exact ⟨a, b, c, z3, rfl⟩

theorem event_of_trod {n : Nat} {cs : List Value} {x : DataW H × List MemPlace} (h : DataW.trod enc Tryz.prog W base spare held n 35 cs = some x) : ∃ (e : Ev) (B : Option Addr) (m d : Nat), cs = (e.cells B m d).toList ∧ Ints W B m d e.past := by
  obtain ⟨hl, k, hf⟩ := field_of Tryz.underlying35 h
  have hl' : cs.length = 13 := hl.trans c_event
  clear hl h
  · obtain ⟨x0, x1, x2, x3, x4, x5, x6, x7, x8, x9, x10, x11, x12, rfl⟩ := list13 cs hl'
    clear hl'
    obtain ⟨y0, g0⟩ := hf 0 _ rfl
    simp only [List.getElem_toArray, List.getElem_cons_zero, List.getElem_cons_succ] at g0
    rw [c_int] at g0
    obtain ⟨z0, e0⟩ := num_of_trod Tryz.underlying3 g0
    obtain rfl : x0 = .int .i64 z0 := by simpa using e0
    obtain ⟨y1, g1⟩ := hf 1 _ rfl
    simp only [List.getElem_toArray, List.getElem_cons_zero, List.getElem_cons_succ] at g1
    rw [c_int] at g1
    obtain ⟨z1, e1⟩ := num_of_trod Tryz.underlying3 g1
    obtain rfl : x1 = .int .i64 z1 := by simpa using e1
    obtain ⟨y2, g2⟩ := hf 2 _ rfl
    simp only [List.getElem_toArray, List.getElem_cons_zero, List.getElem_cons_succ] at g2
    rw [c_int] at g2
    obtain ⟨z2, e2⟩ := num_of_trod Tryz.underlying3 g2
    obtain rfl : x2 = .int .i64 z2 := by simpa using e2
    obtain ⟨y3, g3⟩ := hf 3 _ rfl
    simp only [List.getElem_toArray, List.getElem_cons_zero, List.getElem_cons_succ] at g3
    rw [c_ints] at g3
    obtain ⟨B, m, d, l, e3, hi3⟩ := ints_of_trod g3
    obtain rfl : x3 = .slice B m d := by simpa using e3
    obtain ⟨y4, g4⟩ := hf 4 _ rfl
    simp only [List.getElem_toArray, List.getElem_cons_zero, List.getElem_cons_succ] at g4
    rw [c_int] at g4
    obtain ⟨z4, e4⟩ := num_of_trod Tryz.underlying3 g4
    obtain rfl : x4 = .int .i64 z4 := by simpa using e4
    obtain ⟨y5, g5⟩ := hf 5 _ rfl
    simp only [List.getElem_toArray, List.getElem_cons_zero, List.getElem_cons_succ] at g5
    rw [c_int] at g5
    obtain ⟨z5, e5⟩ := num_of_trod Tryz.underlying3 g5
    obtain rfl : x5 = .int .i64 z5 := by simpa using e5
    obtain ⟨y6, g6⟩ := hf 6 _ rfl
    simp only [List.getElem_toArray, List.getElem_cons_zero, List.getElem_cons_succ] at g6
    rw [c_give] at g6
    obtain ⟨a, b, c, d', e6⟩ := give_of_trod g6
    have e6 : [x6, x7, x8, x9] = [.int .i64 a, .int .i64 b, .int .i64 c, .int .i64 d'] := e6
    simp only [List.cons.injEq, and_true] at e6
    obtain ⟨rfl, rfl, rfl, rfl⟩ := e6
    obtain ⟨y7, g7⟩ := hf 7 _ rfl
    simp only [List.getElem_toArray, List.getElem_cons_zero, List.getElem_cons_succ] at g7
    rw [c_int] at g7
    obtain ⟨z10, e10⟩ := num_of_trod Tryz.underlying3 g7
    obtain rfl : x10 = .int .i64 z10 := by simpa using e10
    obtain ⟨y8, g8⟩ := hf 8 _ rfl
    simp only [List.getElem_toArray, List.getElem_cons_zero, List.getElem_cons_succ] at g8
    rw [c_int] at g8
    obtain ⟨z11, e11⟩ := num_of_trod Tryz.underlying3 g8
    obtain rfl : x11 = .int .i64 z11 := by simpa using e11
    obtain ⟨y9, g9⟩ := hf 9 _ rfl
    simp only [List.getElem_toArray, List.getElem_cons_zero, List.getElem_cons_succ] at g9
    rw [c_int] at g9
    obtain ⟨z12, e12⟩ := num_of_trod Tryz.underlying3 g9
    obtain rfl : x12 = .int .i64 z12 := by simpa using e12
    exact ⟨⟨z0, z1, z2, l, z4, z5, a, b, c, d', z10, z11, z12⟩, B, m, d, rfl, hi3⟩

theorem act_of_trod {n : Nat} {cs : List Value} {x : DataW H × List MemPlace} (h : DataW.trod enc Tryz.prog W base spare held n 37 cs = some x) : ∃ (a : SAct) (s : Sls), cs = (a.cells s).toList ∧ a.In W s := by
  obtain ⟨hl, k, hf⟩ := field_of Tryz.underlying37 h
  have hl' : cs.length = 15 := hl.trans c_act
  clear hl h
  · obtain ⟨x0, x1, x2, x3, x4, x5, x6, x7, x8, x9, x10, x11, x12, x13, x14, rfl⟩ := list15 cs hl'
    clear hl'
    obtain ⟨y0, g0⟩ := hf 0 _ rfl
    simp only [List.getElem_toArray, List.getElem_cons_zero, List.getElem_cons_succ] at g0
    rw [c_bool] at g0
    obtain ⟨z0, e0, _⟩ := DataW.trod_bool Tryz.underlying4 g0
    obtain rfl : x0 = .bool z0 := by simpa using e0
    obtain ⟨y1, g1⟩ := hf 1 _ rfl
    simp only [List.getElem_toArray, List.getElem_cons_zero, List.getElem_cons_succ] at g1
    rw [c_ints] at g1
    obtain ⟨B, m, d, l, e1, hi1⟩ := ints_of_trod g1
    obtain rfl : x1 = .slice B m d := by simpa using e1
    obtain ⟨y2, g2⟩ := hf 2 _ rfl
    simp only [List.getElem_toArray, List.getElem_cons_zero, List.getElem_cons_succ] at g2
    rw [c_event] at g2
    obtain ⟨e, B2, m2, d2, ee, hi2⟩ := event_of_trod g2
    have ee : [x2, x3, x4, x5, x6, x7, x8, x9, x10, x11, x12, x13, x14] = [.int .i64 e.replica, .int .i64 e.number, .int .i64 e.time, .slice B2 m2 d2, .int .i64 e.kind, .int .i64 e.action, .int .i64 e.gkind, .int .i64 e.gindex, .int .i64 e.gelement, .int .i64 e.gamount, .int .i64 e.to, .int .i64 e.place, .int .i64 e.serial] := ee
    simp only [List.cons.injEq, and_true] at ee
    obtain ⟨rfl, rfl, rfl, rfl, rfl, rfl, rfl, rfl, rfl, rfl, rfl, rfl, rfl⟩ := ee
    exact ⟨⟨z0, l, e⟩, ⟨B, m, d, B2, m2, d2⟩, rfl, hi1, hi2⟩

theorem acts_of_trod {n : Nat} {cs : List Value} {x : DataW H × List MemPlace} (h : DataW.trod enc Tryz.prog W base spare held n 22 cs = some x) : ∃ A n c l, cs = [.slice A n c] ∧ Acts W A n c l := by
  rcases open_slice Tryz.underlying22 h with ⟨rfl, _⟩ | ⟨a, len, cap, m, k, D, Pl, rfl, hb, hl, hm, hmm, _, hx⟩
  · exact ⟨none, 0, 0, [], rfl, rfl, Nat.le_refl _, by omega, fun k hk => absurd hk (Nat.not_lt_zero k)⟩
  · have hlm : len ≤ m := by rw [hmm]; split <;> omega
    have each : ∀ i, i < len → ∃ q : SAct × Sls, (∀ j v, (q.1.cells q.2)[j]? = some v → W.cell? (a.add (i * 15 + j)) = some v) ∧ q.1.In W q.2 := by
      intro i hi
      obtain ⟨cs', h1, h2⟩ := hx i (by omega)
      obtain ⟨q, s, hq, hin⟩ := act_of_trod h2
      rw [c_act] at h1
      obtain ⟨_, hlen, hcell⟩ := World.cells?_some h1
      refine ⟨(q, s), fun j v hj => ?_, hin⟩
      have hj15 : j < 15 := (Array.getElem?_eq_some_iff.1 hj).1
      have hh := hcell j hj15
      rw [Go.Deep.add_add] at hh
      rw [hh, hq, Array.getElem?_toList]
      exact hj
    cases hlen : len with
    | zero => exact ⟨some a, 0, cap, [], rfl, rfl, by omega, by unfold maxLen at hm; omega, fun k hk => absurd hk (Nat.not_lt_zero k)⟩
    | succ len' =>
      rw [hlen] at each
      have h0 : a = ⟨a.block, a.off, none⟩ := by
        obtain ⟨q, hq, _⟩ := each 0 (by omega)
        have := hq 0 (.bool q.1.write) rfl
        rw [show a.add (0 * 15 + 0) = a by simp [Addr.add]] at this
        exact spot_none this
      have each' : ∀ i : Fin (len' + 1), ∃ q : SAct × Sls, (∀ j v, (q.1.cells q.2)[j]? = some v → W.cell? (a.add (i.val * 15 + j)) = some v) ∧ q.1.In W q.2 := fun i => each i.val i.isLt
      obtain ⟨f, hf⟩ := Classical.axiomOfChoice each'
      refine ⟨some a, len' + 1, cap, List.ofFn (fun i => (f i).1), rfl, List.length_ofFn, by omega, by unfold maxLen at hm; omega, fun k hk => ?_⟩
      have hk' : k < len' + 1 := by simpa using hk
      refine ⟨a.block, a.off, (f ⟨k, hk'⟩).2, by rw [← h0], fun j v hj => ?_, ?_⟩
      · rw [List.getElem_ofFn] at hj
        have := (hf ⟨k, hk'⟩).1 j v hj
        rw [h0, add_plain] at this
        rw [Nat.add_assoc]
        exact this
      · rw [List.getElem_ofFn]
        exact (hf ⟨k, hk'⟩).2
end Go.Proofs.YtolbcmniklbnmaaGreatDoor
