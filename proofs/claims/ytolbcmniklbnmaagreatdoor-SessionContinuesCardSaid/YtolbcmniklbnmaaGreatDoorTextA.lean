/- Plain law: the text of a list of numbers gives the list back. No program in sight. -/
import Derived.Lib.Split
import Derived.Lib.SplitLaws
import Derived.Lib.Join
import Derived.Lib.Atoi
import Derived.Lib.ItoaNum
namespace Go.Proofs.YtolbcmniklbnmaaGreatDoor
open Go

theorem digits_are (n : Nat) : ∀ x ∈ Lib.decDigits n, 48 ≤ x.toNat ∧ x.toNat ≤ 57 := by
  induction n using Nat.strongRecOn with
  | _ n ih =>
    intro x hx
    rw [Lib.decDigits] at hx
    split at hx
    · rename_i h
      have hx := List.mem_singleton.1 hx
      subst hx
      have : (UInt8.ofNat (48 + n)).toNat = 48 + n := by simp only [UInt8.toNat_ofNat']; omega
      omega
    · rename_i h
      simp only [List.mem_append, List.mem_singleton] at hx
      rcases hx with hx | rfl
      · exact ih (n / 10) (by omega) x hx
      · have : (UInt8.ofNat (48 + n % 10)).toNat = 48 + n % 10 := by simp only [UInt8.toNat_ofNat']; omega
        omega
theorem digits_ne (n : Nat) : Lib.decDigits n ≠ [] := by
  rw [Lib.decDigits]; split <;> simp
theorem decFrom_append (a b : List UInt8) (acc : Nat) : Lib.decFrom acc (a ++ b) = (Lib.decFrom acc a).bind (fun m => Lib.decFrom m b) := by
  induction a generalizing acc with
  | nil => rfl
  | cons x t ih =>
    simp only [List.cons_append, Lib.decFrom]
    cases Lib.digitVal x with
    | none => rfl
    | some d => exact ih _
theorem digitVal_of {d : Nat} (h : d < 10) : Lib.digitVal (UInt8.ofNat (48 + d)) = some d := by
  unfold Lib.digitVal
  have : (UInt8.ofNat (48 + d)).toNat = 48 + d := by simp only [UInt8.toNat_ofNat']; omega
  rw [this, if_pos (by omega)]
  congr 1; omega
theorem decFrom_digits (n : Nat) : Lib.decFrom 0 (Lib.decDigits n) = some n := by
  induction n using Nat.strongRecOn with
  | _ n ih =>
    rw [Lib.decDigits]
    split
    · rename_i h
      simp only [Lib.decFrom, digitVal_of h]; congr 1; omega
    · rename_i h
      rw [decFrom_append, ih (n / 10) (by omega)]
      simp only [Option.bind_some, Lib.decFrom, digitVal_of (show n % 10 < 10 by omega)]
      congr 1; omega
theorem atoi_digits (n : Nat) : Lib.atoi (Lib.decDigits n) = some (n : Int) := by
  have h1 := digits_are n
  have h2 := decFrom_digits n
  have h3 := digits_ne n
  revert h1 h2 h3
  generalize Lib.decDigits n = l
  intro h1 h2 h3
  cases l with
  | nil => exact absurd rfl h3
  | cons b r =>
    have hb := h1 b (by simp)
    have e1 : (b == 45) = false := by
      rw [beq_eq_false_iff_ne]; rintro rfl; exact absurd hb.1 (by decide)
    have e2 : (b == 43) = false := by
      rw [beq_eq_false_iff_ne]; rintro rfl; exact absurd hb.1 (by decide)
    unfold Lib.atoi
    simp only [e1, e2, Lib.decNat, List.isEmpty_cons, h2]
    rfl
theorem atoi_itoa {n : Int} (h : 0 ≤ n) : Lib.atoi (Lib.itoa n) = some n := by
  unfold Lib.itoa
  rw [if_neg (by omega), atoi_digits]
  congr 1; omega
theorem itoa_plain {n : Int} (h : 0 ≤ n) : ∀ x ∈ Lib.itoa n, x ≠ 32 := by
  unfold Lib.itoa
  rw [if_neg (by omega)]
  rintro x hx rfl
  exact absurd (digits_are _ _ hx).1 (by decide)
theorem itoa_short {n : Int} (h : 0 ≤ n) (h2 : n ≤ 1024) : (Lib.itoa n).length ≤ 4 := by
  unfold Lib.itoa
  rw [if_neg (by omega), Lib.decDigits_length]
  have : n.toNat ≤ 1024 := by omega
  rw [Lib.nDigits]
  split
  · omega
  · rw [Lib.nDigits]
    split
    · omega
    · rw [Lib.nDigits]
      split
      · omega
      · rw [Lib.nDigits]
        split
        · omega
        · omega
theorem index_at (a r : List UInt8) (h : ∀ x ∈ a, x ≠ 32) : Lib.index (a ++ 32 :: r) [32] = (a.length : Int) := by
  induction a with
  | nil => simp [Lib.index]
  | cons x t ih =>
    have hx : ¬ (32 : UInt8) = x := fun e => h x (by simp) e.symm
    have it := ih (fun y hy => h y (by simp [hy]))
    rw [List.cons_append, Lib.index, it]
    have e1 : ((([32] : List UInt8).isPrefixOf (x :: (t ++ 32 :: r))) : Bool) = false := by simp [List.isPrefixOf, hx]
    have e2 : ((t.length : Int) == -1) = false := by rw [beq_eq_false_iff_ne]; omega
    rw [e1, e2]
    simp
theorem index_not (a : List UInt8) (h : ∀ x ∈ a, x ≠ 32) : Lib.index a [32] = -1 := by
  induction a with
  | nil => rfl
  | cons x t ih =>
    have hx : ¬ (32 : UInt8) = x := fun e => h x (by simp) e.symm
    rw [Lib.index, ih (fun y hy => h y (by simp [hy]))]
    have e1 : ((([32] : List UInt8).isPrefixOf (x :: t)) : Bool) = false := by simp [List.isPrefixOf, hx]
    rw [e1]; rfl
theorem join_two (x y : List UInt8) (r : List (List UInt8)) : Lib.join (x :: y :: r) [32] = x ++ 32 :: Lib.join (y :: r) [32] := by
  rw [Lib.join_cons, Lib.join_cons]
  simp [Lib.joinTail]
theorem count_join : ∀ (xs : List (List UInt8)), xs ≠ [] → (∀ x ∈ xs, ∀ b ∈ x, b ≠ 32) → Lib.count (Lib.join xs [32]) [32] + 1 = xs.length
  | [], h, _ => absurd rfl h
  | [x], _, h => by
    rw [Lib.join_one, Lib.count_miss (index_not x (h x (by simp)))]; rfl
  | x :: y :: r, _, h => by
    rw [join_two, Lib.count_hit (by simp) (index_at x _ (h x (by simp)))]
    have := count_join (y :: r) (by simp) (fun z hz => h z (List.mem_cons_of_mem _ hz))
    have e : (x ++ 32 :: Lib.join (y :: r) [32]).drop (x.length + ([32] : List UInt8).length) = Lib.join (y :: r) [32] := by
      rw [List.drop_append]; simp
    rw [e]
    simp only [List.length_cons] at this ⊢
    omega
theorem split_join : ∀ (xs : List (List UInt8)) (k : Nat), xs.length = k + 1 → (∀ x ∈ xs, ∀ b ∈ x, b ≠ 32) → Lib.splitK [32] 0 k (Lib.join xs [32]) = xs
  | [], k, h, _ => by simp at h
  | [x], k, h, _ => by
    have : k = 0 := by simpa using h.symm
    subst this
    rw [Lib.join_one]; rfl
  | x :: y :: r, 0, h, _ => by simp at h
  | x :: y :: r, k + 1, h, hx => by
    have hi := index_at x (Lib.join (y :: r) [32]) (hx x (by simp))
    rw [join_two, Lib.splitK, hi]
    have e2 : ((x.length : Int) == -1) = false := by rw [beq_eq_false_iff_ne]; omega
    have e : (x ++ 32 :: Lib.join (y :: r) [32]).drop (x.length + ([32] : List UInt8).length) = Lib.join (y :: r) [32] := by
      rw [List.drop_append]; simp
    have e3 : (x ++ 32 :: Lib.join (y :: r) [32]).take (x.length + 0) = x := by
      rw [List.take_append]; simp
    have ih := split_join (y :: r) k (by simpa using h) (fun z hz => hx z (List.mem_cons_of_mem _ hz))
    rw [e2, Int.toNat_natCast, e, e3, ih]
    rfl
/-- A Go string of given bytes. -/
def str (l : List UInt8) : ByteArray := ⟨l.toArray⟩
theorem str_data (l : List UInt8) : (str l).data.toList = l := rfl
theorem str_size (l : List UInt8) : (str l).size = l.length := by simp [str, ByteArray.size]
theorem str_of (b : ByteArray) : str b.data.toList = b := rfl
/-- The numbers with blanks between them. -/
def mid (l : List Int) : List UInt8 := Lib.join (l.map Lib.itoa) [32]
theorem mid_pieces (l : List Int) (hl : l ≠ []) (h : ∀ n ∈ l, 0 ≤ n) : Lib.countB (str (mid l)) ⟨#[32]⟩ + 1 = l.length ∧ Lib.splitB ⟨#[32]⟩ 0 (Lib.countB (str (mid l)) ⟨#[32]⟩) (str (mid l)) = l.map (fun n => str (Lib.itoa n)) := by
  have hp : ∀ x ∈ l.map Lib.itoa, ∀ b ∈ x, b ≠ 32 := by
    intro x hx b hb
    obtain ⟨n, hn, rfl⟩ := List.mem_map.1 hx
    exact itoa_plain (h n hn) b hb
  have hc : Lib.countB (str (mid l)) ⟨#[32]⟩ + 1 = l.length := by
    have := count_join (l.map Lib.itoa) (by simpa using hl) hp
    rw [List.length_map] at this
    exact this
  refine ⟨hc, ?_⟩
  have hs := Lib.splitB_data ⟨#[32]⟩ 0 (Lib.countB (str (mid l)) ⟨#[32]⟩) (str (mid l))
  have h2 : Lib.splitK [32] 0 (Lib.countB (str (mid l)) ⟨#[32]⟩) (mid l) = l.map Lib.itoa := split_join (l.map Lib.itoa) _ (by rw [List.length_map]; exact hc.symm) hp
  have h3 : (Lib.splitB ⟨#[32]⟩ 0 (Lib.countB (str (mid l)) ⟨#[32]⟩) (str (mid l))).map (·.data.toList) = l.map Lib.itoa := hs.trans h2
  have h4 := congrArg (List.map str) h3
  rw [List.map_map, List.map_map] at h4
  have : (str ∘ fun x : ByteArray => x.data.toList) = id := by funext b; rfl
  rw [this, List.map_id] at h4
  exact h4
theorem mid_short (l : List Int) (h5 : l.length ≤ 5) (h : ∀ n ∈ l, 0 ≤ n ∧ n ≤ 1024) : (mid l).length ≤ 30 := by
  cases l with
  | nil => simp [mid, Lib.join_nil]
  | cons a r =>
    unfold mid
    rw [List.map_cons, Lib.join_cons, List.length_append, Lib.joinTail_length]
    have h1 := itoa_short (h a (by simp)).1 (h a (by simp)).2
    have h2 : Lib.lens (r.map Lib.itoa) ≤ 4 * r.length := by
      clear h1 h5
      induction r with
      | nil => simp [Lib.lens]
      | cons b t ih =>
        have hb := itoa_short (h b (by simp)).1 (h b (by simp)).2
        have := ih (fun n hn => by rcases List.mem_cons.1 hn with rfl | hn; exact h _ (by simp); exact h n (by simp [hn]))
        simp only [Lib.lens, List.map_cons, List.sum_cons, List.length_cons] at this ⊢
        omega
    simp only [List.length_map, List.length_cons, List.length_nil] at h5 h2 ⊢
    omega
/-- The text of a clock. -/
def text (l : List Int) : List UInt8 := 91 :: (mid l ++ [93])
theorem text_prefix (l : List Int) : Lib.hasPrefix (text l) [91] = true ∧ Lib.trimPrefix (text l) [91] = mid l ++ [93] := by
  have h : Lib.hasPrefix (text l) [91] = true := by simp [Lib.hasPrefix, text, List.isPrefixOf]
  refine ⟨h, ?_⟩
  unfold Lib.trimPrefix
  rw [h]; rfl
theorem text_suffix (l : List Int) : Lib.hasSuffix (mid l ++ [93]) [93] = true ∧ Lib.trimSuffix (mid l ++ [93]) [93] = mid l := by
  have h : Lib.hasSuffix (mid l ++ [93]) [93] = true := by
    unfold Lib.hasSuffix
    rw [List.isSuffixOf_iff_suffix]
    exact ⟨mid l, rfl⟩
  refine ⟨h, ?_⟩
  unfold Lib.trimSuffix
  rw [h]; simp
theorem str_inj {a b : List UInt8} (h : str a = str b) : a = b := by
  have := congrArg (fun x : ByteArray => x.data.toList) h
  exact this
end Go.Proofs.YtolbcmniklbnmaaGreatDoor
