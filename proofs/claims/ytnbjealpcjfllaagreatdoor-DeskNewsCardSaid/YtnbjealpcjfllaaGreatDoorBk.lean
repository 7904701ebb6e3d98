/- Notebooks as lists of bytes: lines, what is written, what is read, and what is left after a crash. Conditions: those of each theorem. -/
import Derived.Test.YtnbjealpcjfllaaGreatDoorTx
namespace Go.Proofs.YtnbjealpcjfllaaGreatDoor
set_option linter.unusedVariables false
set_option linter.unusedSimpArgs false
/-- The list ahead of the first c and behind it. -/
def brk (c : UInt8) : List UInt8 → Option (List UInt8 × List UInt8)
  | [] => none
  | x :: l => if x = c then some ([], l) else (brk c l).map fun r => (x :: r.1, r.2)
theorem brk_app {c : UInt8} : ∀ {a : List UInt8} (b : List UInt8), c ∉ a → brk c (a ++ c :: b) = some (a, b)
  | [], b, _ => by simp [brk]
  | x :: a, b, h => by
    have hx : x ≠ c := fun e => h (by rw [e]; simp)
    show (if x = c then some ([], a ++ c :: b) else (brk c (a ++ c :: b)).map fun r => (x :: r.1, r.2)) = _
    rw [if_neg hx, brk_app b (fun hm => h (List.mem_cons_of_mem _ hm))]
    rfl
theorem brk_no {c : UInt8} : ∀ {a : List UInt8}, c ∉ a → brk c a = none
  | [], _ => rfl
  | x :: a, h => by
    have hx : x ≠ c := fun e => h (by rw [e]; simp)
    show (if x = c then some ([], a) else (brk c a).map fun r => (x :: r.1, r.2)) = _
    rw [if_neg hx, brk_no (fun hm => h (List.mem_cons_of_mem _ hm))]
    rfl
theorem brk_some {c : UInt8} : ∀ {l a b : List UInt8}, brk c l = some (a, b) → l = a ++ c :: b ∧ c ∉ a
  | [], a, b, h => by cases h
  | x :: l, a, b, h => by
    have h : (if x = c then some ([], l) else (brk c l).map fun r => (x :: r.1, r.2)) = some (a, b) := h
    by_cases hx : x = c
    · rw [if_pos hx] at h
      injection h with h
      injection h with h1 h2
      subst h1 h2 hx
      simp
    · rw [if_neg hx] at h
      cases hb : brk c l with
      | none => rw [hb] at h; cases h
      | some r =>
        obtain ⟨r1, r2⟩ := r
        rw [hb] at h
        simp only [Option.map_some, Option.some.injEq, Prod.mk.injEq] at h
        obtain ⟨h1, h2⟩ := h
        obtain ⟨e, hn⟩ := brk_some hb
        subst h1 h2
        refine ⟨by rw [e]; rfl, ?_⟩
        simp [hn, Ne.symm hx]
/-- The sum of a text behind a sum. -/
def sumB (s : Int) (l : List UInt8) : Int := l.foldl (fun t b => (t * 257 + b.toNat + 1) % 1000003) (s % 1000003)
theorem sumB_fold : ∀ (l : List UInt8) (t : Int), 0 ≤ t ∧ t < 1000003 → 0 ≤ l.foldl (fun t b => (t * 257 + (b.toNat : Int) + 1) % 1000003) t ∧ l.foldl (fun t b => (t * 257 + (b.toNat : Int) + 1) % 1000003) t < 1000003
  | [], _, h => h
  | b :: l, t, _ => sumB_fold l _ (by
    show 0 ≤ (t * 257 + (b.toNat : Int) + 1) % 1000003 ∧ (t * 257 + (b.toNat : Int) + 1) % 1000003 < 1000003
    omega)
theorem sumB_bd (s : Int) (l : List UInt8) : 0 ≤ sumB s l ∧ sumB s l < 1000003 := sumB_fold l _ (by omega)
/-- What may be an order of a line. -/
def rightB (l : List UInt8) : Bool := decide (1 ≤ l.length ∧ l.length ≤ 100) && l.all fun b => decide (32 ≤ b.toNat ∧ b.toNat ≤ 126)
theorem right_no {l : List UInt8} (h : rightB l = true) : (10 : UInt8) ∉ l ∧ 1 ≤ l.length ∧ l.length ≤ 100 := by
  unfold rightB at h
  simp only [Bool.and_eq_true, decide_eq_true_eq, List.all_eq_true] at h
  refine ⟨fun hm => ?_, h.1⟩
  have := h.2 10 hm
  simp at this
def lineB (s : Int) (l : List UInt8) : List UInt8 := Lib.itoa (sumB s l) ++ 32 :: (l ++ [10])
def writeB : Int → List (List UInt8) → List UInt8
  | _, [] => []
  | s, o :: r => lineB s o ++ writeB (sumB s o) r
/-- The first order of a notebook, and the rest. -/
def stepB (s : Int) (book : List UInt8) : Option (List UInt8 × List UInt8) :=
  match brk 10 book with
  | none => none
  | some (head, rest) => match brk 32 head with
    | none => none
    | some (x, o) => if rightB o = true ∧ x = Lib.itoa (sumB s o) then some (o, rest) else none
def readB : Nat → Int → List UInt8 → List (List UInt8) × List UInt8
  | 0, _, b => ([], b)
  | k + 1, s, b => match stepB s b with
    | none => ([], b)
    | some (o, r) => (o :: (readB k (sumB s o) r).1, (readB k (sumB s o) r).2)
theorem itoa_noline (v : Int) : (10 : UInt8) ∉ Lib.itoa v := by
  intro hm
  unfold Lib.itoa at hm
  split at hm
  · rcases List.mem_cons.1 hm with h | h
    · cases h
    · have := dig_all _ _ h
      simp at this
  · have := dig_all _ _ hm
    simp at this
theorem step_line {s : Int} {o : List UInt8} (h : rightB o = true) (r : List UInt8) : stepB s (lineB s o ++ r) = some (o, r) := by
  obtain ⟨h10, -⟩ := right_no h
  have e : lineB s o ++ r = (Lib.itoa (sumB s o) ++ 32 :: o) ++ 10 :: r := by
    unfold lineB
    simp
  unfold stepB
  rw [e, brk_app r (by
    simp only [List.mem_append, List.mem_cons, not_or]
    exact ⟨itoa_noline _, by decide, h10⟩)]
  show (match brk 32 (Lib.itoa (sumB s o) ++ 32 :: o) with
    | none => none
    | some (x, o') => if rightB o' = true ∧ x = Lib.itoa (sumB s o') then some (o', r) else none) = some (o, r)
  rw [brk_app o (itoa_nospace _)]
  exact if_pos ⟨h, rfl⟩
theorem step_some {s : Int} {b o r : List UInt8} (h : stepB s b = some (o, r)) : b = lineB s o ++ r ∧ rightB o = true := by
  unfold stepB at h
  cases hb : brk 10 b with
  | none => rw [hb] at h; cases h
  | some p =>
    obtain ⟨head, rest⟩ := p
    rw [hb] at h
    simp only at h
    cases hc : brk 32 head with
    | none => rw [hc] at h; cases h
    | some q =>
      obtain ⟨x, o'⟩ := q
      rw [hc] at h
      simp only at h
      split at h
      · rename_i hx
        injection h with h
        injection h with h1 h2
        subst h1 h2
        obtain ⟨e1, -⟩ := brk_some hb
        obtain ⟨e2, -⟩ := brk_some hc
        refine ⟨?_, hx.1⟩
        rw [e1, e2, hx.2]
        unfold lineB
        simp
      · cases h
/-- What is read of what was written. -/
theorem read_write : ∀ (os : List (List UInt8)) (k : Nat) (s : Int), (∀ o ∈ os, rightB o = true) → os.length ≤ k → readB k s (writeB s os) = (os, [])
  | [], k, s, _, _ => by
    cases k with
    | zero => rfl
    | succ k => rfl
  | o :: os, k, s, h, hk => by
    cases k with
    | zero => simp at hk
    | succ k =>
      have e : stepB s (writeB s (o :: os)) = some (o, writeB (sumB s o) os) := step_line (h o (by simp)) _
      show (match stepB s (writeB s (o :: os)) with
        | none => ([], writeB s (o :: os))
        | some (o', r) => (o' :: (readB k (sumB s o') r).1, (readB k (sumB s o') r).2)) = _
      rw [e]
      show (o :: (readB k (sumB s o) (writeB (sumB s o) os)).1, (readB k (sumB s o) (writeB (sumB s o) os)).2) = _
      rw [read_write os k (sumB s o) (fun x hx => h x (List.mem_cons_of_mem _ hx)) (by simp at hk; omega)]
theorem read_spec : ∀ (k : Nat) (s : Int) (b : List UInt8), b = writeB s (readB k s b).1 ++ (readB k s b).2 ∧ (∀ o ∈ (readB k s b).1, rightB o = true) ∧ (readB k s b).1.length ≤ k
  | 0, s, b => by simp [readB, writeB]
  | k + 1, s, b => by
    unfold readB
    cases h : stepB s b with
    | none => simp [writeB]
    | some p =>
      obtain ⟨o, r⟩ := p
      obtain ⟨e, hr⟩ := step_some h
      obtain ⟨i1, i2, i3⟩ := read_spec k (sumB s o) r
      refine ⟨?_, ?_, ?_⟩
      · show b = (lineB s o ++ writeB (sumB s o) (readB k (sumB s o) r).1) ++ (readB k (sumB s o) r).2
        rw [List.append_assoc, ← i1]
        exact e
      · intro x hx
        rcases List.mem_cons.1 hx with rfl | hx
        · exact hr
        · exact i2 x hx
      · simp only [List.length_cons]
        omega
theorem dig_len : ∀ (k u : Nat), u < 10 ^ (k + 1) → (Lib.decDigits u).length ≤ k + 1
  | 0, u, h => by
    have h' : u < 10 := by simpa using h
    unfold Lib.decDigits
    rw [dif_pos h']
    simp
  | k + 1, u, h => by
    unfold Lib.decDigits
    split
    · simp
    · have : u / 10 < 10 ^ (k + 1) := by
        rw [Nat.pow_succ] at h
        omega
      have := dig_len k (u / 10) this
      simp only [List.length_append, List.length_cons, List.length_nil]
      omega
theorem line_len {s : Int} {o : List UInt8} (h : rightB o = true) : (lineB s o).length ≤ 109 := by
  obtain ⟨-, -, h2⟩ := right_no h
  have b := sumB_bd s o
  have e : (Lib.itoa (sumB s o)).length ≤ 7 := by
    unfold Lib.itoa
    rw [if_neg (by omega)]
    exact dig_len 6 _ (by omega)
  unfold lineB
  simp only [List.length_append, List.length_cons, List.length_nil]
  omega
/-- Whatever beginning of a notebook is left has a beginning of its orders. -/
theorem crash : ∀ (os : List (List UInt8)) (k : Nat) (s : Int) (n : Nat), (∀ o ∈ os, rightB o = true) → os.length ≤ k →
    ∃ j t, readB k s ((writeB s os).take n) = (os.take j, t) ∧ j ≤ os.length ∧ (t = [] ∨ j < os.length) ∧ t.length ≤ 110
  | [], k, s, n, _, _ => by
    refine ⟨0, [], ?_, by simp, .inl rfl, by simp⟩
    have e : (writeB s []).take n = [] := by simp [writeB]
    rw [e]
    cases k with
    | zero => rfl
    | succ k => rfl
  | o :: os, k, s, n, h, hk => by
    have ho := h o (by simp)
    cases k with
    | zero => simp at hk
    | succ k =>
      by_cases hn : (lineB s o).length ≤ n
      · obtain ⟨j, t, e, hj, ht, hl⟩ := crash os k (sumB s o) (n - (lineB s o).length) (fun x hx => h x (List.mem_cons_of_mem _ hx)) (by simp at hk; omega)
        refine ⟨j + 1, t, ?_, by simp; omega, ?_, hl⟩
        · have e1 : (writeB s (o :: os)).take n = lineB s o ++ (writeB (sumB s o) os).take (n - (lineB s o).length) := by
            show (lineB s o ++ writeB (sumB s o) os).take n = _
            rw [List.take_append, List.take_of_length_le hn]
          rw [e1]
          unfold readB
          rw [step_line ho]
          show (o :: (readB k (sumB s o) _).1, (readB k (sumB s o) _).2) = _
          rw [e]
          rfl
        · rcases ht with ht | ht
          · exact .inl ht
          · exact .inr (by simp; omega)
      · refine ⟨0, (writeB s (o :: os)).take n, ?_, by simp, .inr (by simp), ?_⟩
        · have hno : (10 : UInt8) ∉ (writeB s (o :: os)).take n := by
            have e1 : (writeB s (o :: os)).take n = (Lib.itoa (sumB s o) ++ 32 :: o).take n := by
              show (lineB s o ++ writeB (sumB s o) os).take n = _
              have e2 : lineB s o = (Lib.itoa (sumB s o) ++ 32 :: o) ++ [10] := by
                unfold lineB
                simp
              have e3 : n ≤ (Lib.itoa (sumB s o) ++ 32 :: o).length := by
                rw [e2] at hn
                simp only [List.length_append, List.length_cons, List.length_nil] at hn ⊢
                omega
              rw [e2, List.append_assoc, List.take_append_of_le_length e3]
            rw [e1]
            intro hm
            have hm := List.mem_of_mem_take hm
            simp only [List.mem_append, List.mem_cons] at hm
            rcases hm with hm | hm | hm
            · exact itoa_noline _ hm
            · cases hm
            · exact (right_no ho).1 hm
          unfold readB
          have e : stepB s ((writeB s (o :: os)).take n) = none := by
            unfold stepB
            rw [brk_no hno]
          rw [e]
          rfl
        · have := line_len (s := s) ho
          simp only [List.length_take]
          omega
end Go.Proofs.YtnbjealpcjfllaaGreatDoor
