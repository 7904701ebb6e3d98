/- The ends of the sides that have a number, and how one is found among them. Plain facts, and the comparison of two numbers in an array. Conditions: those of each theorem. -/
import Derived.Test.YtoadlneneijfaaaFns
import Derived.Test.YtoadlneneijfaaaGrv
namespace Go.Proofs.Ytoadlneneijfaaa
set_option linter.unusedVariables false
set_option linter.unusedSimpArgs false
open Go.RowKit
theorem part2_0 (a b : Int) (w : World) : (part 3 #[.int .i64 a, .int .i64 b] 0).run Try.prog w = .ok (.int .i64 a) w := by kernel_rfl
theorem part2_1 (a b : Int) (w : World) : (part 3 #[.int .i64 a, .int .i64 b] 1).run Try.prog w = .ok (.int .i64 b) w := by kernel_rfl
theorem size2_int (w : World) : (sizeOf 3).run Try.prog w = .ok 1 w := by kernel_rfl
@[go_sem] theorem eq_a2 (d : Nat) (a0 a1 b0 b1 : Int) (w : World) : (Op.equalIn (d + 1 + 1) 80 (.agg #[.int .i64 a0, .int .i64 a1]) (.agg #[.int .i64 b0, .int .i64 b1])).run Try.prog w = .ok (a0 == b0 && a1 == b1) w := by
  rw [Op.equalIn]
  simp only [Sem.run_bind, run_underlying Try.underlying80, Result.andThen_ok, size2_int, Nat.mul_one]
  rw [Std.Legacy.Range.forIn_eq_forIn_range']
  simp only [Std.Legacy.Range.size, List.range'_succ, List.range'_zero, List.forIn_cons, List.forIn_nil, Sem.run_bind, part2_0, part2_1, Result.andThen_ok, run_equalIn_int _ _ _ _ _ _ _ Try.underlying3, Nat.reduceAdd, Nat.reduceSub, Nat.reduceDiv, Nat.zero_add]
  cases h0 : a0 == b0 <;> cases h1 : a1 == b1 <;> simp [Sem.run_pure, Sem.run_bind, Sem.run_ite, part2_0, part2_1, run_equalIn_int _ _ _ _ _ _ _ Try.underlying3, h0, h1]
theorem info2 : (Try.prog.info? 80).map (fun i => (i.zero, i.size, i.bytes)) = some (some (.agg #[.int .i64 0, .int .i64 0]), 2, 16) := by kernel_rfl
theorem rows2 {w : World} {A : Option Addr} {n k : Nat} {f : Nat → Nat → Int} (h : RowsAt w A n 2 f) (hk : k < n) :
    ∃ b off, A = some ⟨b, off, none⟩ ∧ b < w.heap.size ∧ w.cell? ⟨b, off + k * 2, none⟩ = some (.int .i64 (f k 0)) ∧ w.cell? ⟨b, off + k * 2 + 1, none⟩ = some (.int .i64 (f k 1)) := by
  obtain ⟨b, off, rfl, hb, hc⟩ := h (by omega)
  have h0 := (hc k hk 0 (by omega)).1
  have h1 := (hc k hk 1 (by omega)).1
  exact ⟨b, off, rfl, hb, by simpa using h0, by simpa using h1⟩
/-- The smaller and the greater end of the side that has number c. -/
def endF (m : Nat) (F : Nat → Nat → Int) (al : Nat → Nat) : Nat → Nat → Int := fun c j =>
  if j = 0 then min (tl F (fsel (newB al) (3 * m) c)) (tl F (nxt (fsel (newB al) (3 * m) c))) else max (tl F (fsel (newB al) (3 * m) c)) (tl F (nxt (fsel (newB al) (3 * m) c)))
/-- What has been found behind the first r ends. -/
def fndN (n : Nat) (al : Nat → Nat) (a r : Nat) : Int := if midN n al a - n < r then ((midN n al a - n : Nat) : Int) else -1
section
variable {F : Nat → Nat → Int} {al : Nat → Nat} {n m : Nat}
theorem end_at {a : Nat} (ha : a < 3 * m) (hn : newB al a = true) : endF m F al (cnB (newB al) a) 0 = min (tl F a) (tl F (nxt a)) ∧ endF m F al (cnB (newB al) a) 1 = max (tl F a) (tl F (nxt a)) := by
  unfold endF
  rw [fsel_at hn ha]
  exact ⟨rfl, rfl⟩
/-- An end pair is that of side a exactly at the number of its middle. -/
theorem end_eq (ho : Oth F al m) (hds : ∀ i, i < m → F i 0 ≠ F i 1 ∧ F i 1 ≠ F i 2 ∧ F i 2 ≠ F i 0) {a c : Nat} (ha : a < 3 * m) (hc : c < cnB (newB al) (3 * m)) :
    (endF m F al c 0 = min (tl F a) (tl F (nxt a)) ∧ endF m F al c 1 = max (tl F a) (tl F (nxt a))) ↔ c = midN n al a - n := by
  obtain ⟨b, b1, b2, b3⟩ := fsel_ex hc
  obtain ⟨e0, e1⟩ := end_at (F := F) b1 b2
  rw [b3] at e0 e1
  have hmb : midN n al b = n + c := by
    rw [mid_new (by unfold newB at b2; simpa using b2)]
    unfold npt
    omega
  obtain ⟨q1, q2, q3⟩ := ho.nb a ha
  have h2 := mid_old (n := n) ho ha
  constructor
  · rintro ⟨k0, k1⟩
    rw [e0] at k0
    rw [e1] at k1
    have : b = a ∨ b = al a := by
      by_cases h : tl F b = tl F a ∧ tl F (nxt b) = tl F (nxt a)
      · exact .inl (ho.one b1 ha h.1 h.2)
      · right
        refine ho.un a b ha b1 ?_ ?_ <;> omega
    rcases this with rfl | rfl
    · omega
    · omega
  · intro k
    have hge := (mid_bd (n := n) ho ha (r := 3 * m) (by omega)).1
    have : midN n al a = midN n al b := by omega
    rcases mid_inj ho ha b1 this with rfl | rfl
    · exact ⟨e0, e1⟩
    · rw [e0, e1, q2, q3]
      omega
theorem fnd_next {a r : Nat} : fndN n al a (r + 1) = if midN n al a - n = r then (r : Int) else fndN n al a r := by
  unfold fndN
  by_cases h : midN n al a - n = r
  · rw [if_pos (by omega), if_pos h, h]
  · rw [if_neg h]
    by_cases h2 : midN n al a - n < r
    · rw [if_pos (by omega), if_pos h2]
    · rw [if_neg (by omega), if_neg h2]
/-- At the end: found, if the side's other came ahead. -/
theorem fnd_end (ho : Oth F al m) {a : Nat} (ha : a < 3 * m) : (al a < a → fndN n al a (cnB (newB al) a) = (midN n al a : Int) - n ∧ 0 ≤ fndN n al a (cnB (newB al) a)) ∧ (a < al a → fndN n al a (cnB (newB al) a) = -1 ∧ midN n al a = n + cnB (newB al) a) := by
  obtain ⟨q1, q2, q3⟩ := ho.nb a ha
  constructor
  · intro h
    have hb := mid_bd (n := n) ho q1 (r := a) h
    rw [mid_old ho ha] at hb
    unfold npt at hb
    unfold fndN
    rw [if_pos (by omega)]
    omega
  · intro h
    have hm : midN n al a = n + cnB (newB al) a := mid_new h
    unfold fndN
    rw [if_neg (by omega)]
    exact ⟨rfl, hm⟩
end
end Go.Proofs.Ytoadlneneijfaaa
