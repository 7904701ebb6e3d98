/- Texts of numbers and of spans: plain facts. Conditions: those of each theorem. -/
import Derived.Test.YtnbjealpcjfllaaGreatDoorDg
import Derived.Lib.AtoiAll
import Derived.Lib.Atoi
import Derived.Lib.IndexMore
namespace Go.Proofs.YtnbjealpcjfllaaGreatDoor
set_option linter.unusedVariables false
set_option linter.unusedSimpArgs false
open Go.RowKit
theorem digitVal_of {k : Nat} (h : k < 10) : Lib.digitVal (48 + UInt8.ofNat k) = some k := by
  have e : (48 + UInt8.ofNat k).toNat = 48 + k := by
    have : (48 + UInt8.ofNat k : UInt8) = UInt8.ofNat (48 + k) := by rw [UInt8.ofNat_add]; rfl
    rw [this, UInt8.toNat_ofNat', Nat.mod_eq_of_lt (by omega)]
  unfold Lib.digitVal
  rw [e, if_pos (by omega)]
  congr 1
  omega
theorem decFrom_app : ∀ (a b : List UInt8) (acc : Nat), Lib.decFrom acc (a ++ b) = (Lib.decFrom acc a).bind fun n => Lib.decFrom n b
  | [], b, acc => rfl
  | x :: a, b, acc => by
    show (match Lib.digitVal x with | some d => Lib.decFrom (acc * 10 + d) (a ++ b) | none => none) = (match Lib.digitVal x with | some d => Lib.decFrom (acc * 10 + d) a | none => none).bind fun n => Lib.decFrom n b
    cases Lib.digitVal x with
    | none => rfl
    | some d => exact decFrom_app a b _
theorem decFrom_dig (u : Nat) : Lib.decFrom 0 (Lib.decDigits u) = some u := by
  induction u using Nat.strongRecOn with
  | ind u ih =>
    by_cases h : 9 < u
    · rw [dec_step h, decFrom_app, ih (u / 10) (by omega)]
      show (match Lib.digitVal (48 + UInt8.ofNat (u % 10)) with | some d => some (u / 10 * 10 + d) | none => none) = some u
      rw [digitVal_of (by omega)]
      show some (u / 10 * 10 + u % 10) = some u
      congr 1
      omega
    · rw [dec_last h]
      show (match Lib.digitVal (48 + UInt8.ofNat u) with | some d => some (0 * 10 + d) | none => none) = some u
      rw [digitVal_of (by omega)]
      show some (0 * 10 + u) = some u
      congr 1
      omega
theorem dig_ne (u : Nat) : Lib.decDigits u ≠ [] := by
  by_cases h : 9 < u
  · rw [dec_step h]; simp
  · rw [dec_last h]; simp
/-- Each byte is a digit. -/
theorem dig_all (u : Nat) : ∀ b ∈ Lib.decDigits u, 48 ≤ b.toNat ∧ b.toNat ≤ 57 := by
  have e : ∀ k, k < 10 → (48 + UInt8.ofNat k : UInt8).toNat = 48 + k := fun k hk => by
    have : (48 + UInt8.ofNat k : UInt8) = UInt8.ofNat (48 + k) := by rw [UInt8.ofNat_add]; rfl
    rw [this, UInt8.toNat_ofNat', Nat.mod_eq_of_lt (by omega)]
  induction u using Nat.strongRecOn with
  | ind u ih =>
    intro b hb
    by_cases h : 9 < u
    · rw [dec_step h, List.mem_append] at hb
      rcases hb with hb | hb
      · exact ih (u / 10) (by omega) b hb
      · rw [List.mem_singleton] at hb
        rw [hb, e _ (by omega)]
        omega
    · rw [dec_last h, List.mem_singleton] at hb
      rw [hb, e _ (by omega)]
      omega
theorem decFrom_mono : ∀ (l : List UInt8) (acc n : Nat), Lib.decFrom acc l = some n → acc ≤ n
  | [], acc, n, h => by cases h; exact Nat.le_refl _
  | b :: r, acc, n, h => by
    unfold Lib.decFrom at h
    split at h
    · have := decFrom_mono r _ n h; omega
    · cases h
theorem parse_of : ∀ (l : List UInt8) (acc n : Nat), Lib.decFrom acc l = some n → n < 1844674407370955162 → Lib.parseUint10 acc l = .ok n
  | [], acc, n, h, _ => by cases h; rfl
  | b :: r, acc, n, h, hn => by
    have h' := h
    unfold Lib.decFrom at h
    split at h
    · rename_i d hd
      have hm := decFrom_mono r _ n h
      have hm2 := decFrom_mono (b :: r) acc n h'
      unfold Lib.digitVal at hd
      split at hd
      · rename_i hb
        cases hd
        unfold Lib.parseUint10
        rw [if_pos hb, if_neg (by omega), if_neg (by omega)]
        exact parse_of r _ n h hn
      · cases hd
    · cases h
theorem dig_head {u : Nat} : ∃ c r, Lib.decDigits u = c :: r ∧ c.toNat ≠ 43 ∧ c.toNat ≠ 45 := by
  cases h : Lib.decDigits u with
  | nil => exact absurd h (dig_ne u)
  | cons c r =>
    have := dig_all u c (by rw [h]; simp)
    exact ⟨c, r, rfl, by omega, by omega⟩
/-- What Itoa writes Atoi reads. -/
theorem atoi_itoa {v : Int} (hv : -1099511627776 ≤ v ∧ v ≤ 1099511627776) : Lib.atoiAll (Lib.itoa v) = .ok v := by
  have hm : ∀ u : Nat, u ≤ 1099511627776 → Lib.parseMag (Lib.decDigits u) = .ok u := fun u hu => by
    unfold Lib.parseMag
    rw [if_neg (dig_ne u)]
    exact parse_of _ _ _ (decFrom_dig u) (by omega)
  by_cases h : v < 0
  · obtain ⟨k, rfl⟩ : ∃ k : Nat, v = -(k : Int) := ⟨v.natAbs, by omega⟩
    rw [Lib.itoa_neg k (by omega)]
    unfold Lib.atoiAll
    simp only [show (45 : UInt8).toNat = 45 from rfl]
    rw [if_pos (by simp), hm k (by omega)]
    simp
    omega
  · obtain ⟨k, rfl⟩ := Int.eq_ofNat_of_zero_le (show 0 ≤ v by omega)
    rw [Lib.itoa_nonneg]
    obtain ⟨c, r, e, c1, c2⟩ := dig_head (u := k)
    have := hm k (by omega)
    rw [e] at this ⊢
    unfold Lib.atoiAll
    simp only [c1, c2, or_self, if_false]
    rw [this]
    simp
    omega
theorem itoa_inj {u v : Int} (hu : -1099511627776 ≤ u ∧ u ≤ 1099511627776) (hv : -1099511627776 ≤ v ∧ v ≤ 1099511627776) (h : Lib.itoa u = Lib.itoa v) : u = v := by
  have h1 := atoi_itoa hu
  rw [h, atoi_itoa hv] at h1
  injection h1 with h1
  exact h1.symm
theorem itoa_nospace (v : Int) : (32 : UInt8) ∉ Lib.itoa v := by
  intro hm
  unfold Lib.itoa at hm
  split at hm
  · rcases List.mem_cons.1 hm with h | h
    · cases h
    · have := dig_all _ _ h
      simp at this
  · have := dig_all _ _ hm
    simp at this
theorem index_sp : ∀ (a b : List UInt8), (32 : UInt8) ∉ a → Lib.index (a ++ 32 :: b) [32] = a.length
  | [], b, _ => by
    unfold Lib.index
    simp
  | x :: a, b, h => by
    have hx : x ≠ 32 := fun e => h (by rw [e]; simp)
    have ih := index_sp a b (fun hm => h (List.mem_cons_of_mem _ hm))
    show Lib.index (x :: (a ++ 32 :: b)) [32] = _
    unfold Lib.index
    rw [if_neg (by simp [Ne.symm hx]), ih]
    have e : (((a.length : Int) == -1) = true) = False := by simp
    rw [if_neg (by rw [e]; exact id)]
    simp
theorem cut_sp {a b : List UInt8} (h : (32 : UInt8) ∉ a) : Lib.cut (a ++ 32 :: b) [32] = (a, b, true) := by
  unfold Lib.cut
  rw [index_sp a b h, if_pos (by omega)]
  simp
/-- The text of a span. -/
def fmtL (lo hi : Int) : List UInt8 := Lib.itoa lo ++ 32 :: Lib.itoa hi
theorem fmt_inj {a b c d : Int} (h1 : validB a b = true) (h2 : validB c d = true) (h : fmtL a b = fmtL c d) : a = c ∧ b = d := by
  have v1 := valid_bd h1
  have v2 := valid_bd h2
  have e1 := cut_sp (b := Lib.itoa b) (itoa_nospace a)
  have e2 := cut_sp (b := Lib.itoa d) (itoa_nospace c)
  unfold fmtL at h
  rw [h, e2] at e1
  simp only [Prod.mk.injEq] at e1
  exact ⟨(itoa_inj (by omega) (by omega) e1.1).symm, (itoa_inj (by omega) (by omega) e1.2.1).symm⟩
end Go.Proofs.YtnbjealpcjfllaaGreatDoor
