/- Texts cut at one byte, and joined by it: plain facts. Conditions: those of each theorem. -/
import Derived.Test.YtnbjealpcjfllaaGreatDoorTx
import Derived.Lib.Split
import Derived.Lib.SplitLaws
import Derived.Lib.Join
namespace Go.Proofs.YtnbjealpcjfllaaGreatDoor
set_option linter.unusedVariables false
set_option linter.unusedSimpArgs false
open Go.RowKit
/-- The pieces of a text between the bytes c. -/
def wds (c : UInt8) : List UInt8 → List (List UInt8)
  | [] => [[]]
  | b :: r => if b = c then [] :: wds c r else match wds c r with
    | [] => [[b]]
    | h :: t => (b :: h) :: t
theorem wds_ne (c : UInt8) (l : List UInt8) : wds c l ≠ [] := by
  cases l with
  | nil => simp [wds]
  | cons b r =>
    unfold wds
    split
    · simp
    · split <;> simp
theorem wds_app {c : UInt8} : ∀ {a : List UInt8} (r : List UInt8), c ∉ a → wds c (a ++ c :: r) = a :: wds c r
  | [], r, _ => by simp [wds]
  | b :: a, r, h => by
    have hb : b ≠ c := fun e => h (by rw [e]; simp)
    have ih := wds_app (a := a) r (fun hm => h (List.mem_cons_of_mem _ hm))
    show wds c (b :: (a ++ c :: r)) = _
    rw [wds, if_neg hb, ih]
theorem wds_none {c : UInt8} : ∀ {a : List UInt8}, c ∉ a → wds c a = [a]
  | [], _ => rfl
  | b :: a, h => by
    have hb : b ≠ c := fun e => h (by rw [e]; simp)
    have ih := wds_none (a := a) (fun hm => h (List.mem_cons_of_mem _ hm))
    unfold wds
    rw [if_neg hb, ih]
theorem join_two (x y : List UInt8) (r : List (List UInt8)) (c : UInt8) : Lib.join (x :: y :: r) [c] = x ++ c :: Lib.join (y :: r) [c] := by
  rw [Lib.join_cons, Lib.join_cons]
  unfold Lib.joinTail
  simp
/-- What is joined is cut again. -/
theorem wds_join {c : UInt8} : ∀ {xs : List (List UInt8)}, xs ≠ [] → (∀ x ∈ xs, c ∉ x) → wds c (Lib.join xs [c]) = xs
  | [], h, _ => absurd rfl h
  | [x], _, h => by rw [Lib.join_one, wds_none (h x (by simp))]
  | x :: y :: r, _, h => by
    rw [join_two, wds_app _ (h x (by simp)), wds_join (by simp) (fun z hz => h z (List.mem_cons_of_mem _ hz))]
theorem wds_mem {c : UInt8} : ∀ {l : List UInt8}, ∀ p ∈ wds c l, c ∉ p
  | [], p, hp => by simp [wds] at hp; rw [hp]; simp
  | b :: r, p, hp => by
    have ih := wds_mem (c := c) (l := r)
    unfold wds at hp
    split at hp
    · rcases List.mem_cons.1 hp with rfl | hp
      · simp
      · exact ih p hp
    · rename_i hb
      split at hp
      · rename_i e; exact absurd e (wds_ne c r)
      · rename_i h t e
        rw [e] at ih
        rcases List.mem_cons.1 hp with rfl | hp
        · intro hm
          rcases List.mem_cons.1 hm with q | q
          · exact hb q.symm
          · exact ih h (by simp) q
        · exact ih p (List.mem_cons_of_mem _ hp)
/-- What is cut is joined again. -/
theorem join_wds (c : UInt8) : ∀ l : List UInt8, Lib.join (wds c l) [c] = l
  | [] => by simp [wds, Lib.join_one]
  | b :: r => by
    have ih := join_wds c r
    unfold wds
    split
    · rename_i hb
      cases e : wds c r with
      | nil => exact absurd e (wds_ne c r)
      | cons h t =>
        rw [e] at ih
        rw [join_two, ih, hb]
        rfl
    · split
      · rename_i e; exact absurd e (wds_ne c r)
      · rename_i h t e
        rw [e, Lib.join_cons] at ih
        rw [Lib.join_cons, List.cons_append, ih]
theorem wds_length (c : UInt8) : ∀ l : List UInt8, (wds c l).length = l.count c + 1
  | [] => rfl
  | b :: r => by
    have ih := wds_length c r
    unfold wds
    by_cases hb : b = c
    · rw [if_pos hb, List.length_cons, ih, hb, List.count_cons_self]
    · rw [if_neg hb, List.count_cons_of_ne hb]
      split
      · rename_i e; exact absurd e (wds_ne c r)
      · rename_i h t e
        rw [e] at ih
        simpa using ih
theorem index_no {c : UInt8} : ∀ {a : List UInt8}, c ∉ a → Lib.index a [c] = -1
  | [], _ => by unfold Lib.index; simp
  | x :: a, h => by
    have hx : x ≠ c := fun e => h (by rw [e]; simp)
    have ih := index_no (a := a) (fun hm => h (List.mem_cons_of_mem _ hm))
    unfold Lib.index
    rw [if_neg (by simp [Ne.symm hx]), ih]
    rfl
theorem index_at {c : UInt8} : ∀ (a b : List UInt8), c ∉ a → Lib.index (a ++ c :: b) [c] = a.length
  | [], b, _ => by
    unfold Lib.index
    simp
  | x :: a, b, h => by
    have hx : x ≠ c := fun e => h (by rw [e]; simp)
    have ih := index_at a b (fun hm => h (List.mem_cons_of_mem _ hm))
    show Lib.index (x :: (a ++ c :: b)) [c] = _
    unfold Lib.index
    rw [if_neg (by simp [Ne.symm hx]), ih]
    have e : (((a.length : Int) == -1) = true) = False := by simp
    rw [if_neg (by rw [e]; exact id)]
    simp
theorem splitK_wds {c : UInt8} : ∀ (k : Nat) (l : List UInt8), l.count c = k → Lib.splitK [c] 0 k l = wds c l
  | 0, l, h => by
    rw [wds_none (fun hm => by have := List.count_pos_iff.2 hm; omega)]
    rfl
  | k + 1, l, h => by
    obtain ⟨a, r, h1, h2⟩ := List.eq_append_cons_of_mem (List.count_pos_iff.1 (show 0 < l.count c by omega))
    have hr : r.count c = k := by
      rw [h1, List.count_append, List.count_eq_zero_of_not_mem h2, List.count_cons_self] at h
      omega
    have ih := splitK_wds k r hr
    unfold Lib.splitK
    rw [h1, index_at a r h2, wds_app r h2]
    have e : (((a.length : Int) == -1) = true) = False := by simp
    rw [if_neg (by rw [e]; exact id)]
    simp only [Int.toNat_natCast, Nat.add_zero, List.length_singleton]
    rw [List.take_left, show (a ++ c :: r).drop (a.length + 1) = r by simp, ih]
theorem countB_one (l : List UInt8) (c : UInt8) : Lib.countB ⟨l.toArray⟩ ⟨#[c]⟩ = l.count c := by
  unfold Lib.countB
  have e1 : (⟨l.toArray⟩ : ByteArray).data.toList = l := by simp
  have e2 : (⟨#[c]⟩ : ByteArray).data.toList = [c] := rfl
  rw [e1, e2, Lib.count_one]
/-- A text as a value. -/
def strV (p : List UInt8) : Value := .string ⟨p.toArray⟩
/-- What strings.Split lays is the list of pieces. -/
theorem splitB_wds (l : List UInt8) (c : UInt8) : (Lib.splitB ⟨#[c]⟩ 0 (Lib.countB ⟨l.toArray⟩ ⟨#[c]⟩) ⟨l.toArray⟩).map Value.string = (wds c l).map strV := by
  have h := Lib.splitB_data ⟨#[c]⟩ 0 (Lib.countB ⟨l.toArray⟩ ⟨#[c]⟩) ⟨l.toArray⟩
  have e1 : (⟨l.toArray⟩ : ByteArray).data.toList = l := by simp
  have e2 : (⟨#[c]⟩ : ByteArray).data.toList = [c] := rfl
  rw [e1, e2, countB_one, splitK_wds _ l rfl] at h
  rw [countB_one, ← h, List.map_map]
  refine List.map_congr_left fun x _ => ?_
  show Value.string x = Value.string ⟨x.data.toList.toArray⟩
  simp
end Go.Proofs.YtnbjealpcjfllaaGreatDoor
