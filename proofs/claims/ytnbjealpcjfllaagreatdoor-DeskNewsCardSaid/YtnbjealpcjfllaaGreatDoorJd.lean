/- Contract: writing a notebook, of the reference. Conditions: the texts are right. -/
import Derived.Test.YtnbjealpcjfllaaGreatDoorJc
namespace Go.Proofs.YtnbjealpcjfllaaGreatDoor
set_option linter.unusedVariables false
set_option linter.unusedSimpArgs false
open Go.ChangeShapes Go.WideShapes Go.ChangeAt Go.RowKit Go.Deep
theorem write_snoc : ∀ (os : List (List UInt8)) (s : Int) (o : List UInt8), writeB s (os ++ [o]) = writeB s os ++ lineB (os.foldl sumB s) o
  | [], s, o => by simp [writeB]
  | x :: r, s, o => by
    show lineB s x ++ writeB (sumB s x) (r ++ [o]) = (lineB s x ++ writeB (sumB s x) r) ++ lineB (r.foldl sumB (sumB s x)) o
    rw [write_snoc r, List.append_assoc]
theorem jsums_bd : ∀ (os : List (List UInt8)), 0 ≤ os.foldl sumB 0 ∧ os.foldl sumB 0 < 1000003 := fun os => by
  rcases List.eq_nil_or_concat os with rfl | ⟨r, o, rfl⟩
  · decide
  · rw [List.concat_eq_append, List.foldl_append]
    exact sumB_bd _ o
set_option maxRecDepth 100000 in
set_option maxHeartbeats 4000000 in
theorem r9write_any (A : Option Addr) (l : List (List UInt8)) (c1 : Nat) (w : World) (h1 : TxAt w A l) (hb : l.length ≤ 1000) (hr : ∀ o ∈ l, rightB o = true) (h : Ld w) :
    Calls Tryz.prog 46 #[.slice A l.length c1] w fun e w' => e = .returned (strV (writeB 0 l)) ∧ Kept w w' := by
  have H1 := Lib.hid h1
  have H := Lib.hid h
  have HRR := Lib.hid hr
  obtain ⟨R, hR⟩ : ∃ R, writeB 0 l = R := ⟨_, rfl⟩
  rw [hR]
  have HR := Lib.hid hR
  clear h1 h hr hR
  unfold strV
  go_enter Tryz.func46, Tryz.ntmps46
  go_wp2_with fail
  go_loopw [3, 4, 5] (fun a t i wr => ∃ k : Nat, k ≤ l.length ∧ i = .int .i64 k ∧ (∃ y, wr = ext w y) ∧ (∃ x : List UInt8, a = .string ⟨x.toArray⟩ ∧ x = writeB 0 (l.take k) ∧ x.length ≤ k * 109) ∧ t = .int .i64 ((l.take k).foldl sumB 0)) (fun _ _ i _ => l.length - (intOf i).toNat)
  case atStart => exact ⟨0, by omega, rfl, show Kept _ _ by (repeat (first | exact Kept.refl _ | assumption | refine Kept.alloc ?_ _ | refine Kept.ext ?_ _ | refine Kept.drew ?_ | refine Kept.drewN ?_ _)), ⟨[], rfl, rfl, by simp⟩, rfl⟩
  case round =>
    obtain ⟨k, hk, rfl, ⟨y, rfl⟩, ⟨x, rfl, hx, hxl⟩, rfl⟩ := hrel
    by_cases hlt : k < l.length
    · obtain ⟨b, off, rfl, hb1, f0⟩ := H1.out.at hlt
      have LB : Lower b w.heap.size := ⟨hb1⟩
      obtain ⟨o, ho⟩ : ∃ p, l[k] = p := ⟨_, rfl⟩
      rw [ho] at f0
      unfold strV at f0
      have hro : rightB o = true := HRR.out o (by rw [← ho]; exact List.getElem_mem _)
      have hll := (right_no hro).2.2
      have e1 : l.take (k + 1) = l.take k ++ [o] := by rw [List.take_succ_eq_append_getElem hlt, ho]
      obtain ⟨s, hs⟩ : ∃ s, (l.take k).foldl sumB 0 = s := ⟨_, rfl⟩
      have hsb := jsums_bd (l.take k)
      rw [hs] at hsb
      have e2 : (l.take (k + 1)).foldl sumB 0 = sumB s o := by rw [e1, List.foldl_append, hs]; rfl
      have e3 : writeB 0 (l.take (k + 1)) = x ++ lineB s o := by rw [e1, write_snoc, hs, hx]
      have hle := line_len (s := s) hro
      have q1 : ∀ w', _ := fun w' => r9sum_any s o w' (by omega)
      have hsm := sumB_bd s o
      have hsl := sum_len s o
      have q2 : ∀ w', Kept w w' → _ := fun w' hk => sItoa (sumB s o) w' (by omega) (H.out.on hk)
      have el : lineB s o = Lib.itoa (sumB s o) ++ 32 :: (o ++ [10]) := rfl
      rw [el] at e3 hle
      obtain ⟨t, ht⟩ : ∃ x, sumB s o = x := ⟨_, rfl⟩
      rw [ht] at q1 q2 hsm hsl e2 e3 hle
      obtain ⟨z, hz⟩ : ∃ x, Lib.itoa t = x := ⟨_, rfl⟩
      rw [hz] at q2 hsl e3 hle
      have Q1 := Lib.hid q1
      have Q2 := Lib.hid q2
      have E2 := Lib.hid e2
      have E3 := Lib.hid e3
      have hkk : k * 109 ≤ 109000 := by omega
      rw [hs]
      simp only [List.length_append, List.length_cons, List.length_nil] at hle
      have hd : (⟨#[32]⟩ : ByteArray) = ⟨([32] : List UInt8).toArray⟩ := rfl
      have hn : (⟨#[10]⟩ : ByteArray) = ⟨([10] : List UInt8).toArray⟩ := rfl
      have hcat := ba_cat
      have hsz := ba_size
      have hxb : x.length ≤ 109000 := by omega
      have hko : (k + 1) * 109 = k * 109 + 109 := by omega
      have HXL := Lib.hid hxl
      clear q1 q2 e1 e2 e3 el ht hz hs ho hro hx hxl hkk
      go_wp2_with (first | (go_at_call 79; (with_reducible refine (Q1.out _).mono ?_); rintro e w1 ⟨rfl, rfl⟩))
      (first | (with_reducible refine wp_region_tail2 11 (by kernel_rfl) (by kernel_rfl) ?_) | refine wp_region_tail 11 (by kernel_rfl) (by kernel_rfl) ?_)
      simp only [List.take_succ_cons, List.take_zero, List.drop_succ_cons, List.drop_zero]
      (repeat (go_big_quiet_step (first | (go_at_call 80; exact Calls.kept_of (Q2.out _ (by (repeat (first | exact Kept.refl _ | assumption | refine Kept.alloc ?_ _ | refine Kept.ext ?_ _ | refine Kept.drew ?_ | refine Kept.drewN ?_ _))))))))
      refine wpQuiet_nil ?_
      intro x'
      go_wp2_with fail
      go_roundw
      case rel => exact ⟨k + 1, hlt, by go_num, show Kept _ _ by (repeat (first | exact Kept.refl _ | assumption | refine Kept.alloc ?_ _ | refine Kept.ext ?_ _ | refine Kept.drew ?_ | refine Kept.drewN ?_ _)), ⟨_, rfl, by rw [E3.out], by have := HXL.out; simp; omega⟩, by rw [E2.out]⟩
      case measure => simp [intOf]; omega
    · have ek : k = l.length := by omega
      have eR : x = R := by rw [← HR.out, hx, ek, List.take_length]
      subst eR
      clear hx hxl
      go_wp2_with fail
      go_ret
      exact ⟨rfl, by (repeat (first | exact Kept.refl _ | assumption | refine Kept.alloc ?_ _ | refine Kept.ext ?_ _ | refine Kept.drew ?_ | refine Kept.drewN ?_ _))⟩
end Go.Proofs.YtnbjealpcjfllaaGreatDoor
