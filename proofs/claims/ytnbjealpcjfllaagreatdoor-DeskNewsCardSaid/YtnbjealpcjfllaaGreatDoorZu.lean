/- Contracts: what a nil desk answers. No conditions. Contract: a notebook of no orders, written by the program. Conditions: none. Contracts: what a new desk answers: its notebook. Conditions: the desk lies in memory, its lock is free. Contract: the audit of a new desk, of the program. Conditions: the desk lies in memory, its lock is free, the library's variables hold what start-up lays. Contracts: Begin and failed of the statements of layer 9. No conditions but those of each theorem. Contracts: what a new desk answers: its shapes. Conditions: the desk lies in memory, its lock is free. Contract: a new desk is equal to the reference's new desk. Conditions: both lie in memory. -/
import Derived.Test.YtnbjealpcjfllaaGreatDoorZb
import Derived.Test.YtnbjealpcjfllaaGreatDoorShelf
import Derived.Lib.Builder
import Derived.Test.YtnbjealpcjfllaaGreatDoorDe
import Derived.Test.YtnbjealpcjfllaaGreatDoorZm
import Derived.Test.YtnbjealpcjfllaaGreatDoorZo
import Derived.Test.YtnbjealpcjfllaaGreatDoorJd
namespace Go.Proofs.YtnbjealpcjfllaaGreatDoor
set_option linter.unusedVariables false
set_option linter.unusedSimpArgs false
open Go.ChangeShapes Go.WideShapes Go.ChangeAt Go.RowKit Go.Deep
set_option maxRecDepth 100000 in
set_option maxHeartbeats 4000000 in
theorem nil_do (s : ByteArray) (w : World) :
    Calls Tryz.prog 12 #[.pointer none, .string s] w fun e w' => e = .returned (.int .i64 1) ∧ Kept w w' := by
  go_enter Tryz.func12, Tryz.ntmps12
  go_wp2_with fail
  go_ret
  exact ⟨rfl, by (repeat (first | exact Kept.refl _ | assumption | refine Kept.alloc ?_ _ | refine Kept.ext ?_ _ | refine Kept.drew ?_ | refine Kept.drewN ?_ _))⟩
set_option maxRecDepth 100000 in
set_option maxHeartbeats 4000000 in
theorem nil_shapes (w : World) :
    Calls Tryz.prog 15 #[.pointer none] w fun e w' => e = .returned (.slice none 0 0) ∧ Kept w w' := by
  go_enter Tryz.func15, Tryz.ntmps15
  go_wp2_with fail
  go_ret
  exact ⟨rfl, by (repeat (first | exact Kept.refl _ | assumption | refine Kept.alloc ?_ _ | refine Kept.ext ?_ _ | refine Kept.drew ?_ | refine Kept.drewN ?_ _))⟩
set_option maxRecDepth 100000 in
set_option maxHeartbeats 4000000 in
theorem nil_book (w : World) :
    Calls Tryz.prog 13 #[.pointer none] w fun e w' => e = .returned (.string ⟨#[]⟩) ∧ Kept w w' := by
  go_enter Tryz.func13, Tryz.ntmps13
  go_wp2_with fail
  go_ret
  exact ⟨rfl, by (repeat (first | exact Kept.refl _ | assumption | refine Kept.alloc ?_ _ | refine Kept.ext ?_ _ | refine Kept.drew ?_ | refine Kept.drewN ?_ _))⟩
set_option maxRecDepth 100000 in
set_option maxHeartbeats 4000000 in
theorem nil_audit (w : World) :
    Calls Tryz.prog 19 #[.pointer none] w fun e w' => e = .returned (.bool false) ∧ Kept w w' := by
  go_enter Tryz.func19, Tryz.ntmps19
  go_wp2_with fail
  go_ret
  exact ⟨rfl, by (repeat (first | exact Kept.refl _ | assumption | refine Kept.alloc ?_ _ | refine Kept.ext ?_ _ | refine Kept.drew ?_ | refine Kept.drewN ?_ _))⟩
set_option maxRecDepth 100000 in
set_option maxHeartbeats 4000000 in
theorem nil_number (f : Value) (w : World) :
    Calls Tryz.prog 38 #[.pointer none, f] w fun e w' => e = .returned (.int .i64 0) ∧ Kept w w' := by
  go_enter Tryz.func38, Tryz.ntmps38
  go_wp2_with fail
  go_ret
  exact ⟨rfl, by (repeat (first | exact Kept.refl _ | assumption | refine Kept.alloc ?_ _ | refine Kept.ext ?_ _ | refine Kept.drew ?_ | refine Kept.drewN ?_ _))⟩
set_option maxRecDepth 100000 in
set_option maxHeartbeats 4000000 in
theorem nil_day (w : World) :
    Calls Tryz.prog 16 #[.pointer none] w fun e w' => e = .returned (.int .i64 0) ∧ Kept w w' := by
  go_enter Tryz.func16, Tryz.ntmps16
  go_wp2_with fail
  refine (nil_number _ _).mono ?_
  rintro e w1 ⟨rfl, y1, rfl⟩
  go_wp2_with fail
  go_ret
  exact ⟨rfl, by (repeat (first | exact Kept.refl _ | assumption | refine Kept.alloc ?_ _ | refine Kept.ext ?_ _ | refine Kept.drew ?_ | refine Kept.drewN ?_ _))⟩
set_option maxRecDepth 100000 in
set_option maxHeartbeats 4000000 in
theorem nil_left (w : World) :
    Calls Tryz.prog 17 #[.pointer none] w fun e w' => e = .returned (.int .i64 0) ∧ Kept w w' := by
  go_enter Tryz.func17, Tryz.ntmps17
  go_wp2_with fail
  refine (nil_number _ _).mono ?_
  rintro e w1 ⟨rfl, y1, rfl⟩
  go_wp2_with fail
  go_ret
  exact ⟨rfl, by (repeat (first | exact Kept.refl _ | assumption | refine Kept.alloc ?_ _ | refine Kept.ext ?_ _ | refine Kept.drew ?_ | refine Kept.drewN ?_ _))⟩
set_option maxRecDepth 100000 in
set_option maxHeartbeats 4000000 in
theorem nil_spent (w : World) :
    Calls Tryz.prog 18 #[.pointer none] w fun e w' => e = .returned (.int .i64 0) ∧ Kept w w' := by
  go_enter Tryz.func18, Tryz.ntmps18
  go_wp2_with fail
  refine (nil_number _ _).mono ?_
  rintro e w1 ⟨rfl, y1, rfl⟩
  go_wp2_with fail
  go_ret
  exact ⟨rfl, by (repeat (first | exact Kept.refl _ | assumption | refine Kept.alloc ?_ _ | refine Kept.ext ?_ _ | refine Kept.drew ?_ | refine Kept.drewN ?_ _))⟩
set_option maxRecDepth 100000 in
set_option maxHeartbeats 4000000 in
theorem nil_shape (s : ByteArray) (w : World) :
    Calls Tryz.prog 14 #[.pointer none, .string s] w fun e w' => e = .returned (.tuple #[.agg #[.string ⟨#[]⟩, .slice none 0 0, .slice none 0 0, .int .i64 0, .int .i64 0, .slice none 0 0], .int .i64 1]) ∧ Kept w w' := by
  go_enter Tryz.func14, Tryz.ntmps14
  go_wp2_with fail
  refine bodyPost_ret (by simp only [results, Tryz.results14]; go_simp; rfl) rfl ?_
  exact ⟨rfl, by (repeat (first | exact Kept.refl _ | assumption | refine Kept.alloc ?_ _ | refine Kept.ext ?_ _ | refine Kept.drew ?_ | refine Kept.drewN ?_ _))⟩
end Go.Proofs.YtnbjealpcjfllaaGreatDoor

namespace Go.Proofs.YtnbjealpcjfllaaGreatDoor
set_option linter.unusedVariables false
set_option linter.unusedSimpArgs false
open Go.ChangeShapes Go.WideShapes Go.ChangeAt Go.RowKit Go.Deep Go.MuLone
theorem isB_kept {T e : TypeId} {B b : Nat} {bs : List Value} {w w' : World} (h : Lib.IsBuilder T e B b bs w) (hk : Kept w w') : Lib.IsBuilder T e B b bs w' := by
  have go : ∀ p, Lib.BuilderAt T e B b p bs w → Lib.BuilderAt T e B b p bs w' := fun p hp => by
    obtain ⟨h1, v, h2, h3, h4⟩ := hp
    exact ⟨h1, v, fr_kept h2 hk, owns_kept h3 hk, h4⟩
  rcases h with h | h
  · exact .inl (go _ h)
  · exact .inr (go _ h)
set_option maxRecDepth 100000 in
set_option maxHeartbeats 4000000 in
theorem write_new (w : World) :
    Calls Tryz.prog 34 #[.slice none 0 0] w fun e w' => e = .returned (.string ⟨#[]⟩) ∧ Kept w w' := by
  go_enter Tryz.func34, Tryz.ntmps34
  go_wp2_with fail
  go_loopw [4, 9] (fun b i wr => i = .int .i64 0 ∧ Kept (w.alloc (.cells #[.pointer none, .slice none 0 0] 129)) wr) (fun _ i _ => (intOf i).toNat)
  case atStart => exact ⟨rfl, show Kept _ _ by (repeat (first | exact Kept.refl _ | assumption | refine Kept.alloc ?_ _ | refine Kept.ext ?_ _ | refine Kept.drew ?_ | refine Kept.drewN ?_ _))⟩
  case round =>
    obtain ⟨rfl, hk⟩ := hrel
    have HK := Lib.hid hk
    clear hk
    have hz : w.heap.size ≤ wr.heap.size := Nat.le_trans (by rw [World.size_alloc]; omega) (kept_size HK.out)
    have hs : ∀ w', Kept wr w' → _ := fun w' hk' => Tryz.Builder_String_empty w.heap.size w.heap.size w' (isB_kept (isB_kept (Lib.fresh_isBuilder 129 5 w) HK.out) hk') (Nat.le_trans hz (kept_size hk'))
    have HS := Lib.hid hs
    clear hs hz
    go_wp2_with (first | (go_at_call 64; refine (HS.out _ (by (repeat (first | exact Kept.refl _ | assumption | refine Kept.alloc ?_ _ | refine Kept.ext ?_ _ | refine Kept.drew ?_ | refine Kept.drewN ?_ _)))).mono ?_; rintro e w2 ⟨rfl, hb⟩; have HB := Lib.hid hb; clear hb))
    go_ret
    exact ⟨rfl, Kept.of_below (((show Kept w wr from (show Kept w _ by (repeat (first | exact Kept.refl _ | assumption | refine Kept.alloc ?_ _ | refine Kept.ext ?_ _ | refine Kept.drew ?_ | refine Kept.drewN ?_ _))).trans HK.out).below).trans HB.out)⟩
end Go.Proofs.YtnbjealpcjfllaaGreatDoor

namespace Go.Proofs.YtnbjealpcjfllaaGreatDoor
set_option linter.unusedVariables false
set_option linter.unusedSimpArgs false
open Go.ChangeShapes Go.WideShapes Go.ChangeAt Go.RowKit Go.Deep Go.MuLone
set_option maxRecDepth 100000 in
set_option maxHeartbeats 4000000 in
theorem book_new (db : Nat) (sv : Value) (day left spent budget : Int) (w : World) (h : w.heap[db]? = some (deskC 0 sv day left spent budget (.slice none 0 0))) :
    Calls Tryz.prog 13 #[.pointer (some ⟨db, 0, none⟩)] w fun e w' => e = .returned (.string ⟨#[]⟩) ∧ Kept w w' := by
  have e1 := desk_put h 1
  have hb := (Array.getElem?_eq_some_iff.1 h).1
  have hq := fun w' => write_new w'
  have h0 : w.cell? ⟨db, 0, none⟩ = some (.int .i32 0) := desk_cell h rfl
  have f0 : w.frozen? ⟨db, 0, none⟩ = false := desk_free h
  have g7 : (w.setCell ⟨db, 0, none⟩ (.int .i32 1)).cell? ⟨db, 7, none⟩ = some (.slice none 0 0) := desk_cell e1 rfl
  have HQ := Lib.hid hq
  have H := Lib.hid h
  have HB := Lib.hid hb
  have E1 := Lib.hid e1
  clear hq e1 h
  go_enter_defers Tryz.func13, Tryz.ntmps13
  go_wp2_with (first | (go_at_call 30; refine (lock_free muLib ⟨db, 0, none⟩ _ h0 f0).mono ?_; rintro e w' ⟨rfl, rfl⟩) | (go_at_call 34; refine (HQ.out _).mono ?_; rintro e w1 ⟨rfl, y1, rfl⟩))
  have e2 : (ext (w.setCell ⟨db, 0, none⟩ (.int .i32 1)) y1).heap[db]? = some (deskC 1 sv day left spent budget (.slice none 0 0)) := by rw [ext_block _ _ _ (by simpa using HB.out)]; exact E1.out
  refine leaves_cons (f := 31) (args := #[.pointer (some ⟨db, 0, none⟩)]) (by simp) (by simp [go_sem]) ?_
  refine (unlock_deferred muLib ⟨db, 0, none⟩ .returning _ (desk_cell e2 rfl) (desk_free e2)).mono ?_
  rintro e u' w'' ⟨rfl, rfl, rfl⟩
  exact ⟨_, results_tmp rfl _ _ _, rfl, lock_off H.out (by (repeat (first | exact Kept.refl _ | assumption | refine Kept.alloc ?_ _ | refine Kept.ext ?_ _ | refine Kept.drew ?_ | refine Kept.drewN ?_ _)))⟩
theorem blk_kept {w w' : World} {b : Nat} {o : Obj} (h : w.heap[b]? = some o) (hk : Kept w w') : w'.heap[b]? = some o := by
  obtain ⟨x, rfl⟩ := hk
  rw [ext_block _ _ _ (Array.getElem?_eq_some_iff.1 h).1]
  exact h
set_option maxRecDepth 100000 in
set_option maxHeartbeats 4000000 in
theorem replay_new (n : Int) (w : World) (hn : 0 ≤ n ∧ n ≤ 10000000) (h : Ld w) :
    Calls Tryz.prog 25 #[.int .i64 n, .string ⟨#[]⟩] w fun e w' => ∃ b, e = .returned (.tuple #[.pointer (some ⟨b, 0, none⟩), .int .i64 0, .int .i64 0]) ∧ Kept w w' ∧ w.heap.size ≤ b ∧ w'.heap[b]? = some (deskC 0 (.slice none 0 0) 0 n 0 n (.slice none 0 0)) := by
  have q0 : ∀ w', _ := fun w' => dnew_ok n w' hn
  have q1 : ∀ w', Kept w w' → Calls Tryz.prog 24 #[.string ⟨#[]⟩] w' (fun e w'' => ∃ A cp, e = .returned (.tuple #[.slice A 0 cp, .string ⟨#[]⟩]) ∧ Kept w' w'') := fun w' hk => (dread_any [] w' (by simp) (h.on hk)).mono fun e w'' ⟨v, h1, h2, h3⟩ => by
    obtain ⟨A, cp, rfl⟩ := own_slice2 h3
    exact ⟨A, cp, h1, h2⟩
  have Q0 := Lib.hid q0
  have Q1 := Lib.hid q1
  clear q0 q1 h hn
  go_enter Tryz.func25, Tryz.ntmps25
  go_wp2_with (first | (go_at_call 23; refine (Q0.out _).mono ?_; rintro e w1 ⟨rfl, rfl⟩) | (go_at_call 24; (with_reducible refine (Q1.out _ (by (repeat (first | exact Kept.refl _ | assumption | refine Kept.alloc ?_ _ | refine Kept.ext ?_ _ | refine Kept.drew ?_ | refine Kept.drewN ?_ _)))).mono ?_); rintro e w2 ⟨A, cp, rfl, ⟨y1, rfl⟩⟩))
  go_loopw [31] (fun i wr => i = .int .i64 0 ∧ Kept (w.alloc (deskC 0 (.slice none 0 0) 0 n 0 n (.slice none 0 0))) wr) (fun i _ => (intOf i).toNat)
  case atStart => exact ⟨rfl, show Kept _ _ by (repeat (first | exact Kept.refl _ | assumption | refine Kept.alloc ?_ _ | refine Kept.ext ?_ _ | refine Kept.drew ?_ | refine Kept.drewN ?_ _))⟩
  case round =>
    obtain ⟨rfl, hk⟩ := hrel
    have HK := Lib.hid hk
    clear hk
    go_wp2_with fail
    refine bodyPost_ret (by simp only [results, Tryz.results25]; go_simp; rfl) rfl ?_
    exact ⟨_, rfl, (show Kept w _ by (repeat (first | exact Kept.refl _ | assumption | refine Kept.alloc ?_ _ | refine Kept.ext ?_ _ | refine Kept.drew ?_ | refine Kept.drewN ?_ _))).trans HK.out, Nat.le_refl _, blk_kept (heap_alloc_new w _) HK.out⟩
set_option maxRecDepth 100000 in
set_option maxHeartbeats 4000000 in
theorem eqf_new (f : Value) (w : World) :
    Calls Tryz.prog 44 #[.slice none 0 0, .slice none 0 0, f] w fun e w' => e = .returned (.bool true) ∧ Kept w w' := by
  go_enter Tryz.func44, Tryz.ntmps44
  go_wp2_with fail
  go_loopw [17] (fun i wr => i = .int .i64 0 ∧ ∃ y, wr = ext w y) (fun i _ => (intOf i).toNat)
  case atStart => exact ⟨rfl, show Kept _ _ by (repeat (first | exact Kept.refl _ | assumption | refine Kept.alloc ?_ _ | refine Kept.ext ?_ _ | refine Kept.drew ?_ | refine Kept.drewN ?_ _))⟩
  case round =>
    obtain ⟨rfl, ⟨y, rfl⟩⟩ := hrel
    go_wp2_with fail
    go_ret
    exact ⟨rfl, by (repeat (first | exact Kept.refl _ | assumption | refine Kept.alloc ?_ _ | refine Kept.ext ?_ _ | refine Kept.drew ?_ | refine Kept.drewN ?_ _))⟩
end Go.Proofs.YtnbjealpcjfllaaGreatDoor

namespace Go.Proofs.YtnbjealpcjfllaaGreatDoor
set_option linter.unusedVariables false
set_option linter.unusedSimpArgs false
open Go.ChangeShapes Go.WideShapes Go.ChangeAt Go.RowKit Go.Deep Go.MuLone
/-- What Replay of an empty book has made, told at any time. -/
def RpT (W0 : World) (n : Int) (k : Nat) (w : World) : Prop := W0.heap.size ≤ k ∧ w.heap[k]? = some (deskC 0 (.slice none 0 0) 0 n 0 n (.slice none 0 0))
def rpV (k : Nat) : Value := .tuple #[.pointer (some ⟨k, 0, none⟩), .int .i64 0, .int .i64 0]
structure AuI (W0 W : World) (n : Int) (L : Nat → Bool) (b : Nat → Value) (w' : World) : Prop where
  kept : Kept W w'
  a9 : L 9 = true → ∃ k, b 9 = rpV k ∧ RpT W0 n k w'
  a10 : L 10 = true → L 9 = true ∧ b 10 = b 9
  a11 : L 11 = true → L 9 = true ∧ ∀ k, b 9 = rpV k → b 11 = .pointer (some ⟨k, 0, none⟩)
  a12 : L 12 = true → b 12 = .int .i64 0
  a13 : L 13 = true → b 13 = .int .i64 0
  a14 : L 14 = true → L 9 = true ∧ ∀ k, b 9 = rpV k → b 14 = .pointer (some ⟨k, 0, none⟩)
  a15 : L 15 = true → b 15 = .int .i64 0
  a16 : L 16 = true → b 16 = .int .i64 0
theorem AuI.start {W0 W w : World} {n : Int} {b : Nat → Value} (h : Kept W w) : AuI W0 W n (fun _ => false) b w :=
  ⟨h, nofun, nofun, nofun, nofun, nofun, nofun, nofun, nofun⟩
theorem RpT.on {W0 : World} {n : Int} {k : Nat} {w w' : World} (h : RpT W0 n k w) (hk : Kept w w') : RpT W0 n k w' := ⟨h.1, blk_kept h.2 hk⟩
theorem AuI.other {W0 W w' w'' : World} {n : Int} {L : Nat → Bool} {b : Nat → Value} {i : Nat} (h : AuI W0 W n L b w') (hk : Kept w' w'') (h9 : i ≠ 9) (h10 : i ≠ 10) (h11 : i ≠ 11) (h12 : i ≠ 12) (h13 : i ≠ 13) (h14 : i ≠ 14) (h15 : i ≠ 15) (h16 : i ≠ 16) : AuI W0 W n (doneAt L i) b w'' := by
  have d : ∀ p, i ≠ p → doneAt L i p = L p := fun p hp => if_neg (Ne.symm hp)
  refine ⟨h.kept.trans hk, ?_, ?_, ?_, ?_, ?_, ?_, ?_, ?_⟩
  · rw [d 9 h9]
    exact fun q => by
      obtain ⟨k, e, t⟩ := h.a9 q
      exact ⟨k, e, t.on hk⟩
  · rw [d 10 h10, d 9 h9]; exact h.a10
  · rw [d 11 h11, d 9 h9]; exact h.a11
  · rw [d 12 h12]; exact h.a12
  · rw [d 13 h13]; exact h.a13
  · rw [d 14 h14, d 9 h9]; exact h.a14
  · rw [d 15 h15]; exact h.a15
  · rw [d 16 h16]; exact h.a16
theorem AuI.op9 {W0 W w' w'' : World} {n : Int} {L : Nat → Bool} {b : Nat → Value} {k : Nat} (h : AuI W0 W n L b w') (hk : Kept w' w'') (h9 : L 9 = false) (ht : RpT W0 n k w'') : AuI W0 W n (doneAt L 9) (tellAt b 9 (rpV k)) w'' := by
  have n10 : L 10 = false := by
    cases q : L 10
    · rfl
    · have := (h.a10 q).1
      rw [h9] at this
      cases this
  have n11 : L 11 = false := by
    cases q : L 11
    · rfl
    · have := (h.a11 q).1
      rw [h9] at this
      cases this
  have n14 : L 14 = false := by
    cases q : L 14
    · rfl
    · have := (h.a14 q).1
      rw [h9] at this
      cases this
  refine ⟨h.kept.trans hk, ?_, ?_, ?_, ?_, ?_, ?_, ?_, ?_⟩
  · intro _
    exact ⟨k, by simp [tellAt], ht⟩
  · simp [doneAt, n10]
  · simp [doneAt, n11]
  · simpa [doneAt, tellAt] using h.a12
  · simpa [doneAt, tellAt] using h.a13
  · simp [doneAt, n14]
  · simpa [doneAt, tellAt] using h.a15
  · simpa [doneAt, tellAt] using h.a16
theorem AuI.op10 {W0 W w' : World} {n : Int} {L : Nat → Bool} {b : Nat → Value} (h : AuI W0 W n L b w') (h9 : L 9 = true) : AuI W0 W n (doneAt L 10) (tellAt b 10 (b 9)) w' := by
  refine ⟨h.kept, ?_, ?_, ?_, ?_, ?_, ?_, ?_, ?_⟩
  · simpa [doneAt, tellAt] using h.a9
  · simp [doneAt, tellAt, h9]
  · simpa [doneAt, tellAt] using h.a11
  · simpa [doneAt, tellAt] using h.a12
  · simpa [doneAt, tellAt] using h.a13
  · simpa [doneAt, tellAt] using h.a14
  · simpa [doneAt, tellAt] using h.a15
  · simpa [doneAt, tellAt] using h.a16
theorem rpV_inj {j k : Nat} (h : rpV j = rpV k) : j = k := by
  unfold rpV at h
  simpa using h
theorem AuI.op11 {W0 W w' : World} {n : Int} {L : Nat → Bool} {b : Nat → Value} {k : Nat} (h : AuI W0 W n L b w') (h9 : L 9 = true) (hb : b 9 = rpV k) : AuI W0 W n (doneAt L 11) (tellAt b 11 (.pointer (some ⟨k, 0, none⟩))) w' := by
  refine ⟨h.kept, ?_, ?_, ?_, ?_, ?_, ?_, ?_, ?_⟩
  · simpa [doneAt, tellAt] using h.a9
  · simpa [doneAt, tellAt] using h.a10
  · intro _
    refine ⟨by simp [doneAt, h9], fun j hj => ?_⟩
    have hj : b 9 = rpV j := by simpa [tellAt] using hj
    rw [hb] at hj
    rw [rpV_inj hj]
    simp [tellAt]
  · simpa [doneAt, tellAt] using h.a12
  · simpa [doneAt, tellAt] using h.a13
  · simpa [doneAt, tellAt] using h.a14
  · simpa [doneAt, tellAt] using h.a15
  · simpa [doneAt, tellAt] using h.a16
theorem AuI.op14 {W0 W w' : World} {n : Int} {L : Nat → Bool} {b : Nat → Value} {k : Nat} (h : AuI W0 W n L b w') (h9 : L 9 = true) (hb : b 9 = rpV k) : AuI W0 W n (doneAt L 14) (tellAt b 14 (.pointer (some ⟨k, 0, none⟩))) w' := by
  refine ⟨h.kept, ?_, ?_, ?_, ?_, ?_, ?_, ?_, ?_⟩
  · simpa [doneAt, tellAt] using h.a9
  · simpa [doneAt, tellAt] using h.a10
  · simpa [doneAt, tellAt] using h.a11
  · simpa [doneAt, tellAt] using h.a12
  · simpa [doneAt, tellAt] using h.a13
  · intro _
    refine ⟨by simp [doneAt, h9], fun j hj => ?_⟩
    have hj : b 9 = rpV j := by simpa [tellAt] using hj
    rw [hb] at hj
    rw [rpV_inj hj]
    simp [tellAt]
  · simpa [doneAt, tellAt] using h.a15
  · simpa [doneAt, tellAt] using h.a16
theorem AuI.opZ {W0 W w' : World} {n : Int} {L : Nat → Bool} {b : Nat → Value} {i : Nat} (h : AuI W0 W n L b w') (hi : i = 12 ∨ i = 13 ∨ i = 15 ∨ i = 16) : AuI W0 W n (doneAt L i) (tellAt b i (.int .i64 0)) w' := by
  refine ⟨h.kept, ?_, ?_, ?_, ?_, ?_, ?_, ?_, ?_⟩
  · rcases hi with rfl | rfl | rfl | rfl <;> simpa [doneAt, tellAt] using h.a9
  · rcases hi with rfl | rfl | rfl | rfl <;> simpa [doneAt, tellAt] using h.a10
  · rcases hi with rfl | rfl | rfl | rfl <;> simpa [doneAt, tellAt] using h.a11
  · rcases hi with rfl | rfl | rfl | rfl <;> first | (simp [doneAt, tellAt]; done) | simpa [doneAt, tellAt] using h.a12
  · rcases hi with rfl | rfl | rfl | rfl <;> first | (simp [doneAt, tellAt]; done) | simpa [doneAt, tellAt] using h.a13
  · rcases hi with rfl | rfl | rfl | rfl <;> simpa [doneAt, tellAt] using h.a14
  · rcases hi with rfl | rfl | rfl | rfl <;> first | (simp [doneAt, tellAt]; done) | simpa [doneAt, tellAt] using h.a15
  · rcases hi with rfl | rfl | rfl | rfl <;> first | (simp [doneAt, tellAt]; done) | simpa [doneAt, tellAt] using h.a16
set_option maxRecDepth 100000 in
set_option maxHeartbeats 8000000 in
theorem audit_new (db : Nat) (n : Int) (w : World) (hn : 0 ≤ n ∧ n ≤ 10000000) (hL : Ld w) (h9 : 9 ≤ db) (h : w.heap[db]? = some (deskC 0 (.slice none 0 0) 0 n 0 n (.slice none 0 0))) :
    Calls Tryz.prog 19 #[.pointer (some ⟨db, 0, none⟩)] w fun e w' => e = .returned (.bool true) ∧ Kept w w' := by
  have e1 := desk_put h 1
  have hb := (Array.getElem?_eq_some_iff.1 h).1
  have hL1 : Ld (w.setCell ⟨db, 0, none⟩ (.int .i32 1)) := hL.kb (S := fun q => q = db) ((KB.refl (fun q => q = db) w).setCell (p := ⟨db, 0, none⟩) (fun _ => rfl) _) (fun q e => by rw [e]; exact h9)
  have q0 := fun w' => write_new w'
  have q1 : ∀ w', Kept (w.setCell ⟨db, 0, none⟩ (.int .i32 1)) w' → _ := fun w' hk => replay_new n w' hn (hL1.on hk)
  have q2 := fun f w' => eqf_new f w'
  have h0 : w.cell? ⟨db, 0, none⟩ = some (.int .i32 0) := desk_cell h rfl
  have f0 : w.frozen? ⟨db, 0, none⟩ = false := desk_free h
  have g2 : (w.setCell ⟨db, 0, none⟩ (.int .i32 1)).cell? ⟨db, 2, none⟩ = some (.slice none 0 0) := desk_cell e1 rfl
  have g6 : (w.setCell ⟨db, 0, none⟩ (.int .i32 1)).cell? ⟨db, 6, none⟩ = some (.int .i64 n) := desk_cell e1 rfl
  have g7 : (w.setCell ⟨db, 0, none⟩ (.int .i32 1)).cell? ⟨db, 7, none⟩ = some (.slice none 0 0) := desk_cell e1 rfl
  have h6 : w.cell? ⟨db, 6, none⟩ = some (.int .i64 n) := desk_cell h rfl
  have h7 : w.cell? ⟨db, 7, none⟩ = some (.slice none 0 0) := desk_cell h rfl
  have LB0 : Lower db w.heap.size := ⟨hb⟩
  have LB : Lower db (w.setCell ⟨db, 0, none⟩ (.int .i32 1)).heap.size := ⟨by simpa using hb⟩
  have H := Lib.hid h
  have E1 := Lib.hid e1
  have Q0 := Lib.hid q0
  have Q1 := Lib.hid q1
  have Q2 := Lib.hid q2
  clear q0 q1 q2 e1 h hL hL1 h9 hn hb
  go_enter_defers Tryz.func19, Tryz.ntmps19
  go_wp2_with (first | (go_at_call 30; refine (lock_free muLib ⟨db, 0, none⟩ _ h0 f0).mono ?_; rintro e w' ⟨rfl, rfl⟩))
  go_loopw [24] (fun i wr => i = .int .i64 0 ∧ ∃ y, wr = ext (w.setCell ⟨db, 0, none⟩ (.int .i32 1)) y) (fun i _ => (intOf i).toNat)
  case atStart => exact ⟨rfl, show Kept _ _ by (repeat (first | exact Kept.refl _ | assumption | refine Kept.alloc ?_ _ | refine Kept.ext ?_ _ | refine Kept.drew ?_ | refine Kept.drewN ?_ _))⟩
  case round =>
    obtain ⟨rfl, ⟨y, rfl⟩⟩ := hrel
    go_wp2_with fail
    refine wp_region_tell (w := ext (w.setCell ⟨db, 0, none⟩ (.int .i32 1)) y) [.q, .q, .q, .q, .q, .q, .q, .q, .q, .s, .s, .s, .s, .s, .s, .s, .s] (AuI (w.setCell ⟨db, 0, none⟩ (.int .i32 1)) (ext (w.setCell ⟨db, 0, none⟩ (.int .i32 1)) y) n) (by kernel_rfl) (by kernel_rfl) (fun b => by kernel_rfl) ?_ ?_ ?_ ?_
    · exact fun b => AuI.start ((Kept.refl _).drew)
    · intro i L b w' w'' hs hI hk
      refine hI.other hk ?_ ?_ ?_ ?_ ?_ ?_ ?_ ?_
      all_goals
        rintro rfl
        cases hs
    · exact fun _ _ _ h => h.kept
    apply Exists.intro
    refine ⟨?_, ?_, ?_, ?_⟩
    · rintro b W ⟨x, rfl⟩
      simp only [swapL, Nat.reduceAdd]
      repeat (go_big_quiet_step (first | (go_at_call 34; exact Calls.kept_of (Q0.out _))))
      refine wpQuiet_nil ?_
      rfl
    · simp only [EachS, and_true]
      refine ⟨?_, ?_, ?_, ?_, ?_, ?_, ?_, ?_⟩
      · intro S b w' hd hL hI
        have hq := Q1.out w' ((show Kept _ (ext _ y) from ⟨y, rfl⟩).trans hI.kept)
        go_simp
        exact hq.mono fun e w'' ⟨k, e1, hk, hlt, h2⟩ => ⟨rpV k, e1, rfl, hI.op9 hk hL ⟨Nat.le_trans (kept_le ((show Kept _ (ext _ y) from ⟨y, rfl⟩).trans hI.kept)) hlt, h2⟩⟩
      · intro S b w' hd hL hI
        have d := hd { on := 9, ground := .data } (by simp) rfl
        have h8 := hI.op10 d
        go_simp
        exact ⟨rfl, h8⟩
      · intro S b w' hd hL hI
        have d10 := hd { on := 10, ground := .data } (by simp) rfl
        obtain ⟨d, e10⟩ := hI.a10 d10
        obtain ⟨k, e, t⟩ := hI.a9 d
        have h8 := hI.op11 d e
        rw [e] at e10
        unfold rpV at e10
        go_simp
        exact ⟨rfl, h8⟩
      · intro S b w' hd hL hI
        have d10 := hd { on := 10, ground := .data } (by simp) rfl
        obtain ⟨d, e10⟩ := hI.a10 d10
        obtain ⟨k, e, t⟩ := hI.a9 d
        have h8 := hI.opZ (i := 12) (by omega)
        rw [e] at e10
        unfold rpV at e10
        go_simp
        exact ⟨rfl, h8⟩
      · intro S b w' hd hL hI
        have d10 := hd { on := 10, ground := .data } (by simp) rfl
        obtain ⟨d, e10⟩ := hI.a10 d10
        obtain ⟨k, e, t⟩ := hI.a9 d
        have h8 := hI.opZ (i := 13) (by omega)
        rw [e] at e10
        unfold rpV at e10
        go_simp
        exact ⟨rfl, h8⟩
      · intro S b w' hd hL hI
        have d11 := hd { on := 11, ground := .data } (by simp) rfl
        obtain ⟨d, e11⟩ := hI.a11 d11
        obtain ⟨k, e, t⟩ := hI.a9 d
        have h8 := hI.op14 d e
        have e11 := e11 k e
        go_simp
        exact ⟨rfl, h8⟩
      · intro S b w' hd hL hI
        have e12 := hI.a12 (hd { on := 12, ground := .data } (by simp) rfl)
        have h8 := hI.opZ (i := 15) (by omega)
        go_simp
        exact ⟨rfl, h8⟩
      · intro S b w' hd hL hI
        have e13 := hI.a13 (hd { on := 13, ground := .data } (by simp) rfl)
        have h8 := hI.opZ (i := 16) (by omega)
        go_simp
        exact ⟨rfl, h8⟩
    · intro b1 b2 d hd
      simp [callSlots, dullOp] at hd
      rcases hd with rfl | rfl | rfl <;> rfl
    intro L b' w2 hL hI
    obtain ⟨d9, e14⟩ := hI.a14 (hL 14 (by decide))
    obtain ⟨b, e9, h2⟩ := hI.a9 d9
    have e14 := e14 b e9
    have e15 := hI.a15 (hL 15 (by decide))
    have e16 := hI.a16 (hL 16 (by decide))
    have K2 : Kept (w.setCell ⟨db, 0, none⟩ (.int .i32 1)) w2 := (show Kept _ (ext _ y) from ⟨y, rfl⟩).trans hI.kept
    have h2 := h2.2
    simp only [e14, e15, e16]
    clear hI hL e9 e14 e15 e16 d9
    have d2 := blk_kept E1.out K2
    have c2 : w2.cell? ⟨db, 2, none⟩ = some (.slice none 0 0) := desk_cell d2 rfl
    have c3 : w2.cell? ⟨db, 3, none⟩ = some (.int .i64 0) := desk_cell d2 rfl
    have c4 : w2.cell? ⟨db, 4, none⟩ = some (.int .i64 n) := desk_cell d2 rfl
    have c5 : w2.cell? ⟨db, 5, none⟩ = some (.int .i64 0) := desk_cell d2 rfl
    have p2 : w2.cell? ⟨b, 2, none⟩ = some (.slice none 0 0) := desk_cell h2 rfl
    have p3 : w2.cell? ⟨b, 3, none⟩ = some (.int .i64 0) := desk_cell h2 rfl
    have p4 : w2.cell? ⟨b, 4, none⟩ = some (.int .i64 n) := desk_cell h2 rfl
    have p5 : w2.cell? ⟨b, 5, none⟩ = some (.int .i64 0) := desk_cell h2 rfl
    have D2 := Lib.hid d2
    have KK := Lib.hid K2
    clear d2 h2 K2
    have LB2 : Lower db w2.heap.size := ⟨cell_lt c2⟩
    have LB3 : Lower b w2.heap.size := ⟨cell_lt p2⟩
    go_wp2_with fail
    ((first | (with_reducible refine wp_region_kept2 (by kernel_rfl) (by kernel_rfl) ?_) | refine wp_region_kept (by kernel_rfl) (by kernel_rfl) ?_); (repeat (go_big_quiet_step (first | (go_at_call 44; exact Calls.kept_of (Q2.out _ _))))); refine wpQuiet_nil ?_; intro x3)
    go_wp2_with fail
    have e2 := blk_kept D2.out (show Kept w2 (ext w2 x3) by (repeat (first | exact Kept.refl _ | assumption | refine Kept.alloc ?_ _ | refine Kept.ext ?_ _ | refine Kept.drew ?_ | refine Kept.drewN ?_ _)))
    refine leaves_cons (f := 31) (args := #[.pointer (some ⟨db, 0, none⟩)]) (by simp) (by simp [go_sem]) ?_
    refine (unlock_deferred muLib ⟨db, 0, none⟩ .returning _ (desk_cell e2 rfl) (desk_free e2)).mono ?_
    rintro e u' w'' ⟨rfl, rfl, rfl⟩
    exact ⟨_, results_tmp rfl _ _ _, rfl, lock_off H.out (KK.out.trans (by (repeat (first | exact Kept.refl _ | assumption | refine Kept.alloc ?_ _ | refine Kept.ext ?_ _ | refine Kept.drew ?_ | refine Kept.drewN ?_ _))))⟩
end Go.Proofs.YtnbjealpcjfllaaGreatDoor

namespace Go.Proofs.YtnbjealpcjfllaaGreatDoor
set_option linter.unusedVariables false
set_option linter.unusedSimpArgs false
open Go.ChangeShapes Go.WideShapes Go.ChangeAt Go.RowKit Go.Deep Go.MuLone
set_option maxRecDepth 100000 in
set_option maxHeartbeats 4000000 in
theorem begin_ok (n : Int) (w : World) (hn : 0 ≤ n ∧ n ≤ 10000000) :
    Calls Tryz.prog 10 #[.int .i64 n] w fun e w' => e = .returned (.tuple #[.pointer (some ⟨w.heap.size, 0, none⟩), .pointer (some ⟨w.heap.size + 1, 0, none⟩), .bool true]) ∧ w' = (w.alloc (deskC 0 (.slice none 0 0) 0 n 0 n (.slice none 0 0))).alloc (.cells #[.int .i64 n, .int .i64 0, .int .i64 n, .int .i64 0, .slice none 0 0, .slice none 0 0] 72) := by
  have q0 := dnew_ok n w hn
  have q1 := r9new_ok n (w.alloc (deskC 0 (.slice none 0 0) 0 n 0 n (.slice none 0 0))) hn
  rw [World.size_alloc] at q1
  have Q0 := Lib.hid q0
  have Q1 := Lib.hid q1
  clear q0 q1 hn
  go_enter Tryz.func10, Tryz.ntmps10
  go_wp2_with (first | (go_at_call 23; refine Q0.out.mono ?_; rintro e w1 ⟨rfl, rfl⟩) | (go_at_call 11; refine Q1.out.mono ?_; rintro e w2 ⟨rfl, rfl⟩))
  refine bodyPost_ret (by simp only [results, Tryz.results10]; go_simp; rfl) rfl ?_
  exact ⟨rfl, rfl⟩
set_option maxRecDepth 100000 in
set_option maxHeartbeats 4000000 in
theorem begin_no (n : Int) (w : World) (hn : ¬ (0 ≤ n ∧ n ≤ 10000000)) :
    Calls Tryz.prog 10 #[.int .i64 n] w fun e w' => e = .returned (.tuple #[.pointer none, .pointer none, .bool false]) ∧ w' = w := by
  have q0 := dnew_no n w hn
  have q1 := r9new_no n w hn
  have Q0 := Lib.hid q0
  have Q1 := Lib.hid q1
  clear q0 q1 hn
  go_enter Tryz.func10, Tryz.ntmps10
  go_wp2_with (first | (go_at_call 23; refine Q0.out.mono ?_; rintro e w1 ⟨rfl, rfl⟩) | (go_at_call 11; refine Q1.out.mono ?_; rintro e w2 ⟨rfl, rfl⟩))
  refine bodyPost_ret (by simp only [results, Tryz.results10]; go_simp; rfl) rfl ?_
  exact ⟨rfl, rfl⟩
set_option maxRecDepth 100000 in
set_option maxHeartbeats 4000000 in
theorem failed_no (n : Int) (w : World) (hn : ¬ (0 ≤ n ∧ n ≤ 10000000)) (h : Le w ∧ 9 ≤ w.heap.size) :
    Calls Tryz.prog 20 #[.int .i64 n] w fun e w' => e = .returned (.bool true) ∧ Kept w w' := by
  have q0 := dnew_no n w hn
  have q1 := r9new_no n w hn
  have q2 := dsane_any w h.1 h.2
  have Q0 := Lib.hid q0
  have Q1 := Lib.hid q1
  have Q2 := Lib.hid q2
  clear q0 q1 q2 hn h
  go_enter Tryz.func20, Tryz.ntmps20
  go_wp2_with (first | (go_at_call 23; refine Q0.out.mono ?_; rintro e w1 ⟨rfl, rfl⟩) | (go_at_call 11; refine Q1.out.mono ?_; rintro e w2 ⟨rfl, rfl⟩) | (go_at_call 7; refine Q2.out.mono ?_; rintro e w3 ⟨rfl, y3, rfl⟩))
  go_ret
  exact ⟨rfl, by (repeat (first | exact Kept.refl _ | assumption | refine Kept.alloc ?_ _ | refine Kept.ext ?_ _ | refine Kept.drew ?_ | refine Kept.drewN ?_ _))⟩
end Go.Proofs.YtnbjealpcjfllaaGreatDoor

namespace Go.Proofs.YtnbjealpcjfllaaGreatDoor
set_option linter.unusedVariables false
set_option linter.unusedSimpArgs false
open Go.ChangeShapes Go.WideShapes Go.ChangeAt Go.RowKit Go.Deep Go.MuLone
set_option maxRecDepth 100000 in
set_option maxHeartbeats 4000000 in
theorem all_new (db : Nat) (w : World) (h : w.cell? ⟨db, 2, none⟩ = some (.slice none 0 0)) (hb : db < w.heap.size) :
    Calls Tryz.prog 37 #[.pointer (some ⟨db, 0, none⟩)] w fun e w' => e = .returned (.slice none 0 0) ∧ Kept w w' := by
  have LB : Lower db w.heap.size := ⟨hb⟩
  go_enter Tryz.func37, Tryz.ntmps37
  go_wp2_with fail
  go_loopw [3, 11] (fun v i wr => v = .slice none 0 0 ∧ i = .int .i64 0 ∧ ∃ y, wr = ext w y) (fun _ i _ => (intOf i).toNat)
  case atStart => exact ⟨rfl, rfl, show Kept _ _ by (repeat (first | exact Kept.refl _ | assumption | refine Kept.alloc ?_ _ | refine Kept.ext ?_ _ | refine Kept.drew ?_ | refine Kept.drewN ?_ _))⟩
  case round =>
    obtain ⟨rfl, rfl, ⟨y, rfl⟩⟩ := hrel
    go_wp2_with fail
    go_ret
    exact ⟨rfl, by (repeat (first | exact Kept.refl _ | assumption | refine Kept.alloc ?_ _ | refine Kept.ext ?_ _ | refine Kept.drew ?_ | refine Kept.drewN ?_ _))⟩
set_option maxRecDepth 100000 in
set_option maxHeartbeats 4000000 in
theorem shapes_new (db : Nat) (day left spent budget : Int) (ov : Value) (w : World) (h : w.heap[db]? = some (deskC 0 (.slice none 0 0) day left spent budget ov)) :
    Calls Tryz.prog 15 #[.pointer (some ⟨db, 0, none⟩)] w fun e w' => e = .returned (.slice none 0 0) ∧ Kept w w' := by
  have e1 := desk_put h 1
  have hb := (Array.getElem?_eq_some_iff.1 h).1
  have hq := all_new db (w.setCell ⟨db, 0, none⟩ (.int .i32 1)) (desk_cell e1 rfl) (by simpa using hb)
  have h0 : w.cell? ⟨db, 0, none⟩ = some (.int .i32 0) := desk_cell h rfl
  have f0 : w.frozen? ⟨db, 0, none⟩ = false := desk_free h
  have g0 : (w.setCell ⟨db, 0, none⟩ (.int .i32 1)).cell? ⟨db, 0, none⟩ = some (.int .i32 1) := desk_cell e1 rfl
  have g1 : (w.setCell ⟨db, 0, none⟩ (.int .i32 1)).frozen? ⟨db, 0, none⟩ = false := desk_free e1
  have HQ := Lib.hid hq
  have H := Lib.hid h
  have HB := Lib.hid hb
  have E1 := Lib.hid e1
  clear hq e1 h
  go_enter_defers Tryz.func15, Tryz.ntmps15
  go_wp2_with (first | (go_at_call 30; refine (lock_free muLib ⟨db, 0, none⟩ _ h0 f0).mono ?_; rintro e w' ⟨rfl, rfl⟩) | (go_at_call 37; refine HQ.out.mono ?_; rintro e w1 ⟨rfl, y1, rfl⟩))
  have e2 : (ext (w.setCell ⟨db, 0, none⟩ (.int .i32 1)) y1).heap[db]? = some (deskC 1 (.slice none 0 0) day left spent budget ov) := by rw [ext_block _ _ _ (by simpa using HB.out)]; exact E1.out
  refine leaves_cons (f := 31) (args := #[.pointer (some ⟨db, 0, none⟩)]) (by simp) (by simp [go_sem]) ?_
  refine (unlock_deferred muLib ⟨db, 0, none⟩ .returning _ (desk_cell e2 rfl) (desk_free e2)).mono ?_
  rintro e u' w'' ⟨rfl, rfl, rfl⟩
  exact ⟨_, results_tmp rfl _ _ _, rfl, lock_off H.out (by (repeat (first | exact Kept.refl _ | assumption | refine Kept.alloc ?_ _ | refine Kept.ext ?_ _ | refine Kept.drew ?_ | refine Kept.drewN ?_ _)))⟩
end Go.Proofs.YtnbjealpcjfllaaGreatDoor

namespace Go.Proofs.YtnbjealpcjfllaaGreatDoor
set_option linter.unusedVariables false
set_option linter.unusedSimpArgs false
open Go.ChangeShapes Go.WideShapes Go.ChangeAt Go.RowKit Go.Deep Go.MuLone
set_option maxRecDepth 100000 in
set_option maxHeartbeats 4000000 in
theorem equal_new (db rb : Nat) (n : Int) (w : World) (hL : Ld w) (h : w.heap[db]? = some (deskC 0 (.slice none 0 0) 0 n 0 n (.slice none 0 0)))
    (hr : w.heap[rb]? = some (.cells #[.int .i64 n, .int .i64 0, .int .i64 n, .int .i64 0, .slice none 0 0, .slice none 0 0] 72 (0, 0))) :
    Calls Tryz.prog 21 #[.pointer (some ⟨db, 0, none⟩), .pointer (some ⟨rb, 0, none⟩)] w fun e w' => e = .returned (.bool true) ∧ Kept w w' := by
  have q0 : ∀ w', Kept w w' → _ := fun w' hk => shapes_new db 0 n 0 n (.slice none 0 0) w' (blk_kept h hk)
  have q1 : ∀ w', Kept w w' → _ := fun w' hk => dday_any db (.slice none 0 0) 0 n 0 n (.slice none 0 0) w' (blk_kept h hk)
  have q2 : ∀ w', Kept w w' → _ := fun w' hk => dleft_any db (.slice none 0 0) 0 n 0 n (.slice none 0 0) w' (blk_kept h hk)
  have q3 : ∀ w', Kept w w' → _ := fun w' hk => dspent_any db (.slice none 0 0) 0 n 0 n (.slice none 0 0) w' (blk_kept h hk)
  have q4 : ∀ w', Kept w w' → _ := fun w' hk => book_new db (.slice none 0 0) 0 n 0 n w' (blk_kept h hk)
  have q5 : ∀ w', Kept w w' → Calls Tryz.prog 46 #[.slice none 0 0] w' fun e w'' => e = .returned (.string ⟨#[]⟩) ∧ Kept w' w'' := fun w' hk => r9write_any none [] 0 w' (fun q => absurd q (by simp)) (by simp) (fun o q => absurd q (by simp)) (hL.on hk)
  have hb := (Array.getElem?_eq_some_iff.1 hr).1
  have LB : Lower rb w.heap.size := ⟨hb⟩
  have c1 : w.cell? ⟨rb, 1, none⟩ = some (.int .i64 0) := by unfold World.cell?; simp only [hr]; rfl
  have c2 : w.cell? ⟨rb, 2, none⟩ = some (.int .i64 n) := by unfold World.cell?; simp only [hr]; rfl
  have c3 : w.cell? ⟨rb, 3, none⟩ = some (.int .i64 0) := by unfold World.cell?; simp only [hr]; rfl
  have c4 : w.cell? ⟨rb, 4, none⟩ = some (.slice none 0 0) := by unfold World.cell?; simp only [hr]; rfl
  have c5 : w.cell? ⟨rb, 5, none⟩ = some (.slice none 0 0) := by unfold World.cell?; simp only [hr]; rfl
  have Q0 := Lib.hid q0
  have Q1 := Lib.hid q1
  have Q2 := Lib.hid q2
  have Q3 := Lib.hid q3
  have Q4 := Lib.hid q4
  have Q5 := Lib.hid q5
  clear q0 q1 q2 q3 q4 q5 hL h hr hb
  go_enter Tryz.func21, Tryz.ntmps21
  go_wp2_with (first | (go_at_call 15; refine (Q0.out _ (by (repeat (first | exact Kept.refl _ | assumption | refine Kept.alloc ?_ _ | refine Kept.ext ?_ _ | refine Kept.drew ?_ | refine Kept.drewN ?_ _)))).mono ?_; rintro e w1 ⟨rfl, y1, rfl⟩))
  ((first | (with_reducible refine wp_region_kept2 (by kernel_rfl) (by kernel_rfl) ?_) | refine wp_region_kept (by kernel_rfl) (by kernel_rfl) ?_); (repeat (go_big_quiet_step (first | (go_at_call 16; exact Calls.kept_of (Q1.out _ (by (repeat (first | exact Kept.refl _ | assumption | refine Kept.alloc ?_ _ | refine Kept.ext ?_ _ | refine Kept.drew ?_ | refine Kept.drewN ?_ _))))) | (go_at_call 17; exact Calls.kept_of (Q2.out _ (by (repeat (first | exact Kept.refl _ | assumption | refine Kept.alloc ?_ _ | refine Kept.ext ?_ _ | refine Kept.drew ?_ | refine Kept.drewN ?_ _))))) | (go_at_call 18; exact Calls.kept_of (Q3.out _ (by (repeat (first | exact Kept.refl _ | assumption | refine Kept.alloc ?_ _ | refine Kept.ext ?_ _ | refine Kept.drew ?_ | refine Kept.drewN ?_ _))))) | (go_at_call 13; exact Calls.kept_of (Q4.out _ (by (repeat (first | exact Kept.refl _ | assumption | refine Kept.alloc ?_ _ | refine Kept.ext ?_ _ | refine Kept.drew ?_ | refine Kept.drewN ?_ _))))) | (go_at_call 46; exact Calls.kept_of (Q5.out _ (by (repeat (first | exact Kept.refl _ | assumption | refine Kept.alloc ?_ _ | refine Kept.ext ?_ _ | refine Kept.drew ?_ | refine Kept.drewN ?_ _)))))))); refine wpQuiet_nil ?_; intro x)
  go_wp2_with fail
  go_loopw [6] (fun i wr => i = .int .i64 0 ∧ Kept w wr) (fun i _ => (intOf i).toNat)
  case atStart => exact ⟨rfl, by (repeat (first | exact Kept.refl _ | assumption | refine Kept.alloc ?_ _ | refine Kept.ext ?_ _ | refine Kept.drew ?_ | refine Kept.drewN ?_ _))⟩
  case round =>
    obtain ⟨rfl, hk⟩ := hrel
    have HK := Lib.hid hk
    clear hk c1 c2 c3 c4 c5
    go_wp2_with fail
    go_ret
    exact ⟨rfl, HK.out.trans (by (repeat (first | exact Kept.refl _ | assumption | refine Kept.alloc ?_ _ | refine Kept.ext ?_ _ | refine Kept.drew ?_ | refine Kept.drewN ?_ _)))⟩
end Go.Proofs.YtnbjealpcjfllaaGreatDoor

