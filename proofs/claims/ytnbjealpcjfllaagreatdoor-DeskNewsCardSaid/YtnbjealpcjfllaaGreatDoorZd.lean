/- Contract: what the spans of all proofs enclose, of the program. Conditions: the proofs lie in memory, they are not many. Contract: a list of ones, made by slices.Repeat, of the program. Conditions: 1 to 100 of them. Contract: the charges of an order to prove with even charges, of the program. Conditions: 1 to 100 faces. -/
import Derived.Test.YtnbjealpcjfllaaGreatDoorZb
import Derived.Test.YtnbjealpcjfllaaGreatDoorZe
import Derived.Test.YtnbjealpcjfllaaGreatDoorMef
import Derived.Test.YtnbjealpcjfllaaGreatDoorGbl
import Derived.Test.YtnbjealpcjfllaaGreatDoorGrc
import Derived.Laws.MakeOwn
import Derived.Laws.CopyRow
namespace Go.Proofs.YtnbjealpcjfllaaGreatDoor
set_option linter.unusedVariables false
set_option linter.unusedSimpArgs false
open Go.RowKit Go.Deep
/-- Proofs in memory, to be read. -/
def CtsAt (w : World) (A : Option Addr) (C : List CtV) : Prop :=
  0 < C.length → ∃ b off, A = some ⟨b, off, none⟩ ∧ b < w.heap.size ∧ ∀ k (h : k < C.length), ∀ j, j < 4 → w.cell? ⟨b, off + k * 4 + j, none⟩ = (C[k]).cells[j]?
theorem CtsAt.of {w w' : World} {A : Option Addr} {C : List CtV} (h : CtsAt w A C) (hk : Kept w w') : CtsAt w' A C := fun h0 => by
  obtain ⟨b, off, e, hb, hc⟩ := h h0
  refine ⟨b, off, e, Nat.lt_of_lt_of_le hb (kept_size hk), fun k hkl j hj => ?_⟩
  have := hc k hkl j hj
  obtain ⟨v, hv⟩ : ∃ v, (C[k]).cells[j]? = some v := by
    rcases (show j = 0 ∨ j = 1 ∨ j = 2 ∨ j = 3 by omega) with rfl | rfl | rfl | rfl <;> exact ⟨_, rfl⟩
  rw [hv] at this ⊢
  exact cell_old this hb hk
theorem CtsAt.at {w : World} {A : Option Addr} {C : List CtV} (h : CtsAt w A C) {k : Nat} (hk : k < C.length) : ∃ b off, A = some ⟨b, off, none⟩ ∧ b < w.heap.size ∧ w.cell? ⟨b, off + k * 4, none⟩ = some (.slice (C[k]).A (C[k]).n (C[k]).cap) ∧ w.cell? ⟨b, off + k * 4 + 1, none⟩ = some (.int .i64 (C[k]).d) ∧ w.cell? ⟨b, off + k * 4 + 2, none⟩ = some (.int .i64 (C[k]).lo) ∧ w.cell? ⟨b, off + k * 4 + 3, none⟩ = some (.int .i64 (C[k]).hi) := by
  obtain ⟨b, off, e, hb, hc⟩ := h (by omega)
  exact ⟨b, off, e, hb, hc k hk 0 (by omega), hc k hk 1 (by omega), hc k hk 2 (by omega), hc k hk 3 (by omega)⟩
theorem owns_cts {w : World} {lo : Nat} {A : Option Addr} {cap : Nat} {C : List CtV} (h : w.ownsRow lo 92 4 (.slice A C.length cap) C.length (ctC C)) : CtsAt w A C := fun h0 => by
  rcases h.2 with ⟨-, q⟩ | ⟨g, c, cur, e, -, hg, -⟩
  · omega
  simp only [Value.slice.injEq] at e
  obtain ⟨rfl, -, rfl⟩ := e
  refine ⟨g, 0, rfl, (Array.getElem?_eq_some_iff.1 hg).1, fun k hk j hj => ?_⟩
  have hlt : k * 4 + j < C.length * 4 := by omega
  rw [show 0 + k * 4 + j = k * 4 + j by omega, h.cellAt _ hlt]
  exact ctC_at C k j hk hj
/-- What spans enclose together, one behind the other. -/
def meetF : Int → Int → List (Int × Int) → Int × Int
  | lo, hi, [] => (lo, hi)
  | lo, hi, c :: r => meetF (meetS lo hi c.1 c.2).lo (meetS lo hi c.1 c.2).hi r
def meetL : List (Int × Int) → Int × Int
  | [] => (0, 0)
  | c :: r => meetF c.1 c.2 (c :: r)
def CtV.sp (c : CtV) : Int × Int := (c.lo, c.hi)
def Crp.sp (c : Crp) : Int × Int := (c.lo, c.hi)
theorem keep_two {w wr : World} (h : Kept w wr) {g : Nat} (hg : w.heap.size ≤ g) (x y : Value) : Kept w ((wr.setCell ⟨g, 0, none⟩ x).setCell ⟨g, 1, none⟩ y) :=
  KB.kept_new h (((KB.refl (fun k => k = g) wr).setCell (p := ⟨g, 0, none⟩) (fun _ => rfl) x).setCell (p := ⟨g, 1, none⟩) (fun _ => rfl) y) fun k hk e => by omega
theorem two_set {wr : World} {g : Nat} {T : TypeId} {a b : Value} (h : wr.heap[g]? = some (.cells #[a, b] T (0, 0))) (x y : Value) : ((wr.setCell ⟨g, 0, none⟩ x).setCell ⟨g, 1, none⟩ y).heap[g]? = some (.cells #[x, y] T (0, 0)) := by
  simp [World.setCell, Array.getElem?_modify, h]
theorem two_other {wr : World} {g k : Nat} (hk : k ≠ g) (x y : Value) : ((wr.setCell ⟨g, 0, none⟩ x).setCell ⟨g, 1, none⟩ y).heap[k]? = wr.heap[k]? := by
  simp [World.setCell, Array.getElem?_modify, Ne.symm hk]
set_option maxRecDepth 100000 in
set_option maxHeartbeats 4000000 in
theorem dmeet_any (A : Option Addr) (C : List CtV) (cap : Nat) (w : World) (hl : C.length ≤ 1000) (hA : CtsAt w A C) :
    Calls Tryz.prog 43 #[.slice A C.length cap] w fun e w' => e = .returned (.agg #[.int .i64 (meetL (C.map CtV.sp)).1, .int .i64 (meetL (C.map CtV.sp)).2]) ∧ Kept w w' := by
  have HA := Lib.hid hA
  clear hA
  rcases C with _ | ⟨c0, C0⟩
  · go_enter Tryz.func43, Tryz.ntmps43
    go_wp2_with fail
    refine bodyPost_ret (by simp only [results, Tryz.results43]; go_simp; rfl) rfl ?_
    exact ⟨rfl, by (repeat (first | exact Kept.refl _ | assumption | refine Kept.alloc ?_ _ | refine Kept.ext ?_ _ | refine Kept.drew ?_ | refine Kept.drewN ?_ _))⟩
  obtain ⟨C, hC⟩ : ∃ C, c0 :: C0 = C := ⟨_, rfl⟩
  obtain ⟨b, off, rfl, hb, f0, f1, f2, f3⟩ := HA.out.at (k := 0) (by simp)
  simp only [List.getElem_cons_zero] at f0 f1 f2 f3
  have h0 : 0 < C.length := by rw [← hC]; simp
  have hR : meetF c0.lo c0.hi (C.map CtV.sp) = meetL (C.map CtV.sp) := by rw [← hC]; rfl
  rw [hC] at HA hl ⊢
  obtain ⟨R, hRe⟩ : ∃ R, meetL (C.map CtV.sp) = R := ⟨_, rfl⟩
  rw [hRe] at hR ⊢
  have HR := Lib.hid hR
  have LB : Lower b w.heap.size := ⟨hb⟩
  have hne : ((C.length : Int) == 0) = false   := beq_false_of_ne (by omega)
  clear hR hRe hC
  have e0 : off + 0 * 4 = off := by omega
  rw [e0] at f0 f1 f2 f3
  go_enter Tryz.func43, Tryz.ntmps43
  go_wp2_with fail
  have b0 : ((w.alloc (.cells #[.int .i64 0, .int .i64 0] 44)).alloc (.cells #[.int .i64 c0.lo, .int .i64 c0.hi] 44)).heap[w.heap.size + 1]? = some (.cells #[.int .i64 c0.lo, .int .i64 c0.hi] 44 (0, 0)) := by
    have := heap_alloc_new (w.alloc (.cells #[.int .i64 0, .int .i64 0] 44)) (.cells #[.int .i64 c0.lo, .int .i64 c0.hi] 44)
    rw [World.size_alloc] at this
    exact this
  have b1 : ((w.alloc (.cells #[.int .i64 0, .int .i64 0] 44)).alloc (.cells #[.int .i64 c0.lo, .int .i64 c0.hi] 44)).heap[w.heap.size]? = some (.cells #[.int .i64 0, .int .i64 0] 44 (0, 0)) := fr_kept (heap_alloc_new w _) (by (repeat (first | exact Kept.refl _ | assumption | refine Kept.alloc ?_ _ | refine Kept.ext ?_ _ | refine Kept.drew ?_ | refine Kept.drewN ?_ _)))
  have B0 := Lib.hid b0
  have B1 := Lib.hid b1
  clear b0 b1
  go_loopw [5, 16] (fun v5 i wr => ∃ (k : Nat) (lo hi : Int), k ≤ C.length ∧ i = .int .i64 k ∧ Kept w wr ∧ wr.heap[w.heap.size]? = some (.cells #[.int .i64 0, .int .i64 0] 44 (0, 0)) ∧ wr.heap[w.heap.size + 1]? = some (.cells #[.int .i64 lo, .int .i64 hi] 44 (0, 0)) ∧ meetF lo hi ((C.drop k).map CtV.sp) = R) (fun _ i _ => C.length - (intOf i).toNat)
  case atStart => exact ⟨0, c0.lo, c0.hi, by omega, rfl, by (repeat (first | exact Kept.refl _ | assumption | refine Kept.alloc ?_ _ | refine Kept.ext ?_ _ | refine Kept.drew ?_ | refine Kept.drewN ?_ _)), B1.out, B0.out, HR.out⟩
  case round =>
    obtain ⟨k, lo, hi, hk, rfl, hK, hB1, hB0, hT⟩ := hrel
    obtain ⟨p0, p1, p2, p3⟩ := cells2 hB0
    obtain ⟨q0, q1, q2, q3⟩ := cells2 hB1
    have HK := Lib.hid hK
    have L0 : Lower (w.heap.size + 1) wr.heap.size := ⟨(Array.getElem?_eq_some_iff.1 hB0).1⟩
    have L1 : Lower w.heap.size wr.heap.size := ⟨(Array.getElem?_eq_some_iff.1 hB1).1⟩
    have HB0 := Lib.hid hB0
    have HB1 := Lib.hid hB1
    by_cases hlt : k < C.length
    · rw [List.drop_eq_getElem_cons hlt, List.map_cons] at hT
      obtain ⟨b', off', eA, hb', g0, g1, g2, g3⟩ := (HA.out.of hK).at hlt
      cases eA
      obtain ⟨s, hs⟩ : ∃ s, C[k] = s := ⟨_, rfl⟩
      rw [hs] at hT g0 g1 g2 g3
      have hT : meetF (meetS lo hi s.lo s.hi).lo (meetS lo hi s.lo s.hi).hi ((C.drop (k + 1)).map CtV.sp) = R := hT
      have L2 : Lower b wr.heap.size := ⟨hb'⟩
      have HT := Lib.hid hT
      clear hT hB0 hB1 hK hs
      go_wp2_with (first | (go_at_call 73; refine (meet_any _ _ _ _ _).mono ?_; rintro e w1 ⟨rfl, x, rfl⟩))
      have K2 := Lib.hid (keep_two HK.out (Nat.le_succ w.heap.size) (.int .i64 (meetS lo hi s.lo s.hi).lo) (.int .i64 (meetS lo hi s.lo s.hi).hi))
      have S2 := Lib.hid (two_set HB0.out (.int .i64 (meetS lo hi s.lo s.hi).lo) (.int .i64 (meetS lo hi s.lo s.hi).hi))
      have O2 := Lib.hid ((two_other (Nat.ne_of_lt (Nat.lt_succ_self w.heap.size)) (.int .i64 (meetS lo hi s.lo s.hi).lo) (.int .i64 (meetS lo hi s.lo s.hi).hi)).trans HB1.out)
      go_roundw
      case rel =>
        have K3 := K2.out
        exact ⟨k + 1, _, _, by omega, by go_num, by (repeat (first | exact Kept.refl _ | assumption | refine Kept.alloc ?_ _ | refine Kept.ext ?_ _ | refine Kept.drew ?_ | refine Kept.drewN ?_ _)), fr_kept O2.out (by (repeat (first | exact Kept.refl _ | assumption | refine Kept.alloc ?_ _ | refine Kept.ext ?_ _ | refine Kept.drew ?_ | refine Kept.drewN ?_ _))), fr_kept S2.out (by (repeat (first | exact Kept.refl _ | assumption | refine Kept.alloc ?_ _ | refine Kept.ext ?_ _ | refine Kept.drew ?_ | refine Kept.drewN ?_ _))), HT.out⟩
      case measure => simp [intOf]; omega
    · rw [List.drop_of_length_le (by omega)] at hT
      have hT : (lo, hi) = R := hT
      subst hT
      clear hB0 hB1 hK
      go_wp2_with fail
      have K3 := keep_two HK.out (Nat.le_refl w.heap.size) (.int .i64 lo) (.int .i64 hi)
      refine bodyPost_ret (by simp only [results, Tryz.results43]; go_simp; rfl) rfl ?_
      exact ⟨rfl, by (repeat (first | exact Kept.refl _ | assumption | refine Kept.alloc ?_ _ | refine Kept.ext ?_ _ | refine Kept.drew ?_ | refine Kept.drewN ?_ _))⟩
end Go.Proofs.YtnbjealpcjfllaaGreatDoor

namespace Go.Proofs.YtnbjealpcjfllaaGreatDoor
set_option linter.unusedVariables false
set_option linter.unusedSimpArgs false
open Go.RowKit Go.Deep
theorem hilo1 {n : Nat} (h : n < 18446744073709551616) : hi64 1 n = 0 ∧ lo64 1 n = n := by
  unfold hi64 lo64
  rw [Nat.one_mul, Nat.div_eq_of_lt h, Nat.mod_eq_of_lt h]
  exact ⟨rfl, rfl⟩
set_option maxRecDepth 100000 in
theorem bmul1_any (n : Nat) (w : World) (hn : n < 18446744073709551616) :
    Calls Tryz.prog 253 #[.int .u64 1, .int .u64 n] w fun e w' => e = .returned (.tuple #[.int .u64 0, .int .u64 n]) ∧ w = w' := by
  have q := mul64_any 1 n w (by omega) hn
  rw [(hilo1 hn).1, (hilo1 hn).2] at q
  have Q := Lib.hid q
  have e1 : IntKind.u64.wrap (n : Int) = n := Mul.wrapN n hn
  clear q
  go_enter Tryz.func253, Tryz.ntmps253
  go_wp2_with (go_at_call 285; (refine Q.out.mono ?_); rintro e w1 ⟨rfl, rfl⟩)
  go_ret2
  exact ⟨rfl, rfl⟩
theorem info_I3 : ((Tryz.prog.info? 3).map fun i => (i.zero, i.size, i.bytes)) = some (some (.int .i64 0), 1, 8) := by kernel_rfl
theorem mk_I3 (n : Nat) (h : n ≤ 100) (w : World) : (Instr.makeSlice 90 (.int .i64 (n : Int)) (.int .i64 (n : Int))).run Tryz.prog w = .ok (.slice (some ⟨w.heap.size, 0, none⟩) n n) (w.alloc (.cells (madeCells #[.int .i64 0] n) 3)) := by
  obtain ⟨i, hi, he⟩ := Option.map_eq_some_iff.1 info_I3
  simp only [Prod.mk.injEq] at he
  have := run_make w (P := Tryz.prog) 90 3 i (.int .i64 0) (by kernel_rfl) hi he.1 .i64 .i64 n n (by omega) (by omega) (by rw [he.2.2]; omega) (by omega)
  rw [he.2.1, Int.toNat_natCast, Nat.mul_one] at this
  exact this
/-- n cells, the first k of which are 1, the others 0. -/
def oneC (n k : Nat) : List Value := List.replicate k (.int .i64 1) ++ List.replicate (n - k) (.int .i64 0)
theorem made3 (n : Nat) : madeCells #[.int .i64 0] n = (oneC n 0).toArray := by
  apply Array.ext'
  unfold madeCells oneC
  rw [Array.toList_map, Array.toList_range]
  apply List.ext_getElem
  · simp
  · intro i h1 h2
    simp [Nat.mod_one]
theorem oneC_len {n k : Nat} (h : k ≤ n) : (oneC n k).length = n := by
  unfold oneC
  simp
  omega
theorem oneC_at {n k i : Nat} (hk : k ≤ n) (hi : i < k) : (oneC n k)[i]? = some (.int .i64 1) := by
  unfold oneC
  rw [List.getElem?_append_left (by simpa using hi), List.getElem?_replicate, if_pos hi]
theorem oneC_put {n k l : Nat} (h : k + l ≤ n) : ((oneC n k).toArray.toList.take k ++ List.replicate l (Value.int .i64 1) ++ (oneC n k).toArray.toList.drop (k + l)).toArray = (oneC n (k + l)).toArray := by
  congr 1
  unfold oneC
  have e1 : (List.replicate k (Value.int .i64 1) ++ List.replicate (n - k) (Value.int .i64 0)).toArray.toList.take k = List.replicate k (Value.int .i64 1) := by
    rw [List.take_left' (by simp)]
  have e2 : (List.replicate k (Value.int .i64 1) ++ List.replicate (n - k) (Value.int .i64 0)).toArray.toList.drop (k + l) = List.replicate (n - (k + l)) (Value.int .i64 0) := by
    show (List.replicate k (Value.int .i64 1) ++ List.replicate (n - k) (Value.int .i64 0)).drop (k + l) = _
    rw [List.drop_append]
    simp
    try omega
  rw [e1, e2]
  congr 1
  rw [List.replicate_append_replicate]
/-- A copy of the first cells behind them. -/
theorem copy3 {W : World} {g n k : Nat} (hk : 1 ≤ k) (hn : k < n) (hg : W.heap[g]? = some (.cells (oneC n k).toArray 3 (0, 0))) (ty : TypeId) :
    (Builtin.copy_ #[90, 90] ty #[.slice (some ⟨g, k, none⟩) (n - k) (n - k), .slice (some ⟨g, 0, none⟩) k n]).run Tryz.prog W = .ok (goInt (min k (n - k) : Nat)) (W.setRow g (oneC n (k + min k (n - k))).toArray) := by
  have hl : k + min k (n - k) ≤ n := by omega
  have := run_copy_row (P := Tryz.prog) W 90 90 ty 3 g k (n - k) (n - k) ⟨g, 0, none⟩ k n (oneC n k).toArray 3 (List.replicate (min k (n - k)) (.int .i64 1)) (by kernel_rfl) (by kernel_rfl) hg (List.length_replicate) (fun j v hv => by
    have hj : j < min k (n - k) := by
      have := (List.getElem?_eq_some_iff.1 hv).1
      simpa using this
    rw [List.getElem?_replicate, if_pos hj] at hv
    injection hv with hv
    subst hv
    have e0 : ((Addr.mk g 0 none).add j) = ⟨g, j, none⟩ := by simp [Addr.add]; omega
    rw [e0]
    unfold World.cell?
    simp only [hg]
    rw [List.getElem?_toArray]
    exact oneC_at (by omega) (by omega)) (by rw [List.length_replicate, List.size_toArray, oneC_len (Nat.le_of_lt hn)]; omega) (fun v hv => by rw [(List.mem_replicate.1 hv).2]; rfl)
  rw [List.length_replicate, oneC_put hl] at this
  exact this
theorem copy31 {W : World} {g n : Nat} {a : Addr} {c : Nat} (hn : 1 ≤ n) (hg : W.heap[g]? = some (.cells (oneC n 0).toArray 3 (0, 0))) (ha : W.cell? a = some (.int .i64 1)) (ty : TypeId) :
    (Builtin.copy_ #[90, 90] ty #[.slice (some ⟨g, 0, none⟩) n n, .slice (some a) 1 c]).run Tryz.prog W = .ok (goInt 1) (W.setRow g (oneC n 1).toArray) := by
  have := run_copy_row (P := Tryz.prog) W 90 90 ty 3 g 0 n n a 1 c (oneC n 0).toArray 3 (List.replicate 1 (.int .i64 1)) (by kernel_rfl) (by kernel_rfl) hg (by rw [List.length_replicate]; exact (Nat.min_eq_left hn).symm) (fun j v hv => by
    have hj : j < 1 := by
      have := (List.getElem?_eq_some_iff.1 hv).1
      simpa using this
    obtain rfl : j = 0 := by omega
    simp at hv
    subst hv
    have e0 : a.add 0 = a := by simp [Addr.add]
    rw [e0]
    exact ha) (by rw [List.length_replicate, List.size_toArray, oneC_len (Nat.zero_le n)]; omega) (fun v hv => by rw [(List.mem_replicate.1 hv).2]; rfl)
  rw [List.length_replicate] at this
  have e := oneC_put (n := n) (k := 0) (l := 1) (by omega)
  rw [e] at this
  exact this
set_option maxRecDepth 100000 in
set_option maxHeartbeats 4000000 in
theorem srep_any (A : Option Addr) (cap n : Nat) (w : World) (hn : 1 ≤ n ∧ n ≤ 100) (hA : RowsAt w A 1 1 (fun _ _ => 1)) :
    Calls Tryz.prog 216 #[.slice A 1 cap, .int .i64 n] w fun e w' => ∃ g, e = .returned (.slice (some ⟨g, 0, none⟩) n n) ∧ Kept w w' ∧ w.heap.size ≤ g ∧ RowsAt w' (some ⟨g, 0, none⟩) n 1 (fun _ _ => 1) := by
  obtain ⟨ab, ao, rfl, hab, hc⟩ := hA (by omega)
  have c0 : w.cell? ⟨ab, ao, none⟩ = some (.int .i64 1) := (hc 0 (by omega) 0 (by omega)).1
  have q : ∀ w', _ := fun w' => bmul1_any n w' (by omega)
  have Q := Lib.hid q
  have mk := mk_I3 n hn.2 w
  rw [made3] at mk
  have e1 : IntKind.u64.wrap (n : Int) = n := Mul.wrapN n (by omega)
  have hg1 := heap_alloc_new w (.cells (oneC n 0).toArray 3)
  have cp1 := copy31 (W := w.alloc (.cells (oneC n 0).toArray 3)) (g := w.heap.size) (a := ⟨ab, ao, none⟩) (c := cap) hn.1 hg1 (by rw [World.cell?_alloc_lt _ _ ⟨ab, ao, none⟩ hab]; exact c0) 3
  have LB : Lower ab w.heap.size := ⟨hab⟩
  clear q hc
  go_enter Tryz.func216, Tryz.ntmps216
  go_wp2_with (go_at_call 253; (with_reducible refine (Q.out _).mono ?_); rintro e w1 ⟨rfl, rfl⟩)
  have hk0 : Kept w ((w.alloc (.cells (oneC n 0).toArray 3)).setRow w.heap.size (oneC n 1).toArray) := row_kept2 (by (repeat (first | exact Kept.refl _ | assumption | refine Kept.alloc ?_ _ | refine Kept.ext ?_ _ | refine Kept.drew ?_ | refine Kept.drewN ?_ _))) (Nat.le_refl _)
  have hg2 := setRow_heap _ _ _ (oneC n 1).toArray _ _ hg1
  have HK0 := Lib.hid hk0
  have HG2 := Lib.hid hg2
  clear hk0 hg2 cp1 mk hg1 hA
  go_loopw [8] (fun i wr => ∃ k : Nat, 1 ≤ k ∧ k ≤ n ∧ i = .int .i64 k ∧ Kept w wr ∧ wr.heap[w.heap.size]? = some (.cells (oneC n k).toArray 3 (0, 0))) (fun i _ => n - (intOf i).toNat)
  case atStart => exact ⟨1, by omega, by omega, rfl, HK0.out, HG2.out⟩
  case round =>
    obtain ⟨k, hk1, hk2, rfl, hK, hG⟩ := hrel
    have HK := Lib.hid hK
    have HG := Lib.hid hG
    clear hK hG
    by_cases hlt : k < n
    · have hc := copy3 hk1 hlt HG.out 3
      go_wp2_with fail
      refine wp_region_tellC (C := fun _ => True) [.q, .q, .q, .q, .q, .q, .q, .k (.int .i64 (min k (n - k) : Nat)), .q, .q] (fun L b w' => Kept w w' ∧ w'.heap[w.heap.size]? = some (.cells (oneC n (if L 7 = true then k + min k (n - k) else k)).toArray 3 (0, 0))) (by kernel_rfl) (by kernel_rfl) (fun b => by kernel_rfl) ?_ ?_ ?_ ?_
      · exact fun b => ⟨HK.out.drew, HG.out⟩
      · intro i L b w' w'' hs hI hk
        have e : doneAt L i 7 = L 7 := if_neg (by rintro rfl; cases hs)
        rw [e]
        exact ⟨hI.1.trans hk, fr_kept hI.2 hk⟩
      · exact fun _ _ _ _ => trivial
      apply Exists.intro
      refine ⟨?_, ?_, ?_, ?_⟩
      · rintro b W' -
        simp only [swapL, Nat.reduceAdd]
        repeat (go_big_quiet_step (fail))
        refine wpQuiet_nil ?_
        rfl
      · simp only [EachS, and_true]
        intro L b w' hd hL hI
        have hI2 := hI.2
        rw [if_neg (by rw [hL]; simp)] at hI2
        have hc := copy3 hk1 hlt hI2 3
        have h2 := setRow_heap _ _ _ (oneC n (k + min k (n - k))).toArray _ _ hI2
        have h1 : Kept w (w'.setRow w.heap.size (oneC n (k + min k (n - k))).toArray) := row_kept2 hI.1 (Nat.le_refl _)
        have H1 := Lib.hid h1
        have H2 := Lib.hid h2
        clear h1 h2 hI hI2
        go_simp
        exact ⟨rfl, H1.out, by rw [if_pos (show doneAt L 7 7 = true from if_pos rfl)]; exact H2.out⟩
      · intro b b' d9 hd9
        simp [callSlots, dullOp] at hd9
      intro L b w1 hL hI
      rw [if_pos (hL 7 (by decide))] at hI
      have H1 := Lib.hid hI.1
      have H2 := Lib.hid hI.2
      clear hI hL hc
      go_wp2_with fail
      go_roundw
      case rel => exact ⟨k + min k (n - k), by omega, by omega, by go_num, H1.out, H2.out⟩
      case measure => simp [intOf]; omega
    · obtain rfl : k = n := by omega
      go_wp2_with fail
      go_ret
      refine ⟨_, rfl, HK.out, Nat.le_refl _, fun _ => ⟨_, 0, rfl, ?_, fun i hi j hj => ⟨?_, by show I64 1; unfold I64; omega⟩⟩⟩
      · exact (Array.getElem?_eq_some_iff.1 HG.out).1
      · obtain rfl : j = 0 := by omega
        unfold World.cell?
        simp only [HG.out]
        rw [List.getElem?_toArray, show 0 + i * 1 + 0 = i by omega]
        exact oneC_at (Nat.le_refl _) hi
end Go.Proofs.YtnbjealpcjfllaaGreatDoor

namespace Go.Proofs.YtnbjealpcjfllaaGreatDoor
set_option linter.unusedVariables false
set_option linter.unusedSimpArgs false
open Go.RowKit Go.Deep
theorem lit_rows1 (X : World) (z : Int) (hz : I64 z) : RowsAt (X.alloc (.cells #[.int .i64 z] 3)) (some ⟨X.heap.size, 0, none⟩) 1 1 (fun _ _ => z) := by
  intro _
  refine ⟨X.heap.size, 0, rfl, by rw [World.size_alloc]; omega, fun k hk j hj => ⟨?_, hz⟩⟩
  obtain rfl : k = 0 := by omega
  obtain rfl : j = 0 := by omega
  simp
set_option maxRecDepth 100000 in
set_option maxHeartbeats 4000000 in
theorem dchg_even (a b : Int) (c : Bool) (u v : Value) (A B : Option Addr) (n cap m cap2 : Nat) (w : World) (hm : 1 ≤ m ∧ m ≤ 100) :
    Calls Tryz.prog 171 #[.agg #[.int .i64 9, .int .i64 a, .int .i64 b, .bool c, u, v], .agg #[.slice A n cap, .slice B m cap2]] w fun e w' => ∃ g, e = .returned (.tuple #[.slice (some ⟨g, 0, none⟩) m m, .int .i64 0]) ∧ Kept w w' ∧ w.heap.size ≤ g ∧ RowsAt w' (some ⟨g, 0, none⟩) m 1 (fun _ _ => 1) := by
  have q : ∀ w' A, RowsAt w' A 1 1 (fun _ _ => 1) → _ := fun w' A h => srep_any A 1 m w' hm h
  have Q := Lib.hid q
  clear q
  go_enter Tryz.func171, Tryz.ntmps171
  go_wp2_with fail
  refine (Q.out _ _ ?c1).mono ?c2
  case c1 =>
    have := lit_rows1 ((w.alloc (.cells #[.int .i64 9, .int .i64 a, .int .i64 b, .bool c, u, v] 122)).alloc (.cells #[.slice A n cap, .slice B m cap2] 42)) 1 (by unfold I64; omega)
    simp only [World.size_alloc] at this
    exact this
  case c2 =>
    rintro e w1 ⟨g, rfl, ⟨y, rfl⟩, hg, hr⟩
    have HG := Lib.hid hg
    have HR := Lib.hid hr
    clear hg hr
    go_wp2_with fail
    go_ret2
    refine ⟨g, rfl, by (repeat (first | exact Kept.refl _ | assumption | refine Kept.alloc ?_ _ | refine Kept.ext ?_ _ | refine Kept.drew ?_ | refine Kept.drewN ?_ _)), ?_, HR.out⟩
    have := HG.out
    simp only [World.size_alloc] at this
    omega
end Go.Proofs.YtnbjealpcjfllaaGreatDoor

