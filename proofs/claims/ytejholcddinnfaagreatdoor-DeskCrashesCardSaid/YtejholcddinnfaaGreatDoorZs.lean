/- Contract: Long of the statements of layer 9. No conditions but those of each theorem. An argument that is a list of texts, opened. No conditions but those of each theorem. The walk of DeskCrashes: true at every list of orders. Conditions: the library's variables hold what start-up lays. -/
import Derived.Test.YtejholcddinnfaaGreatDoorJc
import Derived.SliceStrings
import Derived.Test.YtejholcddinnfaaGreatDoorZo
import Derived.Test.YtejholcddinnfaaGreatDoorCards
import Derived.Test.YtejholcddinnfaaGreatDoorTie
import Derived.SevenTiedAt
import Derived.Test.YtejholcddinnfaaGreatDoorJd
namespace Go.Proofs.YtejholcddinnfaaGreatDoor
set_option linter.unusedVariables false
set_option linter.unusedSimpArgs false
open Go.ChangeShapes Go.WideShapes Go.ChangeAt Go.RowKit Go.Deep
def longB (l : List (List UInt8)) : Bool := l.any (fun o => decide (400 < o.length)) || decide (300 < l.length)
theorem long_here {l : List (List UInt8)} {k : Nat} (h : k < l.length) (hl : 400 < l[k].length) : longB l = true := by
  unfold longB
  have : l.any (fun o => decide (400 < o.length)) = true := List.any_eq_true.2 ⟨l[k], List.getElem_mem _, decide_eq_true hl⟩
  rw [this]
  rfl
theorem long_none {l : List (List UInt8)} (h : ∀ k (hk : k < l.length), l[k].length ≤ 400) : longB l = decide (300 < l.length) := by
  unfold longB
  have : l.any (fun o => decide (400 < o.length)) = false := by
    rw [List.any_eq_false]
    intro o ho
    obtain ⟨k, hk, rfl⟩ := List.getElem_of_mem ho
    have := h k hk
    simp only [decide_eq_true_eq]
    omega
  rw [this]
  rfl
set_option maxRecDepth 100000 in
set_option maxHeartbeats 4000000 in
theorem long9_any (A : Option Addr) (l : List (List UInt8)) (c1 : Nat) (w : World) (h1 : TxAt w A l) (hb : l.length ≤ 9223372036854775807) (hs : ∀ o ∈ l, o.length ≤ 9223372036854775807) :
    Calls Tryz.prog 15 #[.slice A l.length c1] w fun e w' => e = .returned (.bool (longB l)) ∧ Kept w w' := by
  have H1 := Lib.hid h1
  have HS := Lib.hid hs
  obtain ⟨r, hr⟩ : ∃ r, longB l = r := ⟨_, rfl⟩
  rw [hr]
  have HR := Lib.hid hr
  clear hr h1 hs
  go_enter Tryz.func15, Tryz.ntmps15
  go_wp2_with fail
  go_loopw [3] (fun i wr => ∃ k : Nat, k ≤ l.length ∧ i = .int .i64 k ∧ (∃ y, wr = ext w y) ∧ ∀ j (hj : j < l.length), j < k → l[j].length ≤ 400) (fun i _ => l.length - (intOf i).toNat)
  case atStart => exact ⟨0, by omega, rfl, show Kept _ _ by (repeat (first | exact Kept.refl _ | assumption | refine Kept.alloc ?_ _ | refine Kept.ext ?_ _ | refine Kept.drew ?_ | refine Kept.drewN ?_ _)), fun j _ h => absurd h (by omega)⟩
  case round =>
    obtain ⟨k, hk, rfl, ⟨y, rfl⟩, hT⟩ := hrel
    have HT := Lib.hid hT
    clear hT
    by_cases hlt : k < l.length
    · obtain ⟨b, off, rfl, hb1, f0⟩ := H1.out.at hlt
      have LB : Lower b w.heap.size := ⟨hb1⟩
      have hpl := HS.out l[k] (List.getElem_mem _)
      obtain ⟨p, hp⟩ : ∃ p, l[k] = p := ⟨_, rfl⟩
      rw [hp] at f0 hpl
      unfold strV at f0
      have HP := Lib.hid hp
      have hsz := ba_size p
      clear hp
      by_cases hpq : 400 < p.length
      · have er : r = true := by
          rw [← HR.out]
          exact long_here hlt (by rw [HP.out]; exact hpq)
        subst er
        go_wp2_with fail
        go_ret
        exact ⟨rfl, by (repeat (first | exact Kept.refl _ | assumption | refine Kept.alloc ?_ _ | refine Kept.ext ?_ _ | refine Kept.drew ?_ | refine Kept.drewN ?_ _))⟩
      · have hn : ∀ j (hj : j < l.length), j < k + 1 → l[j].length ≤ 400 := fun j hj h => by
          rcases Nat.lt_or_ge j k with q | q
          · exact HT.out j hj q
          · obtain rfl : j = k := by omega
            rw [HP.out]
            omega
        have HN := Lib.hid hn
        clear hn
        go_wp2_with fail
        go_roundw
        case rel => exact ⟨k + 1, by omega, by go_num, show Kept _ _ by (repeat (first | exact Kept.refl _ | assumption | refine Kept.alloc ?_ _ | refine Kept.ext ?_ _ | refine Kept.drew ?_ | refine Kept.drewN ?_ _)), HN.out⟩
        case measure => simp [intOf]; omega
    · have er : r = decide (300 < l.length) := by
        rw [← HR.out]
        exact long_none fun j hj => HT.out j hj (by omega)
      subst er
      clear HR
      by_cases h3 : 300 < l.length
      · go_wp2_with fail
        go_ret
        exact ⟨by simp [h3]; omega, by (repeat (first | exact Kept.refl _ | assumption | refine Kept.alloc ?_ _ | refine Kept.ext ?_ _ | refine Kept.drew ?_ | refine Kept.drewN ?_ _))⟩
      · go_wp2_with fail
        go_ret
        exact ⟨by simp [h3]; omega, by (repeat (first | exact Kept.refl _ | assumption | refine Kept.alloc ?_ _ | refine Kept.ext ?_ _ | refine Kept.drew ?_ | refine Kept.drewN ?_ _))⟩
end Go.Proofs.YtejholcddinnfaaGreatDoor

namespace Go.Proofs.YtejholcddinnfaaGreatDoor
set_option linter.unusedVariables false
set_option linter.unusedSimpArgs false
open Go.ChangeShapes Go.WideShapes Go.ChangeAt Go.RowKit Go.Deep
section
variable {H : Type} {enc : TypeId × Value → H} {P : Program} {w : World} {base : Nat} {spare : Nat → Bool} {held : Bool}
theorem open_texts {r : Reach} {b0 : Nat} {t e : TypeId} {v : Value} {d : DataW H} {p : List MemPlace}
    (ht : P.underlying t = some (.slice e)) (he : P.underlying e = some .string) (hC : P.cellsOf e = 1)
    (hv : Value.okWide P w r b0 t v) (h : DataW.Trod enc P w base spare held t v d p) (hlt : ∀ x ∈ p, x.block < w.heap.size) :
    ∃ (A : Option Addr) (l : List (List UInt8)) (cap : Nat), v = .slice A l.length cap ∧ l.length ≤ cap ∧ cap ≤ maxLen ∧ (∀ o ∈ l, o.length ≤ maxLen) ∧ TxAt w A l := by
  obtain ⟨A, n, cap, rfl⟩ := okWide_slice ht hv
  obtain ⟨fuel, hf⟩ := h
  rcases open_strings ht he hC hf with ⟨h0, -⟩ | ⟨a, len, cap', ss, hcs, hb, hl, hm, hz, hx, hcell, hsz⟩
  · simp only [Value.cells, List.cons.injEq, and_true, Value.slice.injEq] at h0
    obtain ⟨rfl, rfl, rfl⟩ := h0
    exact ⟨none, [], 0, rfl, Nat.le_refl _, Nat.zero_le _, fun o h => absurd h (by simp), fun h => absurd h (by simp)⟩
  · simp only [Value.cells, List.cons.injEq, and_true, Value.slice.injEq] at hcs
    obtain ⟨rfl, rfl, rfl⟩ := hcs
    have hls : n ≤ ss.length := by rw [hz]; split <;> omega
    have hlen : ((ss.take n).map (fun s => s.data.toList)).length = n := by simp; omega
    refine ⟨some a, (ss.take n).map (fun s => s.data.toList), cap, by rw [hlen], by rw [hlen]; exact hl, hm, fun o ho => ?_, fun hn => ?_⟩
    · obtain ⟨s, hs, rfl⟩ := List.mem_map.1 ho
      have := hsz s (List.mem_of_mem_take hs)
      rw [Array.length_toList]
      exact this
    · rw [hlen] at hn
      have hsp := World.cell?_spot (hcell 0 (by omega))
      obtain ⟨b, off, sp⟩ := a
      have hsp' : sp = none := by simpa [Addr.add] using hsp
      subst hsp'
      refine ⟨b, off, rfl, ?_, fun k hk => ?_⟩
      · have : (MemPlace.cell b (off + 0)) ∈ p := by
          simp only [Prod.mk.injEq] at hx
          rw [hx.2]
          unfold MemPlace.row
          rw [List.mem_map]
          exact ⟨0, List.mem_range.2 (by omega), rfl⟩
        exact hlt _ this
      · rw [hlen] at hk
        have h1 := hcell k (by omega)
        have e1 : (Addr.mk b off none).add k = ⟨b, off + k, none⟩ := by
          unfold Addr.add
          by_cases h : k = 0
          · rw [if_pos h, h]
            rfl
          · rw [if_neg h]
        rw [e1] at h1
        rw [h1]
        congr 1
        unfold strV
        rw [List.getElem_map, List.getElem_take, List.getD_eq_getElem?_getD, List.getElem?_eq_getElem (by omega)]
        simp
end
end Go.Proofs.YtejholcddinnfaaGreatDoor

namespace Go.Proofs.YtejholcddinnfaaGreatDoor
set_option linter.unusedVariables false
set_option linter.unusedSimpArgs false
open Go.ChangeShapes Go.WideShapes Go.ChangeAt Go.RowKit Go.Deep
theorem write_len : ∀ (os : List (List UInt8)) (s : Int), (∀ o ∈ os, rightB o = true) → (writeB s os).length ≤ os.length * 109
  | [], _, _ => by simp [writeB]
  | o :: os, s, h => by
    have h1 := write_len os (sumB s o) fun x hx => h x (List.mem_cons_of_mem _ hx)
    have h2 := line_len (s := s) (h o (List.mem_cons_self ..))
    show (lineB s o ++ writeB (sumB s o) os).length ≤ _
    rw [List.length_append, List.length_cons]
    omega
theorem first_take : ∀ (l : List (List UInt8)) (j k : Nat), firstNe (l.take j) l k = none
  | [], j, k => by rw [List.take_nil]; rfl
  | x :: l, 0, k => by rw [List.take_zero]; rfl
  | x :: l, j + 1, k => by
    show (if x = x then firstNe (l.take j) l (k + 1) else some k) = none
    rw [if_pos rfl]
    exact first_take l j (k + 1)
theorem crash_all (os : List (List UInt8)) (n : Nat) (h : ∀ o ∈ os, rightB o = true) (hk : os.length ≤ 100) (hn : n ≤ (writeB 0 os).length) :
    ∃ j t, readB 100 0 ((writeB 0 os).take n) = (os.take j, t) ∧ j ≤ os.length ∧ (t = [] ∨ j < os.length) ∧ t.length ≤ 110 ∧ t.length ≤ n ∧ mergeB ((writeB 0 os).take (n - t.length)) (writeB 0 os) = (writeB 0 os, (os.length : Int), 0) := by
  obtain ⟨j, t, h1, h2, h3, h4⟩ := crash os 100 0 n h hk
  have hs := (read_spec 100 0 ((writeB 0 os).take n)).1
  rw [h1] at hs
  simp only at hs
  have hlen : n = (writeB 0 (os.take j)).length + t.length := by
    have := congrArg List.length hs
    rw [List.length_take, List.length_append] at this
    omega
  have hO : (writeB 0 os).take (n - t.length) = writeB 0 (os.take j) := by
    have : ((writeB 0 os).take n).take (n - t.length) = writeB 0 (os.take j) := by
      rw [hs, show n - t.length = (writeB 0 (os.take j)).length by omega, List.take_left]
    rw [List.take_take, Nat.min_eq_left (by omega)] at this
    exact this
  refine ⟨j, t, h1, h2, h3, h4, by omega, ?_⟩
  have r1 := read_write os 100 0 h hk
  have r2 := read_write (os.take j) 100 0 (fun o ho => h o (List.mem_of_mem_take ho)) (by rw [List.length_take]; omega)
  rw [hO]
  unfold mergeB
  rw [r1, r2]
  simp only [ne_eq, not_true_eq_false, or_self, if_false, first_take, List.length_take]
  by_cases hj : j < os.length
  · rw [if_pos (by omega)]
  · rw [if_neg (by omega), List.take_of_length_le (by omega), Nat.min_eq_right (by omega)]
theorem own_cap {w : World} {base n cap : Nat} {e : TypeId} {A : Option Addr} {xs : List Value} (h : w.ownsRow base e 1 (.slice A n cap) n xs) : n ≤ cap := by
  rcases h.2 with ⟨hv, hn'⟩ | ⟨g, cap', cur, hv, hb, hg, h1, h2, h3, h4⟩
  · omega
  · simp only [Value.slice.injEq] at hv
    omega
theorem tx_take {w : World} {A : Option Addr} {l : List (List UInt8)} (h : TxAt w A l) (j : Nat) : TxAt w A (l.take j) := fun h0 => by
  rw [List.length_take] at h0
  obtain ⟨b, off, e, hb, hc⟩ := h (by omega)
  refine ⟨b, off, e, hb, fun k hk => ?_⟩
  rw [List.length_take] at hk
  rw [hc k (by omega), List.getElem_take]
theorem cut_at (n : Int) (b : Nat) (hb : b ≤ 1000000) : ∃ m : Nat, m ≤ b ∧ wrap64 ((IntKind.u64.wrap n).tmod ((b : Int) + 1)) = m := by
  have h0 : 0 ≤ IntKind.u64.wrap n ∧ IntKind.u64.wrap n < 18446744073709551616 := by
    show 0 ≤ n % 18446744073709551616 ∧ n % 18446744073709551616 < 18446744073709551616
    omega
  rw [Int.tmod_eq_emod_of_nonneg h0.1]
  have h1 := Int.emod_nonneg (IntKind.u64.wrap n) (show ((b : Int) + 1) ≠ 0 by omega)
  have h2 := Int.emod_lt_of_pos (IntKind.u64.wrap n) (show 0 < ((b : Int) + 1) by omega)
  obtain ⟨m, hm⟩ := Int.eq_ofNat_of_zero_le h1
  rw [hm] at h2 ⊢
  refine ⟨m, by omega, ?_⟩
  unfold wrap64
  omega
set_option maxRecDepth 100000 in
set_option maxHeartbeats 16000000 in
theorem law_crashes (A : Option Addr) (l : List (List UInt8)) (cap : Nat) (n : Int) (w : World) (hT : l.length ≤ maxLen ∧ (∀ o ∈ l, o.length ≤ maxLen) ∧ TxAt w A l) (h : Le w ∧ 9 ≤ w.heap.size) :
    Calls Tryz.prog 5 #[.slice A l.length cap, .int .i64 n] w fun e w' => e = .returned (.bool true) ∧ Kept w w' := by
  obtain ⟨ti, hti, hte⟩ := Option.map_eq_some_iff.1 info_St
  simp only [Prod.mk.injEq] at hte
  have HT := Lib.hid hti
  have HTE := Lib.hid hte
  obtain ⟨hl, ho, hx⟩ := hT
  unfold maxLen at hl ho
  have q7 : ∀ w', Kept w w' → Calls Tryz.prog 7 #[] w' fun r w'' => r = .returned (.bool true) ∧ Kept w' w'' := fun w' hk => dsane_any w' (h.1.on hk) (Nat.le_trans h.2 (kept_size hk))
  have q0 : ∀ w', Kept w w' → _ := fun w' hk => long9_any A l cap w' (hx.of hk) (by omega) (fun o h => by have := ho o h; omega)
  obtain ⟨L, hL⟩ : ∃ x, longB l = x := ⟨_, rfl⟩
  rw [hL] at q0
  have Q7 := Lib.hid q7
  have Q0 := Lib.hid q0
  have H := Lib.hid h
  have HX := Lib.hid hx
  have HS := Lib.hid ho
  have HLL := Lib.hid hL
  have hl2 : l.length ≤ 9223372036854775807 := by omega
  clear hti hte q7 q0 h hx ho hL hl
  cases L
  case true =>
    go_enter Tryz.func5, Tryz.ntmps5
    go_wp2_with (first | (go_at_call 15; (with_reducible refine (Q0.out _ (by (repeat (first | exact Kept.refl _ | assumption | refine Kept.alloc ?_ _ | refine Kept.ext ?_ _ | refine Kept.drew ?_ | refine Kept.drewN ?_ _)))).mono ?_); rintro e w1 ⟨rfl, ⟨y1, rfl⟩⟩) | (go_at_call 7; (with_reducible refine (Q7.out _ (by (repeat (first | exact Kept.refl _ | assumption | refine Kept.alloc ?_ _ | refine Kept.ext ?_ _ | refine Kept.drew ?_ | refine Kept.drewN ?_ _)))).mono ?_); rintro e w5 ⟨rfl, ⟨y5, rfl⟩⟩))
    refine bodyPost_ret (by simp only [results, Tryz.results5]; go_simp; rfl) rfl ?_
    exact ⟨rfl, by (repeat (first | exact Kept.refl _ | assumption | refine Kept.alloc ?_ _ | refine Kept.ext ?_ _ | refine Kept.drew ?_ | refine Kept.drewN ?_ _))⟩
  case false =>
  go_enter Tryz.func5, Tryz.ntmps5
  go_wp2_with (first | (go_at_call 15; (with_reducible refine (Q0.out _ (by (repeat (first | exact Kept.refl _ | assumption | refine Kept.alloc ?_ _ | refine Kept.ext ?_ _ | refine Kept.drew ?_ | refine Kept.drewN ?_ _)))).mono ?_); rintro e w1 ⟨rfl, ⟨y1, rfl⟩⟩))
  go_loopw [5, 6] (fun v i wr => ∃ (k : Nat) (os : List (List UInt8)), k ≤ l.length ∧ i = .int .i64 k ∧ os.length ≤ 40 ∧ (∀ o ∈ os, rightB o = true) ∧ Kept w wr ∧ wr.ownsRow w.heap.size 9 1 v os.length (os.map strV)) (fun _ i _ => l.length - (intOf i).toNat)
  case atStart => exact ⟨0, [], by omega, rfl, by simp, fun o h => absurd h (by simp), by (repeat (first | exact Kept.refl _ | assumption | refine Kept.alloc ?_ _ | refine Kept.ext ?_ _ | refine Kept.drew ?_ | refine Kept.drewN ?_ _)), World.ownsRow_nil _ _ _ _⟩
  case round =>
    obtain ⟨k, os, hk, rfl, hol, hor, hkw, hO⟩ := hrel
    obtain ⟨Wi, rfl⟩ : ∃ x, x = wr := ⟨_, rfl⟩
    have HKW := Lib.hid hkw
    obtain ⟨OA, oc, rfl⟩ := own_slice2 hO
    have HO := Lib.hid hO
    have HOR := Lib.hid hor
    clear hkw hO hor
    by_cases hgo : k < l.length ∧ os.length < 40
    · obtain ⟨hlt, h40⟩ := hgo
      obtain ⟨b, off, rfl, hb1, f0⟩ := HX.out.at hlt
      have LB : Lower b w.heap.size := ⟨hb1⟩
      have f0 := cell_old f0 hb1 HKW.out
      obtain ⟨p, hp⟩ : ∃ p, l[k] = p := ⟨_, rfl⟩
      rw [hp] at f0
      unfold strV at f0
      have q1 : ∀ w', _ := fun w' => r9right_any p w'
      have g1 : ((os.length : Int)) < 40 := by omega
      obtain ⟨r, hr⟩ : ∃ x, rightB p = x := ⟨_, rfl⟩
      rw [hr] at q1
      have HR := Lib.hid hr
      have Q1 := Lib.hid q1
      clear q1 hr hp
      cases r
      case false =>
        go_wp2_with (first | (go_at_call 16; (with_reducible refine (Q1.out _).mono ?_); rintro e w1 ⟨rfl, rfl⟩))
        go_roundw
        case rel => exact ⟨k + 1, os, by omega, by go_num, hol, HOR.out, HKW.out.trans (by (repeat (first | exact Kept.refl _ | assumption | refine Kept.alloc ?_ _ | refine Kept.ext ?_ _ | refine Kept.drew ?_ | refine Kept.drewN ?_ _))), owns_kept HO.out (by (repeat (first | exact Kept.refl _ | assumption | refine Kept.alloc ?_ _ | refine Kept.ext ?_ _ | refine Kept.drew ?_ | refine Kept.drewN ?_ _)))⟩
        case measure => simp [intOf]; omega
      case true =>
        go_wp2_with (first | (go_at_call 16; (with_reducible refine (Q1.out _).mono ?_); rintro e w1 ⟨rfl, rfl⟩) | (at_builtin; refine wpList_append_lies _ rfl (.tmp 35) (.tmp 40) 23 rfl w.heap.size 9 ti _ 1 16 Tryz.underlying23 HT.out HTE.out.1 HTE.out.2.1 HTE.out.2.2 rfl (by omega) _ _ _ rfl (owns_kept HO.out (by (repeat (first | exact Kept.refl _ | assumption | refine Kept.alloc ?_ _ | refine Kept.ext ?_ _ | refine Kept.drew ?_ | refine Kept.drewN ?_ _)))) _ 1 1 [.string ⟨p.toArray⟩] rfl rfl (lit_at _ _ (by go_simp)) (lit_one _ rfl) (by omega) (by unfold maxLen; omega) (by omega) (by rw [World.size_alloc]; exact Nat.le_trans (kept_le (HKW.out.trans (by (repeat (first | exact Kept.refl _ | assumption | refine Kept.alloc ?_ _ | refine Kept.ext ?_ _ | refine Kept.drew ?_ | refine Kept.drewN ?_ _))))) (Nat.le_succ _)) _ rfl ?_; intro g1 cp1 w1 k1 k2 k3 k4; have E1 := Lib.hid k2; have K1 := Lib.hid k1; clear k1 k2 k3 k4))
        go_roundw
        case rel =>
          refine ⟨k + 1, os ++ [p], by omega, by go_num, by simp; omega, fun o ho => ?_, kept_grown (W := w) (HKW.out.trans (by (repeat (first | exact Kept.refl _ | assumption | refine Kept.alloc ?_ _ | refine Kept.ext ?_ _ | refine Kept.drew ?_ | refine Kept.drewN ?_ _)))) (owns_kept HO.out (by (repeat (first | exact Kept.refl _ | assumption | refine Kept.alloc ?_ _ | refine Kept.ext ?_ _ | refine Kept.drew ?_ | refine Kept.drewN ?_ _)))) (Nat.le_refl _) E1.out, ?_⟩
          · rcases List.mem_append.1 ho with q | q
            · exact HOR.out o q
            · rw [List.mem_singleton.1 q]; exact HR.out
          · rw [List.length_append, List.length_singleton, List.map_append]
            exact K1.out
        case measure => simp [intOf]; omega
    · have hrw := read_write os 100 0 HOR.out (by omega)
      have hbl := write_len os 0 HOR.out
      have hcr := fun n => crash_all os n HOR.out (by omega)
      have hw : ∀ c1 w', Kept Wi w' → TxAt w' OA os → _ := fun c1 w' hk ht => r9write_any OA os c1 w' ht (by omega) HOR.out (H.out.1.ld.on (HKW.out.trans hk))
      obtain ⟨B, hB⟩ : ∃ x, writeB 0 os = x := ⟨_, rfl⟩
      rw [hB] at hrw hbl hcr hw
      unfold strV at hw
      have q2 : ∀ A B c1 c2 w', TxAt w' A os → TxAt w' B os → Calls Tryz.prog 10 #[.slice A os.length c1, .slice B os.length c2] w' fun e w'' => e = .returned (.bool true) ∧ Kept w' w'' := fun A B c1 c2 w' t1 t2 => (r9same_any A B os os c1 c2 w' t1 t2 ⟨by omega, by omega⟩).mono fun e w'' ⟨h1, h2⟩ => ⟨by rw [h1, decide_eq_true rfl], h2⟩
      obtain ⟨m, hmB, hcut⟩ := cut_at n B.length (by omega)
      obtain ⟨j, t, hrd, hj, htj, ht, htm, hmg⟩ := hcr m hmB
      have q1 : ∀ w', Kept Wi w' → Calls Tryz.prog 8 #[.string ⟨B.toArray⟩] w' (fun e w'' => ∃ A cp, e = .returned (.tuple #[.slice A os.length cp, .string ⟨#[]⟩]) ∧ Kept w' w'' ∧ TxAt w'' A os ∧ j ≤ cp) := fun w' hk => (dread_any B w' (by omega) (H.out.1.ld.on (HKW.out.trans hk))).mono fun e w'' ⟨v, h1, h2, h3⟩ => by
        rw [hrw] at h1 h3
        obtain ⟨A, cp, rfl⟩ := own_slice2 h3
        exact ⟨A, cp, h1, h2, tx_of_owns h3 rfl, Nat.le_trans hj (own_cap h3)⟩
      have q3 : ∀ w', Kept Wi w' → Calls Tryz.prog 8 #[.string ⟨(B.take m).toArray⟩] w' (fun e w'' => ∃ A cp, e = .returned (.tuple #[.slice A j cp, .string ⟨t.toArray⟩]) ∧ Kept w' w'' ∧ TxAt w'' A (os.take j)) := fun w' hk => (dread_any (B.take m) w' (by rw [List.length_take]; omega) (H.out.1.ld.on (HKW.out.trans hk))).mono fun e w'' ⟨v, h1, h2, h3⟩ => by
        rw [hrd] at h1 h3
        obtain ⟨A, cp, rfl⟩ := own_slice2 h3
        have ej : (os.take j).length = j := by rw [List.length_take]; omega
        refine ⟨A, cp, ?_, h2, tx_of_owns h3 rfl⟩
        rw [h1]
        simp only [ej]
        rfl
      have q4 : ∀ A B c1 c2 w', TxAt w' A (os.take j) → TxAt w' B (os.take j) → Calls Tryz.prog 10 #[.slice A j c1, .slice B j c2] w' fun e w'' => e = .returned (.bool true) ∧ Kept w' w'' := fun A B c1 c2 w' t1 t2 => by
        have ej : (os.take j).length = j := by rw [List.length_take]; omega
        have := r9same_any A B (os.take j) (os.take j) c1 c2 w' t1 t2 ⟨by omega, by omega⟩
        rw [ej] at this
        exact this.mono fun e w'' ⟨h1, h2⟩ => ⟨by rw [h1, decide_eq_true rfl], h2⟩
      have q5 : ∀ w', Kept Wi w' → _ := fun w' hk => dmerge_any (B.take (m - t.length)) B w' ⟨by rw [List.length_take]; omega, by omega⟩ (H.out.1.ld.on (HKW.out.trans hk))
      rw [hmg] at q5
      unfold strV at q5
      have hx1 : (⟨B.toArray⟩ : ByteArray).extract 0 m = ⟨(B.take m).toArray⟩ := by
        rw [ext_eq B (Nat.zero_le _) hmB, List.drop_zero]
      have hx2 : (⟨B.toArray⟩ : ByteArray).extract 0 (m - t.length) = ⟨(B.take (m - t.length)).toArray⟩ := by
        rw [ext_eq B (Nat.zero_le _) (by omega), List.drop_zero]
      have gm : (m : Int) ≤ B.length := by omega
      have gt : (t.length : Int) ≤ 110 := by omega
      have gj : (j : Int) ≤ os.length := by omega
      have gtm : (m : Int) - t.length = ((m - t.length : Nat) : Int) := by omega
      have hbz := ba_size B
      have htz := ba_size t
      have Q3 := Lib.hid q3
      have Q4 := Lib.hid q4
      have Q5 := Lib.hid q5
      have HTJ := Lib.hid htj
      clear q3 q4 q5 hrd hmg htj
      have Q1 := Lib.hid q1
      have Q2 := Lib.hid q2
      have QW := Lib.hid hw
      have HC := Lib.hid hcr
      have TX : ∀ w', Kept Wi w' → TxAt w' OA os := fun w' hk => (tx_of_owns HO.out rfl).of hk
      have TXH := Lib.hid TX
      clear q1 q2 hw hcr hrw hB TX
      have hgo2 : (k : Int) < l.length → ¬ ((os.length : Int)) < 40 := fun q q2 => hgo ⟨by omega, by omega⟩
      clear hgo
      by_cases ht0 : t = []
      · have hte : t.isEmpty = true := by rw [ht0]; rfl
        clear HTJ ht0
        rcases (show ¬ ((k : Int) < l.length) ∨ (k : Int) < l.length by omega) with g0 | g0
        · clear hgo2
          go_wp2_with (first | (go_at_call 17; (with_reducible refine (QW.out _ _ (by (repeat (first | exact Kept.refl _ | assumption | refine Kept.alloc ?_ _ | refine Kept.ext ?_ _ | refine Kept.drew ?_ | refine Kept.drewN ?_ _))) (TXH.out _ (by (repeat (first | exact Kept.refl _ | assumption | refine Kept.alloc ?_ _ | refine Kept.ext ?_ _ | refine Kept.drew ?_ | refine Kept.drewN ?_ _))))).mono ?_); rintro e w1 ⟨rfl, ⟨y1, rfl⟩⟩) | (go_at_call 8; (with_reducible refine (Q1.out _ (by (repeat (first | exact Kept.refl _ | assumption | refine Kept.alloc ?_ _ | refine Kept.ext ?_ _ | refine Kept.drew ?_ | refine Kept.drewN ?_ _)))).mono ?_); rintro e w2 ⟨A2, c2, rfl, ⟨y2, rfl⟩, t1, gc2⟩; have T1 := Lib.hid t1; clear t1) | (go_at_call 10; (with_reducible refine (Q2.out _ _ _ _ _ (T1.out.of (by (repeat (first | exact Kept.refl _ | assumption | refine Kept.alloc ?_ _ | refine Kept.ext ?_ _ | refine Kept.drew ?_ | refine Kept.drewN ?_ _)))) (TXH.out _ (by (repeat (first | exact Kept.refl _ | assumption | refine Kept.alloc ?_ _ | refine Kept.ext ?_ _ | refine Kept.drew ?_ | refine Kept.drewN ?_ _))))).mono ?_); rintro e w3 ⟨rfl, ⟨y3, rfl⟩⟩) | (go_at_call 8; (with_reducible refine (Q3.out _ (by (repeat (first | exact Kept.refl _ | assumption | refine Kept.alloc ?_ _ | refine Kept.ext ?_ _ | refine Kept.drew ?_ | refine Kept.drewN ?_ _)))).mono ?_); rintro e w4 ⟨A3, c3, rfl, ⟨y4, rfl⟩, t3⟩; have T3 := Lib.hid t3; clear t3) | (go_at_call 10; (with_reducible refine (Q4.out _ _ _ _ _ (T3.out.of (by (repeat (first | exact Kept.refl _ | assumption | refine Kept.alloc ?_ _ | refine Kept.ext ?_ _ | refine Kept.drew ?_ | refine Kept.drewN ?_ _)))) ((tx_take T1.out j).of (by (repeat (first | exact Kept.refl _ | assumption | refine Kept.alloc ?_ _ | refine Kept.ext ?_ _ | refine Kept.drew ?_ | refine Kept.drewN ?_ _))))).mono ?_); rintro e w5 ⟨rfl, ⟨y5, rfl⟩⟩) | (go_at_call 13; (with_reducible refine (Q5.out _ (by (repeat (first | exact Kept.refl _ | assumption | refine Kept.alloc ?_ _ | refine Kept.ext ?_ _ | refine Kept.drew ?_ | refine Kept.drewN ?_ _)))).mono ?_); rintro e w6 ⟨rfl, ⟨y6, rfl⟩⟩) | (go_at_call 7; (with_reducible refine (Q7.out _ (HKW.out.trans (by (repeat (first | exact Kept.refl _ | assumption | refine Kept.alloc ?_ _ | refine Kept.ext ?_ _ | refine Kept.drew ?_ | refine Kept.drewN ?_ _))))).mono ?_); rintro e w7 ⟨rfl, ⟨y7, rfl⟩⟩))
          go_ret
          exact ⟨rfl, HKW.out.trans (by (repeat (first | exact Kept.refl _ | assumption | refine Kept.alloc ?_ _ | refine Kept.ext ?_ _ | refine Kept.drew ?_ | refine Kept.drewN ?_ _)))⟩
        · have g1 := hgo2 g0
          clear hgo2
          go_wp2_with (first | (go_at_call 17; (with_reducible refine (QW.out _ _ (by (repeat (first | exact Kept.refl _ | assumption | refine Kept.alloc ?_ _ | refine Kept.ext ?_ _ | refine Kept.drew ?_ | refine Kept.drewN ?_ _))) (TXH.out _ (by (repeat (first | exact Kept.refl _ | assumption | refine Kept.alloc ?_ _ | refine Kept.ext ?_ _ | refine Kept.drew ?_ | refine Kept.drewN ?_ _))))).mono ?_); rintro e w1 ⟨rfl, ⟨y1, rfl⟩⟩) | (go_at_call 8; (with_reducible refine (Q1.out _ (by (repeat (first | exact Kept.refl _ | assumption | refine Kept.alloc ?_ _ | refine Kept.ext ?_ _ | refine Kept.drew ?_ | refine Kept.drewN ?_ _)))).mono ?_); rintro e w2 ⟨A2, c2, rfl, ⟨y2, rfl⟩, t1, gc2⟩; have T1 := Lib.hid t1; clear t1) | (go_at_call 10; (with_reducible refine (Q2.out _ _ _ _ _ (T1.out.of (by (repeat (first | exact Kept.refl _ | assumption | refine Kept.alloc ?_ _ | refine Kept.ext ?_ _ | refine Kept.drew ?_ | refine Kept.drewN ?_ _)))) (TXH.out _ (by (repeat (first | exact Kept.refl _ | assumption | refine Kept.alloc ?_ _ | refine Kept.ext ?_ _ | refine Kept.drew ?_ | refine Kept.drewN ?_ _))))).mono ?_); rintro e w3 ⟨rfl, ⟨y3, rfl⟩⟩) | (go_at_call 8; (with_reducible refine (Q3.out _ (by (repeat (first | exact Kept.refl _ | assumption | refine Kept.alloc ?_ _ | refine Kept.ext ?_ _ | refine Kept.drew ?_ | refine Kept.drewN ?_ _)))).mono ?_); rintro e w4 ⟨A3, c3, rfl, ⟨y4, rfl⟩, t3⟩; have T3 := Lib.hid t3; clear t3) | (go_at_call 10; (with_reducible refine (Q4.out _ _ _ _ _ (T3.out.of (by (repeat (first | exact Kept.refl _ | assumption | refine Kept.alloc ?_ _ | refine Kept.ext ?_ _ | refine Kept.drew ?_ | refine Kept.drewN ?_ _)))) ((tx_take T1.out j).of (by (repeat (first | exact Kept.refl _ | assumption | refine Kept.alloc ?_ _ | refine Kept.ext ?_ _ | refine Kept.drew ?_ | refine Kept.drewN ?_ _))))).mono ?_); rintro e w5 ⟨rfl, ⟨y5, rfl⟩⟩) | (go_at_call 13; (with_reducible refine (Q5.out _ (by (repeat (first | exact Kept.refl _ | assumption | refine Kept.alloc ?_ _ | refine Kept.ext ?_ _ | refine Kept.drew ?_ | refine Kept.drewN ?_ _)))).mono ?_); rintro e w6 ⟨rfl, ⟨y6, rfl⟩⟩) | (go_at_call 7; (with_reducible refine (Q7.out _ (HKW.out.trans (by (repeat (first | exact Kept.refl _ | assumption | refine Kept.alloc ?_ _ | refine Kept.ext ?_ _ | refine Kept.drew ?_ | refine Kept.drewN ?_ _))))).mono ?_); rintro e w7 ⟨rfl, ⟨y7, rfl⟩⟩))
          go_ret
          exact ⟨rfl, HKW.out.trans (by (repeat (first | exact Kept.refl _ | assumption | refine Kept.alloc ?_ _ | refine Kept.ext ?_ _ | refine Kept.drew ?_ | refine Kept.drewN ?_ _)))⟩
      · have gjl : (j : Int) < os.length := by
          have := HTJ.out.resolve_left ht0
          omega
        have hte : t.isEmpty = false := by
          cases t with
          | nil => exact absurd rfl ht0
          | cons x l => rfl
        clear HTJ ht0
        rcases (show ¬ ((k : Int) < l.length) ∨ (k : Int) < l.length by omega) with g0 | g0
        · clear hgo2
          go_wp2_with (first | (go_at_call 17; (with_reducible refine (QW.out _ _ (by (repeat (first | exact Kept.refl _ | assumption | refine Kept.alloc ?_ _ | refine Kept.ext ?_ _ | refine Kept.drew ?_ | refine Kept.drewN ?_ _))) (TXH.out _ (by (repeat (first | exact Kept.refl _ | assumption | refine Kept.alloc ?_ _ | refine Kept.ext ?_ _ | refine Kept.drew ?_ | refine Kept.drewN ?_ _))))).mono ?_); rintro e w1 ⟨rfl, ⟨y1, rfl⟩⟩) | (go_at_call 8; (with_reducible refine (Q1.out _ (by (repeat (first | exact Kept.refl _ | assumption | refine Kept.alloc ?_ _ | refine Kept.ext ?_ _ | refine Kept.drew ?_ | refine Kept.drewN ?_ _)))).mono ?_); rintro e w2 ⟨A2, c2, rfl, ⟨y2, rfl⟩, t1, gc2⟩; have T1 := Lib.hid t1; clear t1) | (go_at_call 10; (with_reducible refine (Q2.out _ _ _ _ _ (T1.out.of (by (repeat (first | exact Kept.refl _ | assumption | refine Kept.alloc ?_ _ | refine Kept.ext ?_ _ | refine Kept.drew ?_ | refine Kept.drewN ?_ _)))) (TXH.out _ (by (repeat (first | exact Kept.refl _ | assumption | refine Kept.alloc ?_ _ | refine Kept.ext ?_ _ | refine Kept.drew ?_ | refine Kept.drewN ?_ _))))).mono ?_); rintro e w3 ⟨rfl, ⟨y3, rfl⟩⟩) | (go_at_call 8; (with_reducible refine (Q3.out _ (by (repeat (first | exact Kept.refl _ | assumption | refine Kept.alloc ?_ _ | refine Kept.ext ?_ _ | refine Kept.drew ?_ | refine Kept.drewN ?_ _)))).mono ?_); rintro e w4 ⟨A3, c3, rfl, ⟨y4, rfl⟩, t3⟩; have T3 := Lib.hid t3; clear t3) | (go_at_call 10; (with_reducible refine (Q4.out _ _ _ _ _ (T3.out.of (by (repeat (first | exact Kept.refl _ | assumption | refine Kept.alloc ?_ _ | refine Kept.ext ?_ _ | refine Kept.drew ?_ | refine Kept.drewN ?_ _)))) ((tx_take T1.out j).of (by (repeat (first | exact Kept.refl _ | assumption | refine Kept.alloc ?_ _ | refine Kept.ext ?_ _ | refine Kept.drew ?_ | refine Kept.drewN ?_ _))))).mono ?_); rintro e w5 ⟨rfl, ⟨y5, rfl⟩⟩) | (go_at_call 13; (with_reducible refine (Q5.out _ (by (repeat (first | exact Kept.refl _ | assumption | refine Kept.alloc ?_ _ | refine Kept.ext ?_ _ | refine Kept.drew ?_ | refine Kept.drewN ?_ _)))).mono ?_); rintro e w6 ⟨rfl, ⟨y6, rfl⟩⟩) | (go_at_call 7; (with_reducible refine (Q7.out _ (HKW.out.trans (by (repeat (first | exact Kept.refl _ | assumption | refine Kept.alloc ?_ _ | refine Kept.ext ?_ _ | refine Kept.drew ?_ | refine Kept.drewN ?_ _))))).mono ?_); rintro e w7 ⟨rfl, ⟨y7, rfl⟩⟩))
          go_ret
          exact ⟨rfl, HKW.out.trans (by (repeat (first | exact Kept.refl _ | assumption | refine Kept.alloc ?_ _ | refine Kept.ext ?_ _ | refine Kept.drew ?_ | refine Kept.drewN ?_ _)))⟩
        · have g1 := hgo2 g0
          clear hgo2
          go_wp2_with (first | (go_at_call 17; (with_reducible refine (QW.out _ _ (by (repeat (first | exact Kept.refl _ | assumption | refine Kept.alloc ?_ _ | refine Kept.ext ?_ _ | refine Kept.drew ?_ | refine Kept.drewN ?_ _))) (TXH.out _ (by (repeat (first | exact Kept.refl _ | assumption | refine Kept.alloc ?_ _ | refine Kept.ext ?_ _ | refine Kept.drew ?_ | refine Kept.drewN ?_ _))))).mono ?_); rintro e w1 ⟨rfl, ⟨y1, rfl⟩⟩) | (go_at_call 8; (with_reducible refine (Q1.out _ (by (repeat (first | exact Kept.refl _ | assumption | refine Kept.alloc ?_ _ | refine Kept.ext ?_ _ | refine Kept.drew ?_ | refine Kept.drewN ?_ _)))).mono ?_); rintro e w2 ⟨A2, c2, rfl, ⟨y2, rfl⟩, t1, gc2⟩; have T1 := Lib.hid t1; clear t1) | (go_at_call 10; (with_reducible refine (Q2.out _ _ _ _ _ (T1.out.of (by (repeat (first | exact Kept.refl _ | assumption | refine Kept.alloc ?_ _ | refine Kept.ext ?_ _ | refine Kept.drew ?_ | refine Kept.drewN ?_ _)))) (TXH.out _ (by (repeat (first | exact Kept.refl _ | assumption | refine Kept.alloc ?_ _ | refine Kept.ext ?_ _ | refine Kept.drew ?_ | refine Kept.drewN ?_ _))))).mono ?_); rintro e w3 ⟨rfl, ⟨y3, rfl⟩⟩) | (go_at_call 8; (with_reducible refine (Q3.out _ (by (repeat (first | exact Kept.refl _ | assumption | refine Kept.alloc ?_ _ | refine Kept.ext ?_ _ | refine Kept.drew ?_ | refine Kept.drewN ?_ _)))).mono ?_); rintro e w4 ⟨A3, c3, rfl, ⟨y4, rfl⟩, t3⟩; have T3 := Lib.hid t3; clear t3) | (go_at_call 10; (with_reducible refine (Q4.out _ _ _ _ _ (T3.out.of (by (repeat (first | exact Kept.refl _ | assumption | refine Kept.alloc ?_ _ | refine Kept.ext ?_ _ | refine Kept.drew ?_ | refine Kept.drewN ?_ _)))) ((tx_take T1.out j).of (by (repeat (first | exact Kept.refl _ | assumption | refine Kept.alloc ?_ _ | refine Kept.ext ?_ _ | refine Kept.drew ?_ | refine Kept.drewN ?_ _))))).mono ?_); rintro e w5 ⟨rfl, ⟨y5, rfl⟩⟩) | (go_at_call 13; (with_reducible refine (Q5.out _ (by (repeat (first | exact Kept.refl _ | assumption | refine Kept.alloc ?_ _ | refine Kept.ext ?_ _ | refine Kept.drew ?_ | refine Kept.drewN ?_ _)))).mono ?_); rintro e w6 ⟨rfl, ⟨y6, rfl⟩⟩) | (go_at_call 7; (with_reducible refine (Q7.out _ (HKW.out.trans (by (repeat (first | exact Kept.refl _ | assumption | refine Kept.alloc ?_ _ | refine Kept.ext ?_ _ | refine Kept.drew ?_ | refine Kept.drewN ?_ _))))).mono ?_); rintro e w7 ⟨rfl, ⟨y7, rfl⟩⟩))
          go_ret
          exact ⟨rfl, HKW.out.trans (by (repeat (first | exact Kept.refl _ | assumption | refine Kept.alloc ?_ _ | refine Kept.ext ?_ _ | refine Kept.drew ?_ | refine Kept.drewN ?_ _)))⟩
theorem ownDeskCrashes : ownKnob Tryz.prog.godebug = none := by kernel_rfl
theorem laidOutDeskCrashes : laidOutB Tryz.prog = true := by kernel_rfl
set_option linter.unusedVariables false in
set_option maxRecDepth 100000 in
theorem liftedDeskCrashes (os : Os) (started : os.Started) (H : Type) (enc : TypeId × Value → H) :
    ReturnsInHanded {} Tryz.checked os 5 .any (fun w args => (Rows.deskCrashesSpec.pre enc Tryz.prog Tryz.f5 [] false w args ∧ laidMetH Tryz.prog laidAll w) ∧ sizedMet enc Tryz.prog Tryz.f5 (OpenSpec.ofChange Rows.deskCrashesSpec) false w args) (Rows.deskCrashesSpec.post enc Tryz.prog Tryz.f5 false true false false) := by
  refine returns_laid_shaped (C := Tryz.checked) (X := fun w _ => laidMetH Tryz.prog laidAll w) (fun _ _ _ hh h => h.of_heap hh) ownDeskCrashes started (by kernel_rfl) Tryz.func5
    (ChangeSpec.witness_shaped (enc := enc) (C := Tryz.checked) (os := os) (X := fun w _ => laidMetH Tryz.prog laidAll w) false (laidW os) #[.slice none 0 0, .int .i64 0] 8 (laidW_os _) (World.shaped_of_ZipB (by kernel_rfl) (by kernel_rfl)) (by kernel_rfl) (by kernel_rfl) (by kernel_rfl) (door_met os _)) ?_
  intro W base args ds gs before hval0 hW hL hsh
  have hval : ∀ (j : Nat) t v, Tryz.f5.params[j]? = some t → args[j]? = some v → Value.okWide Tryz.prog W .any base t v := hval0
  have hW' := hW
  obtain ⟨p, q, hA0, hV, rfl, hfz, hnd⟩ := hW
  have hA : DataW.TrodAll enc Tryz.prog W 0 (fun _ => true) true Tryz.f5.params.toList args.toList ds p := hA0
  rw [Tryz.params5] at hA hval
  obtain ⟨v0, vs0, d0, ds0, p0, q0, hargs, rfl, rfl, h0, r0⟩ := trodAll_cons hA
  obtain ⟨v1, vs1, d1, ds1, p1, q1, rfl, rfl, rfl, h1, r1⟩ := trodAll_cons r0
  obtain ⟨rfl, rfl, rfl⟩ := trodAll_nil r1
  obtain rfl : args = #[v0, v1] := by cases args; simp_all
  obtain ⟨rfl, rfl⟩ := trodVars_none hV
  have lt0 : ∀ x ∈ p0, x.block < W.heap.size := by obtain ⟨m, hm⟩ := h0; exact DataW.trod_lt m _ _ _ hm
  obtain ⟨A0, l0, cap0, rfl, hl0, hm0, ho0, ht0⟩ := open_texts Tryz.underlying23 Tryz.underlying9 (by kernel_rfl) (hval 0 23 v0 rfl rfl) h0 lt0
  have lt1 : ∀ x ∈ p1, x.block < W.heap.size := by obtain ⟨m, hm⟩ := h1; exact DataW.trod_lt m _ _ _ hm
  obtain ⟨z1, rfl, b1⟩ := okWide_int_bd Tryz.underlying3 (hval 1 3 v1 rfl rfl)
  clear hA0 hval0
  refine (law_crashes A0 l0 cap0 z1 W ⟨Nat.le_trans hl0 hm0, ho0, ht0⟩ (Le.of hL hsh)).mono fun e W' ⟨he, hk⟩ => ?_
  subst he
  have bel := hk.below
  exact ⟨_, rfl, _, _, _, [], _, [], hW', trodAll_mk1 (shut_bool Tryz.underlying4 _), (trodAll_cons_mk (Below.trod laidOutDeskCrashes (by kernel_rfl) (of_decide_eq_true (by kernel_rfl)) h0 bel lt0) (trodAll_cons_mk (Below.trod laidOutDeskCrashes (by kernel_rfl) (of_decide_eq_true (by kernel_rfl)) h1 bel lt1) trodAll_mk0)), rfl, bel.frame _, fun h => by cases h⟩
/-- For every input the statement DeskCrashes returns true, and each argument reads afterwards as it read before. -/
theorem deskCrashes_row : Rows.DeskCrashesSaid :=
  OpenClaim.holds_of_wide 5 Tryz.f5 rfl rfl rfl rfl rfl rfl rfl ⟨rfl, rfl, rfl, rfl, rfl⟩ rfl rfl rfl rfl rfl (by kernel_rfl) Tryz.func5 (by kernel_rfl)
    (of_decide_eq_true (by kernel_rfl)) (by unfold Func.isWrapper; first | (rw [if_pos (by decide +kernel)]; kernel_rfl) | (rw [if_neg (by decide +kernel)]; exact ⟨rfl, rfl⟩))
    (fun os started H enc _ => liftedDeskCrashes os started H enc)
/-- The tied card. -/
theorem deskCrashes_holds : Rows.DeskCrashesCardSaid :=
  Claim7.holds_tied_plain_at .later [] [.data, .data, .data, .data, .handle, .sentinel, .sentinel, .pinned] true (true, "1ff6fe80ec914efd9fed37873af82cd56aa16feb64cb5f90eb9320f7972205ee") true
    deskCrashes_row (fun _ h => by cases h) (by kernel_rfl) (fun _ h => by cases h) deskCrashes_row_tie rfl ⟨rfl, rfl⟩ (by kernel_rfl) rfl
    (fun f fn hf hfn => by
      obtain rfl : f = 5 := Option.some.inj ((show Tryz.prog.funcNamed "facet/facetlaw09.DeskCrashes" = some 5 by kernel_rfl).symm.trans hf) |>.symm
      obtain rfl : fn = Tryz.f5 := (Option.some.inj (Tryz.func5.symm.trans hfn)).symm
      exact ⟨by kernel_rfl, fun j t ht => by
        rw [Tryz.params5] at ht
        have h3 : t = 23 ∨ t = 3 := by
          rcases j with _ | _ | j
          · left; simpa using ht.symm
          · right; simpa using ht.symm
          · simp at ht
        rcases h3 with rfl | rfl
        · exact (show Tryz.prog.wantsStandIn 23 = false by kernel_rfl)
        · exact (show Tryz.prog.wantsStandIn 3 = false by kernel_rfl)⟩)
    (by kernel_rfl)
#print axioms deskCrashes_holds

end Go.Proofs.YtejholcddinnfaaGreatDoor

