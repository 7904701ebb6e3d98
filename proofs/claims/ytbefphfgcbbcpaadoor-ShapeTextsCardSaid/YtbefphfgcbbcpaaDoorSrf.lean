/- Contract: the text of a mesh, of the reference. Conditions: the lists' lengths are ints. -/
import Derived.Test.YtbefphfgcbbcpaaDoorSf4
import Derived.Test.YtbefphfgcbbcpaaDoorDg
namespace Go.Proofs.YtbefphfgcbbcpaaDoor
set_option linter.unusedVariables false
set_option linter.unusedSimpArgs false
open Go.ChangeShapes Go.WideShapes Go.ChangeAt Go.RowKit Go.Deep
theorem ln_cat (t wd : List UInt8) (a b c : List UInt8) : (⟨t.toArray⟩ : ByteArray) ++ ⟨(wd ++ [32]).toArray⟩ ++ ⟨a.toArray⟩ ++ ⟨#[32]⟩ ++ ⟨b.toArray⟩ ++ ⟨#[32]⟩ ++ ⟨c.toArray⟩ ++ ⟨#[10]⟩ = ⟨(t ++ (wd ++ 32 :: (a ++ 32 :: (b ++ 32 :: c)) ++ [10])).toArray⟩ := by
  rw [show (#[32] : Array UInt8) = [32].toArray from rfl, show (#[10] : Array UInt8) = [10].toArray from rfl]
  simp only [ba_app]
  simp
set_option maxRecDepth 100000 in
set_option maxHeartbeats 16000000 in
theorem r2Fmt_any (A B : Option Addr) (n cap m cap2 : Nat) (P F : Nat → Nat → Int) (w : World) (hn : n ≤ 9223372036854775807 ∧ m ≤ 9223372036854775807) (hP : RowsAt w A n 3 P) (hF : RowsAt w B m 3 F) :
    Calls Tryd.prog 8 #[.agg #[.slice A n cap, .slice B m cap2]] w fun e w' => e = .returned (.tuple #[.string ⟨(if validE n P m F = 0 then gfmt n P m F else []).toArray⟩, .int .i64 (validE n P m F)]) ∧ Kept w w' := by
  have HP := Lib.hid hP
  have HF := Lib.hid hF
  clear hP hF
  by_cases hv : validE n P m F = 0
  · obtain ⟨⟨k1, k2, k3⟩, k4, k5⟩ := valid_in hv
    have HV := Lib.hid hv
    have H4 := Lib.hid k4
    have H5 := Lib.hid k5
    clear hv k4 k5
    go_enter Tryd.func8, Tryd.ntmps8
    go_wp2_with (go_at_call 23; refine (r2validate_any _ _ _ _ _ _ P F _ hn (HP.out.of (by (repeat (first | exact Kept.refl _ | assumption | refine Kept.alloc ?_ _ | refine Kept.ext ?_ _ | refine Kept.drew ?_ | refine Kept.drewN ?_ _)))) (HF.out.of (by (repeat (first | exact Kept.refl _ | assumption | refine Kept.alloc ?_ _ | refine Kept.ext ?_ _ | refine Kept.drew ?_ | refine Kept.drewN ?_ _))))).mono ?_; rintro e w1 ⟨rfl, x0, rfl⟩; rw [HV.out])
    go_loopw [5, 6] (fun s i wr => ∃ r : Nat, r ≤ n ∧ i = .int .i64 r ∧ s = .string ⟨(flat (lns pW P r)).toArray⟩ ∧ Kept (ext (w.alloc (.cells #[.slice A n cap, .slice B m cap2] 25)) x0) wr) (fun _ i _ => n - (intOf i).toNat)
    case atStart => exact ⟨0, by omega, rfl, rfl, by (repeat (first | exact Kept.refl _ | assumption | refine Kept.alloc ?_ _ | refine Kept.ext ?_ _ | refine Kept.drew ?_ | refine Kept.drewN ?_ _))⟩
    case round =>
      obtain ⟨r, hr, rfl, rfl, hk⟩ := hrel
      have hk0 : Kept w wr := (by (repeat (first | exact Kept.refl _ | assumption | refine Kept.alloc ?_ _ | refine Kept.ext ?_ _ | refine Kept.drew ?_ | refine Kept.drewN ?_ _)) : Kept w (ext (w.alloc (.cells #[.slice A n cap, .slice B m cap2] 25)) x0)).trans hk
      have kb0 : wr.cell? ⟨w.heap.size, 0, none⟩ = some (.slice A n cap) := kept_cell (w := (w.alloc (.cells #[.slice A n cap, .slice B m cap2] 25))) (by go_simp) ((by (repeat (first | exact Kept.refl _ | assumption | refine Kept.alloc ?_ _ | refine Kept.ext ?_ _ | refine Kept.drew ?_ | refine Kept.drewN ?_ _)) : Kept (w.alloc (.cells #[.slice A n cap, .slice B m cap2] 25)) (ext (w.alloc (.cells #[.slice A n cap, .slice B m cap2] 25)) x0)).trans hk)
      have kb1 : wr.cell? ⟨w.heap.size, 1, none⟩ = some (.slice B m cap2) := kept_cell (w := (w.alloc (.cells #[.slice A n cap, .slice B m cap2] 25))) (by go_simp) ((by (repeat (first | exact Kept.refl _ | assumption | refine Kept.alloc ?_ _ | refine Kept.ext ?_ _ | refine Kept.drew ?_ | refine Kept.drewN ?_ _)) : Kept (w.alloc (.cells #[.slice A n cap, .slice B m cap2] 25)) (ext (w.alloc (.cells #[.slice A n cap, .slice B m cap2] 25)) x0)).trans hk)
      have LBX : Lower w.heap.size wr.heap.size := ⟨cell_lt kb0⟩
      have FL : (flat (lns pW P r)).length ≤ 10000 := by
        have := flat_len (lns_short (wd := pW) (by decide) hr H4.out)
        rw [lns_len] at this
        omega
      by_cases hlt : r < n
      · have g0 : decide ((r : Int) < n) = true := decide_eq_true (by omega)
        obtain ⟨b, off, rfl, hb, f0, f1, f2⟩ := rows3 ((HP.out.of hk0)) hlt
        have LB : Lower b wr.heap.size := ⟨hb⟩
        have l0 := itoa_short (H4.out r hlt 0 (by omega))
        have l1 := itoa_short (H4.out r hlt 1 (by omega))
        have l2 := itoa_short (H4.out r hlt 2 (by omega))
        have HK := Lib.hid hk
        have b0 := H4.out r hlt 0 (by omega)
        have b1 := H4.out r hlt 1 (by omega)
        have b2 := H4.out r hlt 2 (by omega)
        clear hb hk hk0
        go_wp2_with fail
        ((first | (with_reducible refine wp_region_kept2 (by kernel_rfl) (by kernel_rfl) ?_) | refine wp_region_kept (by kernel_rfl) (by kernel_rfl) ?_); (repeat (go_big_quiet_step (first | (go_at_call 24; exact Calls.kept_of (r1dig_any _ _ (by omega)))))); refine wpQuiet_nil ?_; intro x5)
        go_wp2_with fail
        go_roundw
        case rel =>
          refine ⟨r + 1, by omega, by go_num, ?_, HK.out.trans (by (repeat (first | exact Kept.refl _ | assumption | refine Kept.alloc ?_ _ | refine Kept.ext ?_ _ | refine Kept.drew ?_ | refine Kept.drewN ?_ _)))⟩
          rw [flat_step]
          exact congrArg Value.string (ln_cat (flat (lns pW P r)) pW (Lib.itoa (P r 0)) (Lib.itoa (P r 1)) (Lib.itoa (P r 2)))
        case measure => simp [intOf]; omega
      · obtain rfl : r = n := by omega
        have g0 : decide ((r : Int) < r) = false := decide_eq_false (by omega)
        have HK := Lib.hid hk
        clear hk hk0 hlt
        go_wp2_with fail
        have FL0 := FL
        go_loopw [5, 8] (fun s i wr => ∃ q : Nat, q ≤ m ∧ i = .int .i64 q ∧ s = .string ⟨(flat (lns pW P r ++ lns fW F q)).toArray⟩ ∧ Kept (ext (w.alloc (.cells #[.slice A r cap, .slice B m cap2] 25)) x0) wr) (fun _ i _ => m - (intOf i).toNat)
        case atStart => exact ⟨0, by omega, rfl, by rw [show lns fW F 0 = [] from rfl, List.append_nil], HK.out⟩
        case round =>
          clear kb0 kb1 LBX HK
          obtain ⟨q, hq, rfl, rfl, hk⟩ := hrel
          have hk0 : Kept w wr := (by (repeat (first | exact Kept.refl _ | assumption | refine Kept.alloc ?_ _ | refine Kept.ext ?_ _ | refine Kept.drew ?_ | refine Kept.drewN ?_ _)) : Kept w (ext (w.alloc (.cells #[.slice A r cap, .slice B m cap2] 25)) x0)).trans hk
          have kb1 : wr.cell? ⟨w.heap.size, 1, none⟩ = some (.slice B m cap2) := kept_cell (w := (w.alloc (.cells #[.slice A r cap, .slice B m cap2] 25))) (by go_simp) ((by (repeat (first | exact Kept.refl _ | assumption | refine Kept.alloc ?_ _ | refine Kept.ext ?_ _ | refine Kept.drew ?_ | refine Kept.drewN ?_ _)) : Kept (w.alloc (.cells #[.slice A r cap, .slice B m cap2] 25)) (ext (w.alloc (.cells #[.slice A r cap, .slice B m cap2] 25)) x0)).trans hk)
          have LBX : Lower w.heap.size wr.heap.size := ⟨cell_lt kb1⟩
          have FL2 : (flat (lns pW P r ++ lns fW F q)).length ≤ 10000 := by
            have e1 := flat_len (lns_short (wd := pW) (by decide) (Nat.le_refl r) H4.out)
            have e2 := flat_len (lns_short (wd := fW) (P := F) (by decide) hq (fun i hi j hj => by have := H5.out i hi j hj; omega))
            rw [lns_len] at e1 e2
            rw [flat_app, List.length_append]
            omega
          have HK := Lib.hid hk
          clear hk FL FL0
          by_cases hlt : q < m
          · have g1 : decide ((q : Int) < m) = true := decide_eq_true (by omega)
            obtain ⟨b, off, rfl, hb, f0, f1, f2⟩ := rows3 ((HF.out.of hk0)) hlt
            have LB : Lower b wr.heap.size := ⟨hb⟩
            have b0 := H5.out q hlt 0 (by omega)
            have b1 := H5.out q hlt 1 (by omega)
            have b2 := H5.out q hlt 2 (by omega)
            have l0 := itoa_short (v := F q 0) (by omega)
            have l1 := itoa_short (v := F q 1) (by omega)
            have l2 := itoa_short (v := F q 2) (by omega)
            clear hb hk0
            go_wp2_with fail
            ((first | (with_reducible refine wp_region_kept2 (by kernel_rfl) (by kernel_rfl) ?_) | refine wp_region_kept (by kernel_rfl) (by kernel_rfl) ?_); (repeat (go_big_quiet_step (first | (go_at_call 24; exact Calls.kept_of (r1dig_any _ _ (by omega)))))); refine wpQuiet_nil ?_; intro x5)
            go_wp2_with fail
            go_roundw
            case rel =>
              refine ⟨q + 1, by omega, by go_num, ?_, HK.out.trans (by (repeat (first | exact Kept.refl _ | assumption | refine Kept.alloc ?_ _ | refine Kept.ext ?_ _ | refine Kept.drew ?_ | refine Kept.drewN ?_ _)))⟩
              rw [show flat (lns pW P r ++ lns fW F (q + 1)) = flat (lns pW P r ++ lns fW F q) ++ (lnL fW (F q 0) (F q 1) (F q 2) ++ [10]) by rw [flat_app, flat_step, ← List.append_assoc, ← flat_app]]
              exact congrArg Value.string (ln_cat (flat (lns pW P r ++ lns fW F q)) fW (Lib.itoa (F q 0)) (Lib.itoa (F q 1)) (Lib.itoa (F q 2)))
            case measure => simp [intOf]; omega
          · obtain rfl : q = m := by omega
            have g1 : decide ((q : Int) < q) = false := decide_eq_false (by omega)
            clear hlt hk0
            go_wp2_with fail
            refine bodyPost_ret (by simp only [results, Tryd.results8]; go_simp; rfl) rfl ?_
            all_goals first | exact absurd HV.out (by assumption) | skip
            exact ⟨rfl, (by (repeat (first | exact Kept.refl _ | assumption | refine Kept.alloc ?_ _ | refine Kept.ext ?_ _ | refine Kept.drew ?_ | refine Kept.drewN ?_ _)) : Kept w (ext (w.alloc (.cells #[.slice A r cap, .slice B q cap2] 25)) x0)).trans HK.out⟩
  · obtain ⟨e, he⟩ : ∃ e, validE n P m F = e := ⟨_, rfl⟩
    rw [he] at hv
    have HV := Lib.hid he
    clear he
    have hv2 : (e == 0) = false := by simpa using hv
    have hv3 : decide (e = 0) = false := by simpa using hv
    go_enter Tryd.func8, Tryd.ntmps8
    go_wp2_with (go_at_call 23; refine (r2validate_any _ _ _ _ _ _ P F _ hn (HP.out.of (by (repeat (first | exact Kept.refl _ | assumption | refine Kept.alloc ?_ _ | refine Kept.ext ?_ _ | refine Kept.drew ?_ | refine Kept.drewN ?_ _)))) (HF.out.of (by (repeat (first | exact Kept.refl _ | assumption | refine Kept.alloc ?_ _ | refine Kept.ext ?_ _ | refine Kept.drew ?_ | refine Kept.drewN ?_ _))))).mono ?_; rintro e w1 ⟨rfl, x0, rfl⟩; rw [HV.out])
    · rename_i h
      exact absurd (HV.out.symm.trans h) hv
    · refine bodyPost_ret (by simp only [results, Tryd.results8]; go_simp; rfl) rfl ?_
      rw [HV.out]
      exact ⟨rfl, by (repeat (first | exact Kept.refl _ | assumption | refine Kept.alloc ?_ _ | refine Kept.ext ?_ _ | refine Kept.drew ?_ | refine Kept.drewN ?_ _))⟩
end Go.Proofs.YtbefphfgcbbcpaaDoor
