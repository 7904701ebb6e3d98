/- Contract: an element of a skeleton, of the program. Conditions: the choice is one of the matrix and its minor isn't 0. -/
import Derived.Test.YtoejdfpmmgldpaaOwr
namespace Go.Proofs.Ytoejdfpmmgldpaa
set_option linter.unusedVariables false
set_option linter.unusedSimpArgs false
open Go.RowKit Go.Deep
/-- The numerator and the denominator of an element of a skeleton. -/
def kpF (f : Nat → Nat → Int) (l : Nat) (R C : Nat → Nat → Int) (d : Int) (i j c : Nat) : Int := if c = 0 then f i j * frD (leftV f l R C i j) d - frN (leftV f l R C i j) d else frD (leftV f l R C i j) d
theorem frD_le {n d b : Int} (hd : d ≠ 0) (hb : -b ≤ d ∧ d ≤ b) : frD n d ≤ b := by
  have : frD n d ≤ (d.natAbs : Int) := by
    unfold frD
    exact Int.ediv_le_self _ (by omega)
  omega
set_option maxRecDepth 100000 in
set_option maxHeartbeats 8000000 in
theorem ckept_any (A : Option Addr) (n cap : Nat) (B : Nat → Option Addr) (m cp : Nat → Nat) (f : Nat → Nat → Int) (RA : Option Addr) (l rc : Nat) (R : Nat → Nat → Int) (CA : Option Addr) (cc : Nat) (C : Nat → Nat → Int) (mn : Int) (i j : Nat) (w : World)
    (hk : Mok n m f l R C) (hs : setB n l R = true) (hmn : mn ≠ 0 ∧ -720000000000000 ≤ mn ∧ mn ≤ 720000000000000) (hi : i < n) (hj : j < m 0) (h : MatAt w A n B m cp f) (hR : RowsAt w RA l 1 R) (hC : RowsAt w CA l 1 C) :
    Calls Try.prog 87 #[.agg #[.slice A n cap, .slice RA l rc, .slice CA l cc, .int .i64 mn], .int .i64 i, .int .i64 j] w fun e w' => e = .returned (.agg #[.int .i64 (kpF f l R C mn i j 0), .int .i64 (kpF f l R C mn i j 1)]) ∧ Kept w w' := by
  have hff := hk.hf i hi j hj
  have hmm := hk.hm i hi
  obtain ⟨n1, n6⟩ := hk.n1
  obtain ⟨m1, m6⟩ := hk.m1
  have hlb := leftV_bd (i := (i : Int)) (j := (j : Int)) hk hs ⟨by omega, by omega⟩ ⟨by omega, by omega⟩
  have hlf : ∀ w', Kept w w' → Calls Try.prog 56 #[.agg #[.slice A n cap, .slice RA l rc, .slice CA l cc, .int .i64 mn], .int .i64 i, .int .i64 j] w' fun e w'' => e = .returned (.int .i64 (leftV f l R C i j)) ∧ Kept w' w'' := fun w' hkw =>
    cleft_any A n cap B m cp f RA l rc R CA cc C mn i j w' hk hs (by omega) (by omega) (h.of hkw) (hR.of hkw) (hC.of hkw)
  obtain ⟨ab, ao, rfl, hab, c1⟩ := h.at hi
  obtain ⟨bb, bo, hB, hbb, c2, i2⟩ := rows1 (k := j) (h.el i hi) (by omega)
  rw [hB, hmm] at c1
  have LA : Lower ab w.heap.size := ⟨hab⟩
  have LB : Lower bb w.heap.size := ⟨hbb⟩
  have h0 : kpF f l R C mn i j 0 = f i j * frD (leftV f l R C i j) mn - frN (leftV f l R C i j) mn := rfl
  have h1 : kpF f l R C mn i j 1 = frD (leftV f l R C i j) mn := rfl
  rw [h0, h1]
  obtain ⟨lv, hlv⟩ : ∃ x, leftV f l R C i j = x := ⟨_, rfl⟩
  rw [hlv] at hlb hlf ⊢
  have hnb := frN_bd (n := lv) (b := 720000000000000) hlb hmn.1
  have hdp := frD_pos (n := lv) hmn.1
  have hdl := frD_le (n := lv) hmn.1 hmn.2
  have hfr : ∀ w', Calls Try.prog 55 #[.int .i64 lv, .int .i64 mn] w' fun e w'' => e = .returned (.agg #[.int .i64 (frN lv mn), .int .i64 (frD lv mn)]) ∧ Kept w' w'' := fun w' => fraction_any lv mn w' (by omega) (by omega)
  obtain ⟨fn, hfn⟩ : ∃ x, frN lv mn = x := ⟨_, rfl⟩
  obtain ⟨fd, hfd⟩ : ∃ x, frD lv mn = x := ⟨_, rfl⟩
  rw [hfn] at hnb hfr ⊢
  rw [hfd] at hdp hdl hfr ⊢
  have hmb := mul_abs (c := 100) (d := 720000000000000) (a := f i j) (b := fd) hff (by omega) (by decide) (by decide)
  obtain ⟨pf, hpf⟩ : ∃ x, f i j * fd = x := ⟨_, rfl⟩
  rw [hpf] at hmb ⊢
  have HLF := Lib.hid hlf
  have HFR := Lib.hid hfr
  have q1 : j < m 0 := hj
  clear hk hs h hR hC hlf hfr hlv hfn hfd h0 h1 hmm hff
  go_enter Try.func87, Try.ntmps87
  go_wp2_with fail
  have hFr : frsB [.q, .q, .q, .q, .q, .q, .q, .s, .s] [⟨7, 8, 32, #[.int .i64 0, .int .i64 0], #[.int .i64 fn, .int .i64 fd]⟩] = true := by kernel_rfl
  refine wp_region_frs _ _ (by kernel_rfl) (by kernel_rfl) hFr (fun b => by kernel_rfl) ?_
  apply Exists.intro
  refine ⟨?_, ?_, ?_, ?_⟩
  · rintro b' W ⟨yy, rfl⟩
    simp only [swapL, Nat.reduceAdd]
    repeat (go_big_quiet_step (first | (go_at_call 56; exact Calls.kept_of (HLF.out _ (by (repeat (first | exact Kept.refl _ | assumption | refine Kept.alloc ?_ _ | refine Kept.ext ?_ _ | refine Kept.drew ?_ | refine Kept.drewN ?_ _))))) | (go_at_call 55; exact Calls.kept_of (HFR.out _))))
    refine wpQuiet_nil ?_
    rfl
  · simp only [EachS, and_true]
    refine ⟨?_, ?_⟩
    · exact fun L b' w' hd hL hI => FI.tells_alloc hFr 0 rfl hI hL (by go_simp)
    · exact fun L b' w' hd hL hI => FI.tells_store hFr 0 rfl hI hL (hd { on := 7, ground := .data } (by simp) rfl) 32 (.tmp 7) (.tmp 14) rfl rfl rfl (by kernel_rfl) rfl (by kernel_rfl)
  · intro b1 b2 d hd
    simp [callSlots, dullOp] at hd
    rcases hd with rfl | rfl <;> rfl
  · intro L b' w' hL hI
    obtain ⟨g, e0, l0, h0⟩ := hI.ends 0 rfl (hL 7 (by decide)) (hL 8 (by decide))
    have e0' : b' 7 = _ := e0
    clear hFr e0
    obtain ⟨z, rfl⟩ := hI.kept
    clear hI hL
    obtain ⟨i0, rfl, -, t0, d0, f0⟩ := late_at h0 l0
    have d00 := d0 0
    have d01 := d0 1
    have f00 := f0 0
    have f01 := f0 1
    simp only [List.getElem?_toArray, List.getElem?_cons_zero, List.getElem?_cons_succ] at d00 d01
    clear h0 l0 d0 f0
    simp only [e0']
    clear e0'
    go_wp2_with fail
    (refine wp_region_tail 17 (by kernel_rfl) (by kernel_rfl) ?_; simp only [List.take_succ_cons, List.take_zero, List.drop_succ_cons, List.drop_zero]; (repeat (go_big_quiet_step (fail))); refine wpQuiet_nil ?_; intro x3)
    go_wp2_with fail
    refine bodyPost_ret (by simp only [results, Try.results87]; go_simp; rfl) rfl ?_
    exact ⟨rfl, by (repeat (first | exact Kept.refl _ | assumption | refine Kept.alloc ?_ _ | refine Kept.ext ?_ _ | refine Kept.drew ?_ | refine Kept.drewN ?_ _))⟩
end Go.Proofs.Ytoejdfpmmgldpaa
