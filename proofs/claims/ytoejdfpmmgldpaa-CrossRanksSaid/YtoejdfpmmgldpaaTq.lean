/- Contract: the transposed matrix in new memory, of the program. Conditions: the number of rows is an int. Contract: the transposed matrix in new memory, of the program. Conditions: the number of rows is an int. The residual of the transposed matrix: plain facts; a matrix of the call's own can be read. No conditions but those of each theorem. -/
import Derived.Test.YtoejdfpmmgldpaaLg
namespace Go.Proofs.Ytoejdfpmmgldpaa
set_option linter.unusedVariables false
set_option linter.unusedSimpArgs false
open Go.RowKit Go.Deep
/-- Row j of a matrix of the call's own while an element is appended to it: load 5, list 13, append 14, store 16. -/
structure TrI (W : World) (base g N : Nat) (V : Nat → Value) (L : Nat → Nat) (f : Nat → Nat → Int) (j : Nat) (x : Int) (S : Nat → Bool) (b : Nat → Value) (w' : World) : Prop where
  kept : Kept W w'
  pre : S 14 = false → OwnM W base g N V L f w'
  new : S 13 = true → S 14 = false → w'.ownsRow base 3 1 (b 13) 1 [.int .i64 x]
  mid : S 14 = true → S 16 = false → w'.ownsRow base 23 1 (.slice (some ⟨g, 0, none⟩) N N) N ((List.range N).map V) ∧ (∀ i, i < N → i ≠ j → w'.ownsRow base 3 1 (V i) (L i) (rowC 1 (fun q _ => f i q) (L i))) ∧
    w'.ownsRow base 3 1 (b 14) (L j + 1) (rowC 1 (fun q _ => if q < L j then f j q else x) (L j + 1)) ∧ (∀ i, i < N → i ≠ j → ((b 14).ownBlock = none ∨ (b 14).ownBlock ≠ (V i).ownBlock) ∧ ((V i).ownBlock = none ∨ (V i).ownBlock ≠ (b 14).ownBlock)) ∧ (∀ i k, i < N → k < N → i ≠ k → (V i).ownBlock = none ∨ (V i).ownBlock ≠ (V k).ownBlock)
  a5 : S 14 = true → S 5 = true ∧ S 13 = true
  a16 : S 16 = true → S 14 = true
  fin : S 16 = true → OwnM W base g N (fun i => if i = j then b 14 else V i) (fun i => if i = j then L j + 1 else L i) (fun i => if i = j then fun q => if q < L j then f j q else x else f i) w'
section
variable {W w' w'' : World} {base g N j : Nat} {V : Nat → Value} {L : Nat → Nat} {f : Nat → Nat → Int} {x : Int} {S : Nat → Bool} {b : Nat → Value}
theorem TrI.start (h : OwnM W base g N V L f w') : TrI W base g N V L f j x (fun _ => false) b w' :=
  ⟨h.on, fun _ => h, fun e => (by cases e), fun e => (by cases e), fun e => (by cases e), fun e => (by cases e), fun e => (by cases e)⟩
theorem TrI.on (h : TrI W base g N V L f j x S b w') (hk : Kept w' w'') : TrI W base g N V L f j x S b w'' :=
  ⟨h.kept.trans hk, fun e => (h.pre e).next hk, fun e e2 => owns_kept (h.new e e2) hk, fun e e2 => by
    obtain ⟨a1, a2, a3, a4, a5⟩ := h.mid e e2
    exact ⟨owns_kept a1 hk, fun i hi hij => owns_kept (a2 i hi hij) hk, owns_kept a3 hk, a4, a5⟩, h.a5, h.a16, fun e => (h.fin e).next hk⟩
theorem TrI.other (h : TrI W base g N V L f j x S b w') {i : Nat} (h5 : i ≠ 5) (h13 : i ≠ 13) (h14 : i ≠ 14) (h16 : i ≠ 16) : TrI W base g N V L f j x (doneAt S i) b w' := by
  have d5 : doneAt S i 5 = S 5 := if_neg (Ne.symm h5)
  have d13 : doneAt S i 13 = S 13 := if_neg (Ne.symm h13)
  have d14 : doneAt S i 14 = S 14 := if_neg (Ne.symm h14)
  have d16 : doneAt S i 16 = S 16 := if_neg (Ne.symm h16)
  exact ⟨h.kept, by rw [d14]; exact h.pre, by rw [d13, d14]; exact h.new, by rw [d14, d16]; exact h.mid, by rw [d14, d5, d13]; exact h.a5, by rw [d16, d14]; exact h.a16, by rw [d16]; exact h.fin⟩
theorem TrI.not14 (h : TrI W base g N V L f j x S b w') (hS : S 5 = false ∨ S 13 = false ∨ S 14 = false) : S 14 = false ∧ S 16 = false := by
  have h14 : S 14 = false := by
    rcases hS with e | e | e
    · cases q : S 14 with
      | false => rfl
      | true => rw [(h.a5 q).1] at e; cases e
    · cases q : S 14 with
      | false => rfl
      | true => rw [(h.a5 q).2] at e; cases e
    · exact e
  refine ⟨h14, ?_⟩
  cases q : S 16 with
  | false => rfl
  | true => rw [h.a16 q] at h14; cases h14
theorem TrI.op5 (h : TrI W base g N V L f j x S b w') {u : Value} : TrI W base g N V L f j x (doneAt S 5) (tellAt b 5 u) w' := by
  have d13 : doneAt S 5 13 = S 13 := if_neg (by decide)
  have d14 : doneAt S 5 14 = S 14 := if_neg (by decide)
  have d16 : doneAt S 5 16 = S 16 := if_neg (by decide)
  have t13 : tellAt b 5 u 13 = b 13 := if_neg (by decide)
  have t14 : tellAt b 5 u 14 = b 14 := if_neg (by decide)
  exact ⟨h.kept, by rw [d14]; exact h.pre, by rw [d13, d14, t13]; exact h.new, by rw [d14, d16, t14]; exact h.mid, by rw [d14, d13]; exact fun e => ⟨if_pos rfl, (h.a5 e).2⟩, by rw [d16, d14]; exact h.a16, by rw [d16, t14]; exact h.fin⟩
theorem TrI.op13 (h : TrI W base g N V L f j x S b w') (hS : S 13 = false) (hb : base ≤ w'.heap.size) : TrI W base g N V L f j x (doneAt S 13) (tellAt b 13 (.slice (some ⟨w'.heap.size, 0, none⟩) 1 1)) (w'.alloc (.cells #[.int .i64 x] 3)) := by
  obtain ⟨h14, h16⟩ := h.not14 (.inr (.inl hS))
  have h' := h.on ((Kept.refl w').alloc (.cells #[.int .i64 x] 3))
  have d5 : doneAt S 13 5 = S 5 := if_neg (by decide)
  have d14 : doneAt S 13 14 = S 14 := if_neg (by decide)
  have d16 : doneAt S 13 16 = S 16 := if_neg (by decide)
  refine ⟨h'.kept, by rw [d14]; exact h'.pre, ?_, (by rw [d14, h14]; intro e; cases e), (by rw [d14, h14]; intro e; cases e), by rw [d16, d14]; exact h'.a16, (by rw [d16, h16]; intro e; cases e)⟩
  intro _ _
  rw [show tellAt b 13 (.slice (some ⟨w'.heap.size, 0, none⟩) 1 1) 13 = .slice (some ⟨w'.heap.size, 0, none⟩) 1 1 from if_pos rfl]
  exact own_lit1 w' base x hb
theorem TrI.op14 (h : TrI W base g N V L f j x S b w') (hj : j < N) (hb : W.heap.size ≤ base) (h5 : S 5 = true ∧ S 13 = true) (hS : S 14 = false) {v' : Value} (hown : w''.ownsRow base 3 1 v' (L j + 1) (rowC 1 (fun q _ => if q < L j then f j q else x) (L j + 1)))
    (hg : w'.grownBy w'' (V j).ownBlock) (hv : v'.ownBlock = (V j).ownBlock ∨ v'.ownBlock = some w'.heap.size) : TrI W base g N V L f j x (doneAt S 14) (tellAt b 14 v') w'' := by
  obtain ⟨-, h16⟩ := h.not14 (.inr (.inr hS))
  have d13 : doneAt S 14 13 = S 13 := if_neg (by decide)
  have hO := h.pre hS
  have d5 : doneAt S 14 5 = S 5 := if_neg (by decide)
  have d14 : doneAt S 14 14 = true := if_pos rfl
  have d16 : doneAt S 14 16 = S 16 := if_neg (by decide)
  have t14 : tellAt b 14 v' 14 = v' := if_pos rfl
  have hrj := hO.r j hj
  refine ⟨kept_grown hO.on hrj hb hg, (by rw [d14]; intro e; cases e), (by rw [d14]; intro _ e; cases e), ?_, by rw [d5, d13]; exact fun _ => h5, by rw [d14]; exact fun _ => rfl, (by rw [d16, h16]; intro e; cases e)⟩
  intro _ _
  rw [t14]
  refine ⟨hO.o.kept hg (own_ne2 hrj hO.o (by decide)), fun i hi hij => (hO.r i hi).kept hg (hO.d i j hi hj hij), hown, fun i hi hij => ?_, hO.d⟩
  rcases hv with e | e
  · rw [e]
    exact ⟨hO.d j i hj hi (Ne.symm hij), hO.d i j hi hj hij⟩
  · rw [e]
    have hne : (some w'.heap.size) ≠ (V i).ownBlock := fun q => by
      have := own_lt (b := w'.heap.size) (hO.r i hi) q.symm
      omega
    exact ⟨.inr hne, .inr (Ne.symm hne)⟩
theorem TrI.op16 (h : TrI W base g N V L f j x S b w') (hj : j < N) (hb : W.heap.size ≤ base) (h14 : S 14 = true) (hS : S 16 = false) {u : Value} : TrI W base g N V L f j x (doneAt S 16) (tellAt b 16 u) (w'.setCell ⟨g, j, none⟩ (b 14)) := by
  obtain ⟨a1, a2, a3, a4, a5⟩ := h.mid h14 hS
  obtain ⟨h1, h2⟩ := a1.stored j (b 14)
  have hbl := (a1.lt g rfl).1
  have d5 : doneAt S 16 5 = S 5 := if_neg (by decide)
  have d13 : doneAt S 16 13 = S 13 := if_neg (by decide)
  have d14 : doneAt S 16 14 = S 14 := if_neg (by decide)
  have d16 : doneAt S 16 16 = true := if_pos rfl
  have t14 : tellAt b 16 u 14 = b 14 := if_neg (by decide)
  have hk : Kept W (w'.setCell ⟨g, j, none⟩ (b 14)) := kept_by h.kept (by omega) h2
  refine ⟨hk, (by rw [d14, h14]; intro e; cases e), (by rw [d14, h14]; intro _ e; cases e), (by rw [d16]; intro _ e; cases e), by rw [d14, d5, d13]; exact h.a5, by rw [d14]; exact fun _ => h14, fun _ => ?_⟩
  rw [t14]
  rw [set_map (f' := fun i => if i = j then b 14 else V i) (fun i _ => rfl)] at h1
  refine ⟨hk, hb, h1, fun i hi => ?_, fun i k hi hk' hik => ?_⟩
  · by_cases e : i = j
    · subst e
      rw [if_pos rfl, if_pos rfl]
      have e2 : rowC 1 (fun q _ => (if i = i then fun q => if q < L i then f i q else x else f i) q) (L i + 1) = rowC 1 (fun q _ => if q < L i then f i q else x) (L i + 1) := rowC_congr fun q _ _ _ => by rw [if_pos rfl]
      rw [e2]
      exact a3.kept h2 (own_ne2 a1 a3 (by decide))
    · rw [if_neg e, if_neg e]
      have e2 : rowC 1 (fun q _ => (if i = j then fun q => if q < L j then f j q else x else f i) q) (L i) = rowC 1 (fun q _ => f i q) (L i) := rowC_congr fun q _ _ _ => by rw [if_neg e]
      rw [e2]
      exact (a2 i hi e).kept h2 (own_ne2 a1 (a2 i hi e) (by decide))
  · by_cases e1 : i = j
    · rw [if_pos e1, if_neg (by omega)]
      exact (a4 k hk' (by omega)).1
    · rw [if_neg e1]
      by_cases e2 : k = j
      · rw [if_pos e2]; exact (a4 i hi e1).2
      · rw [if_neg e2]; exact a5 i k hi hk' hik
theorem TrI.cell (h : TrI W base g N V L f j x S b w') (hj : j < N) (hS : S 16 = false) : w'.cell? ⟨g, j, none⟩ = some (V j) ∧ w'.frozen? ⟨g, j, none⟩ = false ∧ g < w'.heap.size := by
  have key : ∀ {w' : World}, w'.ownsRow base 23 1 (.slice (some ⟨g, 0, none⟩) N N) N ((List.range N).map V) → w'.cell? ⟨g, j, none⟩ = some (V j) ∧ w'.frozen? ⟨g, j, none⟩ = false ∧ g < w'.heap.size := by
    intro w' ho
    refine ⟨by rw [ho.cellAt j (by omega)]; simp [hj], ho.frozenAt j, ?_⟩
    rcases ho.2 with ⟨e, -⟩ | ⟨g', cap, cur, e, -, hg, -⟩
    · cases e
    · simp only [Value.slice.injEq, Option.some.injEq, Addr.mk.injEq] at e
      obtain ⟨⟨rfl, -⟩, -, -⟩ := e
      exact (Array.getElem?_eq_some_iff.1 hg).1
  cases h14 : S 14 with
  | false => exact key (h.pre h14).o
  | true => exact key (h.mid h14 hS).1
end
end Go.Proofs.Ytoejdfpmmgldpaa
namespace Go.Proofs.Ytoejdfpmmgldpaa
set_option linter.unusedVariables false
set_option linter.unusedSimpArgs false
open Go.RowKit Go.Deep
set_option maxRecDepth 100000 in
set_option maxHeartbeats 4000000 in
theorem cTrno_any (A : Option Addr) (n cap : Nat) (B : Nat → Option Addr) (m cp : Nat → Nat) (f : Nat → Nat → Int) (w : World) (hn : n ≤ 9223372036854775807) (h : MatAt w A n B m cp f) (hv : valE n m f ≠ 0) :
    Calls Try.prog 26 #[.slice A n cap] w fun e w' => e = .returned (.tuple #[.slice none 0 0, .int .i64 (valE n m f)]) ∧ Kept w w' := by
  have HM := Lib.hid h
  clear h
  obtain ⟨e, he⟩ : ∃ e, valE n m f = e := ⟨_, rfl⟩
  rw [he] at hv ⊢
  have HV := Lib.hid he
  clear he
  have hv2 : (e == 0) = false := by simpa using hv
  have hv3 : decide (e = 0) = false := by simpa using hv
  go_enter Try.func26, Try.ntmps26
  go_wp2_with (go_at_call 22; refine (cval_any _ _ _ _ _ _ _ _ hn HM.out).mono ?_; rintro e w1 ⟨rfl, rfl⟩; rw [HV.out])
  refine bodyPost_ret (by simp only [results, Try.results26]; go_simp; rfl) rfl ?_
  exact ⟨rfl, by (repeat (first | exact Kept.refl _ | assumption | refine Kept.alloc ?_ _ | refine Kept.ext ?_ _ | refine Kept.drew ?_ | refine Kept.drewN ?_ _))⟩
set_option maxRecDepth 100000 in
set_option maxHeartbeats 16000000 in
theorem cTrok_any (A : Option Addr) (n cap : Nat) (B : Nat → Option Addr) (m cp : Nat → Nat) (f : Nat → Nat → Int) (w : World) (hn : n ≤ 9223372036854775807) (h : MatAt w A n B m cp f) (hv : valE n m f = 0) :
    Calls Try.prog 26 #[.slice A n cap] w fun e w' => ∃ g V, e = .returned (.tuple #[.slice (some ⟨g, 0, none⟩) (m 0) (m 0), .int .i64 0]) ∧ OwnM w w.heap.size g (m 0) V (fun _ => n) (fun i j => f j i) w' := by
  have HM := Lib.hid h
  clear h
  obtain ⟨⟨n1, n6⟩, ⟨m1, m6⟩, hmm, hff⟩ := valE_0 hv
  have HV := Lib.hid hv
  have HMM := Lib.hid hmm
  clear hv hmm hff
  obtain ⟨ab, ao, rfl, hab, c00⟩ := HM.out.at (k := 0) (by omega)
  have LA0 : Lower ab w.heap.size := ⟨hab⟩
  rw [Nat.add_zero] at c00
  obtain ⟨ti, hti, hte⟩ := Option.map_eq_some_iff.1 info_I
  simp only [Prod.mk.injEq] at hte
  have HT := Lib.hid hti
  have HTE := Lib.hid hte
  clear hti hte
  have hm1 := mk_S (m 0) m6
  go_enter Try.func26, Try.ntmps26
  go_wp2_with (go_at_call 22; refine (cval_any _ _ _ _ _ _ _ _ hn HM.out).mono ?_; rintro e w1 ⟨rfl, rfl⟩; rw [HV.out])
  obtain ⟨g, hg⟩ : ∃ g, w.heap.size = g := ⟨_, rfl⟩
  have h0 := OwnM.made w m6 (fun i j => f j i)
  rw [hg] at h0 ⊢
  have H0 := Lib.hid h0
  have HG := Lib.hid hg
  clear h0 hm1
  go_loopw [20] (fun i wr => ∃ k : Nat, k ≤ m 0 ∧ i = .int .i64 k ∧ ∃ V, OwnM w g g (m 0) V (fun j => if j < k then n else 0) (fun i j => f j i) wr) (fun i _ => m 0 - (intOf i).toNat)
  case atStart => exact ⟨0, by omega, rfl, _, H0.out.congr (fun _ _ => rfl) (fun i hi => by rw [if_neg (by omega)]) (fun _ _ _ _ => rfl)⟩
  case round =>
    obtain ⟨k, hk, rfl, V0, hM⟩ := hrel
    by_cases hlt : k < m 0
    · have HM2 := Lib.hid hM
      clear hM
      go_wp2
      go_loopw [25] (fun i w2 => ∃ q : Nat, q ≤ n ∧ i = .int .i64 q ∧ ∃ V, OwnM w g g (m 0) V (fun j => if j = k then q else if j < k then n else 0) (fun i j => f j i) w2) (fun i _ => n - (intOf i).toNat)
      case atStart => exact ⟨0, by omega, rfl, V0, HM2.out.congr (fun _ _ => rfl) (fun i hi => by by_cases e : i = k <;> simp [e]) (fun _ _ _ _ => rfl)⟩
      case round =>
        obtain ⟨q, hq, rfl, V, hM3⟩ := hrel
        by_cases hlq : q < n
        · obtain ⟨v0, v1, v2, v3⟩ := hM3.cellV hlt
          obtain ⟨ab', ao', e, hab', c1⟩ := (HM.out.of hM3.on).at hlq
          cases e
          have hmq := HMM.out q hlq
          obtain ⟨bb, bo, hB, hbb, c2, i2⟩ := rows1 (k := k) ((HM.out.of hM3.on).el q hlq) (by omega)
          rw [hB] at c1
          have hcap := HM.out.cap q hlq
          have LG : Lower g wr.heap.size := ⟨v3⟩
          have LA : Lower ab wr.heap.size := ⟨hab'⟩
          have LB : Lower bb wr.heap.size := ⟨hbb⟩
          have hrj := hM3.r k hlt
          rw [if_pos rfl] at hrj
          obtain ⟨Ak, ck, hVk⟩ := own_slice2 hrj
          have HM3 := Lib.hid hM3
          have HRJ := Lib.hid hrj
          have HI2 := Lib.hid i2
          have HVK := Lib.hid hVk
          have x1 : k < m q := by omega
          have hgw : g ≤ wr.heap.size := by omega
          clear hM3 hrj i2 v2 hmq
          rw [hVk] at v0
          go_wp2
          refine wp_region_tellC (C := fun W' => Kept w W') [.q, .q, .q, .q, .q, .k (V k), .q, .q, .q, .q, .q, .q, .q, .s, .s, .q, .k undef] (fun S b w' => TrI w g g (m 0) V (fun j => if j = k then q else if j < k then n else 0) (fun i j => f j i) k (f q k) S b w') (by kernel_rfl) (by kernel_rfl) (fun b => by kernel_rfl) ?_ ?_ ?_ ?_
          · exact fun b => TrI.start (HM3.out.next (by (repeat (first | exact Kept.refl _ | assumption | refine Kept.alloc ?_ _ | refine Kept.ext ?_ _ | refine Kept.drew ?_ | refine Kept.drewN ?_ _))))
          · intro i L b w' w'' hs hI hk
            exact (hI.on hk).other (by rintro rfl; cases hs) (by rintro rfl; cases hs) (by rintro rfl; cases hs) (by rintro rfl; cases hs)
          · exact fun _ _ _ h => h.kept
          apply Exists.intro
          refine ⟨?_, ?_, ?_, ?_⟩
          · rintro bv W hkw
            obtain ⟨ab2, ao2, e, hab2, d1⟩ := (HM.out.of hkw).at hlq
            cases e
            obtain ⟨bb2, bo2, hB2, hbb2, d2, -⟩ := rows1 (k := k) ((HM.out.of hkw).el q hlq) (by omega)
            rw [hB] at hB2
            cases hB2
            rw [hB] at d1
            have LA2 : Lower ab W.heap.size := ⟨hab2⟩
            have LB2 : Lower bb W.heap.size := ⟨hbb2⟩
            simp only [swapL, Nat.reduceAdd]
            repeat (go_big_quiet_step (fail))
            refine wpQuiet_nil ?_
            rfl
          · simp only [EachS, and_true]
            refine ⟨?_, ?_, ?_, ?_⟩
            · intro S b w' hd hL hI
              obtain ⟨-, e16⟩ := hI.not14 (.inl hL)
              obtain ⟨p0, p1, p2⟩ := hI.cell hlt e16
              have LG2 : Lower g w'.heap.size := ⟨p2⟩
              have h5 := hI.op5 (u := V k)
              rw [hVk] at p0 h5
              go_simp
              exact ⟨rfl, h5⟩
            · intro S b w' hd hL hI
              have h13 := hI.op13 hL (by have := kept_le hI.kept; rw [HG.out] at this; exact this)
              go_simp
              exact ⟨rfl, h13⟩
            · intro S b w' hd hL hI
              have d5 : S 5 = true := hd { on := 5, ground := .data } (by simp) rfl
              have d13 : S 13 = true := hd { on := 13, ground := .data } (by simp) rfl
              have hO := hI.pre hL
              have o13 := hI.new d13 hL
              have hrk := hO.r k hlt
              rw [if_pos rfl, hVk] at hrk
              obtain ⟨A13, cp13, e13, -, r13⟩ := own_read (g := fun _ _ => f q k) (n := 1) o13 (fun _ _ => HI2.out)
              refine tells_append (.tmp 33) (.tmp 41) 23 rfl _ 3 ti _ 1 8 Try.underlying23 HT.out HTE.out.1 HTE.out.2.1 HTE.out.2.2 rfl (by omega) (by have := kept_le hI.kept; rw [HG.out] at this; exact this) (.slice Ak q ck) q _ hVk hrk A13 1 cp13 _ e13 r13 (by unfold maxLen; omega) (by omega) ?_
              intro v' w'' k1 k2 k3
              refine ⟨rfl, hI.op14 hlt (by rw [HG.out]; exact Nat.le_refl _) ⟨d5, d13⟩ hL ?_ (by rw [hVk]; exact k2) (by rw [hVk]; exact k3)⟩
              rw [if_pos rfl]
              have e2 : rowC 1 (fun q' _ => f q' k) q ++ rowC 1 (fun _ _ => f q k) 1 = rowC 1 (fun q' _ => if q' < q then f q' k else f q k) (q + 1) := by
                rw [rowC_join]
              rw [e2] at k1
              exact k1
            · intro S b w' hd hL hI
              have d14 : S 14 = true := hd { on := 14, ground := .phase } (by simp) rfl
              have h8 := hI.op16 (u := undef) hlt (by rw [HG.out]; exact Nat.le_refl _) d14 hL
              obtain ⟨p0, p1, p2⟩ := hI.cell hlt hL
              have LG2 : Lower g w'.heap.size := ⟨p2⟩
              obtain ⟨A14, c14, e14⟩ := own_slice2 (hI.mid d14 hL).2.2.1
              rw [if_pos rfl] at e14
              rw [e14] at h8
              go_simp
              exact ⟨rfl, h8⟩
          · intro b1 b2 d hd
            simp [callSlots, dullOp] at hd
          · intro S b w' hS hI
            have hF := hI.fin (hS 16 (by decide))
            have HF := Lib.hid hF
            clear hF hI hS
            go_wp2
            go_roundw
            case rel =>
              refine ⟨q + 1, by omega, by go_num, _, HF.out.congr (fun _ _ => rfl) (fun i hi => ?_) (fun i hi j hj => ?_)⟩
              · by_cases e : i = k
                · rw [if_pos e, if_pos rfl, if_pos e]
                · rw [if_neg e, if_neg e, if_neg e]
              · by_cases e : i = k
                · subst e
                  rw [if_pos rfl, if_pos rfl] at *
                  show (if j < q then f j i else f q i) = f j i
                  by_cases e2 : j < q
                  · rw [if_pos e2]
                  · rw [if_neg e2, show j = q by omega]
                · rw [if_neg e]
            case measure => simp [intOf]; omega
        · obtain rfl : q = n := by omega
          have HM3 := Lib.hid hM3
          clear hM3
          go_wp2
          go_roundw
          case rel =>
            refine ⟨k + 1, by omega, by go_num, V, HM3.out.congr (fun _ _ => rfl) (fun i hi => ?_) (fun _ _ _ _ => rfl)⟩
            by_cases e : i = k
            · rw [if_pos e, if_pos (by omega)]
            · rw [if_neg e]
              by_cases e2 : i < k
              · rw [if_pos e2, if_pos (by omega)]
              · rw [if_neg e2, if_neg (by omega)]
          case measure => simp [intOf]; omega
    · obtain rfl : k = m 0 := by omega
      have HM2 := Lib.hid hM
      clear hM
      go_wp2
      refine bodyPost_ret (by simp only [results, Try.results26]; go_simp; rfl) rfl ?_
      rw [HG.out]
      exact ⟨g, V0, rfl, HM2.out.congr (fun _ _ => rfl) (fun i hi => if_pos hi) (fun _ _ _ _ => rfl)⟩
end Go.Proofs.Ytoejdfpmmgldpaa
namespace Go.Proofs.Ytoejdfpmmgldpaa
set_option linter.unusedVariables false
set_option linter.unusedSimpArgs false
open Go.RowKit Go.Deep
theorem valE_of {n : Nat} {m : Nat → Nat} {f : Nat → Nat → Int} (h1 : 1 ≤ n ∧ n ≤ 6) (h2 : 1 ≤ m 0 ∧ m 0 ≤ 6) (h3 : ∀ k, k < n → m k = m 0) (h4 : ∀ k, k < n → ∀ j, j < m 0 → -100 ≤ f k j ∧ f k j ≤ 100) : valE n m f = 0 := by
  unfold valE
  rw [if_pos h1]
  have hb : (List.range n).any (badRow m f) = false := any_range_false.2 fun k hk => bad_none (by rw [h3 k hk]; exact h2) (h3 k hk) (fun j hj => by
    rw [h3 k hk] at hj
    unfold badE
    rw [decide_eq_true (h4 k hk j hj)]
    rfl)
  rw [hb]
  rfl
section
variable {n : Nat} {m : Nat → Nat} {f : Nat → Nat → Int}
theorem val_flip (h : valE n m f = 0) : valE (m 0) (fun _ => n) (fun i j => f j i) = 0 := by
  obtain ⟨h1, h2, h3, h4⟩ := valE_0 h
  exact valE_of h2 h1 (fun _ _ => rfl) (fun k hk j hj => h4 j hj k hk)
theorem sub_flip (l : Nat) (f R C : Nat → Nat → Int) : D l (subF (fun i j => f j i) C R) = D l (subF f R C) := D_flip l (subF f R C)
theorem cho_flip (h : valE n m f = 0) (rl cl : Nat) (R C : Nat → Nat → Int) : choE (m 0) (fun _ => n) (fun i j => f j i) cl C rl R = choE n m f rl R cl C := by
  unfold choE
  rw [if_pos h, if_pos (val_flip h)]
  have e : (setB (m 0) cl C && (setB n rl R && cl == rl)) = (setB n rl R && (setB (m 0) cl C && rl == cl)) := by
    rw [show (cl == rl) = (rl == cl) by rw [Bool.eq_iff_iff]; simp; exact ⟨fun h => h.symm, fun h => h.symm⟩]
    cases setB (m 0) cl C <;> cases setB n rl R <;> rfl
  show (if (setB (m 0) cl C && (setB n rl R && cl == rl)) = true then (0 : Int) else 1) = _
  rw [e]
theorem opn_flip (h : valE n m f = 0) (rl cl : Nat) (R C : Nat → Nat → Int) : opnE (m 0) (fun _ => n) (fun i j => f j i) cl C rl R = opnE n m f rl R cl C := by
  unfold opnE
  rw [cho_flip h]
  by_cases hc : choE n m f rl R cl C = 0
  · obtain ⟨-, -, -, rfl⟩ := choE_0 hc
    rw [if_pos hc, if_pos hc, sub_flip]
  · rw [if_neg hc, if_neg hc]
theorem left_flip (l : Nat) (R C : Nat → Nat → Int) (i j : Int) : leftV (fun i j => f j i) l C R j i = leftV f l R C i j := by
  unfold leftV
  rw [Bool.or_comm, sub_flip]
theorem res_flip (h : valE n m f = 0) (rl cl : Nat) (R C : Nat → Nat → Int) (i j : Int) :
    resE (m 0) (fun _ => n) (fun i j => f j i) cl C rl R j i = resE n m f rl R cl C i j ∧ resN (m 0) (fun _ => n) (fun i j => f j i) cl C rl R j i = resN n m f rl R cl C i j ∧ resD (m 0) (fun _ => n) (fun i j => f j i) cl C rl R j i = resD n m f rl R cl C i j := by
  have hE : resE (m 0) (fun _ => n) (fun i j => f j i) cl C rl R j i = resE n m f rl R cl C i j := by
    unfold resE
    rw [opn_flip h]
    have e : (if (0 ≤ j ∧ j ≤ (m 0 : Int) - 1) ∧ (0 ≤ i ∧ i ≤ (n : Int) - 1) then (0 : Int) else 5) = (if (0 ≤ i ∧ i ≤ (n : Int) - 1) ∧ (0 ≤ j ∧ j ≤ (m 0 : Int) - 1) then 0 else 5) := by
      by_cases hq : (0 ≤ i ∧ i ≤ (n : Int) - 1) ∧ (0 ≤ j ∧ j ≤ (m 0 : Int) - 1)
      · rw [if_pos hq, if_pos ⟨hq.2, hq.1⟩]
      · rw [if_neg hq, if_neg (fun q => hq ⟨q.2, q.1⟩)]
    show (if opnE n m f rl R cl C = 0 then (if (0 ≤ j ∧ j ≤ (m 0 : Int) - 1) ∧ (0 ≤ i ∧ i ≤ (n : Int) - 1) then (0 : Int) else 5) else opnE n m f rl R cl C) = _
    rw [e]
  refine ⟨hE, ?_, ?_⟩
  · unfold resN
    rw [hE]
    by_cases h0 : resE n m f rl R cl C i j = 0
    · rw [if_pos h0, if_pos h0]
      have hc : opnE n m f rl R cl C = 0 := by
        unfold resE at h0
        split at h0
        · assumption
        · exact h0
      obtain ⟨-, -, -, rfl⟩ := choE_0 (opnE_0 hc).1
      rw [left_flip, sub_flip]
    · rw [if_neg h0, if_neg h0]
  · unfold resD
    rw [hE]
    by_cases h0 : resE n m f rl R cl C i j = 0
    · rw [if_pos h0, if_pos h0]
      have hc : opnE n m f rl R cl C = 0 := by
        unfold resE at h0
        split at h0
        · assumption
        · exact h0
      obtain ⟨-, -, -, rfl⟩ := choE_0 (opnE_0 hc).1
      rw [left_flip, sub_flip]
    · rw [if_neg h0, if_neg h0]
end
def capOf : Value → Nat
  | .slice _ _ c => c
  | _ => 0
/-- A matrix of the call's own can be read. -/
theorem OwnM.read {W wr : World} {base g N l : Nat} {V : Nat → Value} {f : Nat → Nat → Int} (h : OwnM W base g N V (fun _ => l) f wr) (hI : ∀ i, i < N → ∀ j, j < l → I64 (f i j)) : ∃ B cp, MatAt wr (some ⟨g, 0, none⟩) N B (fun _ => l) cp f := by
  have key : ∀ i, i < N → V i = .slice (sliceAt (V i)) l (capOf (V i)) ∧ l ≤ capOf (V i) ∧ capOf (V i) ≤ maxLen := by
    intro i hi
    have hr := h.r i hi
    obtain ⟨A, cp, e⟩ := own_slice2 hr
    rw [e] at hr ⊢
    exact ⟨rfl, own_caps hr⟩
  exact ⟨fun i => sliceAt (V i), fun i => capOf (V i), h.mat (fun i hi => (key i hi).1) (fun _ _ => rfl) (fun i hi => (key i hi).2) hI⟩
end Go.Proofs.Ytoejdfpmmgldpaa
