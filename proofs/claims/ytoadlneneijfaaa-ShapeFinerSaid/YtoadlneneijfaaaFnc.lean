/- Contract: the middle of a side, of the program, while a surface is cut finer. Conditions: the surface is closed; what the map has. -/
import Derived.Test.YtoadlneneijfaaaFnp
import Derived.Test.YtoadlneneijfaaaMpo
import Derived.Test.YtoadlneneijfaaaApx
import Derived.Test.YtoadlneneijfaaaGva
namespace Go.Proofs.Ytoadlneneijfaaa
set_option linter.unusedVariables false
set_option linter.unusedSimpArgs false
open Go.RowKit Go.Deep Go.Maps
/-- Which sides have a number behind the first a sides. -/
def numS (n : Nat) (al : Nat → Nat) (F : Nat → Nat → Int) : Nat → Int × Int → Option Int
  | 0 => fun _ => none
  | a + 1 => fun s => if s = (tl F (nxt a), tl F a) then some (midN n al a : Nat) else if s = (tl F a, tl F (nxt a)) then some (midN n al a : Nat) else numS n al F a s
section
variable {F : Nat → Nat → Int} {al : Nat → Nat} {n m : Nat}
theorem Oth.oneS (h : Oth F al m) {a b : Nat} (ha : a < 3 * m) (hb : b < 3 * m) (e : (tl F a, tl F (nxt a)) = (tl F b, tl F (nxt b))) : a = b := h.one ha hb (congrArg Prod.fst e) (congrArg Prod.snd e)
theorem Oth.unS (h : Oth F al m) {a b : Nat} (ha : a < 3 * m) (hb : b < 3 * m) (e : (tl F a, tl F (nxt a)) = (tl F (nxt b), tl F b)) : b = al a := h.un a b ha hb (congrArg Prod.snd e).symm (congrArg Prod.fst e).symm
theorem numS_at (h : Oth F al m) {b : Nat} : ∀ {a : Nat}, a ≤ 3 * m → b < a → numS n al F a (tl F b, tl F (nxt b)) = some ((midN n al b : Nat) : Int) ∧ numS n al F a (tl F (nxt b), tl F b) = some ((midN n al b : Nat) : Int)
  | 0, _, k => absurd k (by omega)
  | a + 1, ha, k => by
    unfold numS
    by_cases e : b = a
    · subst e
      refine ⟨?_, by rw [if_pos rfl]⟩
      split
      · rfl
      · rw [if_pos rfl]
    · obtain ⟨k1, k2⟩ := numS_at h (b := b) (a := a) (by omega) (by omega)
      have hal : ∀ {b'}, b' = al a → midN n al a = midN n al b' := fun e => by rw [e, mid_old h (by omega)]
      constructor
      · by_cases e1 : (tl F b, tl F (nxt b)) = (tl F (nxt a), tl F a)
        · rw [if_pos e1, hal (h.unS (by omega) (by omega) (Prod.ext (congrArg Prod.snd e1).symm (congrArg Prod.fst e1).symm))]
        · rw [if_neg e1]
          by_cases e2 : (tl F b, tl F (nxt b)) = (tl F a, tl F (nxt a))
          · exact absurd (h.oneS (by omega) (by omega) e2) e
          · rw [if_neg e2]; exact k1
      · by_cases e1 : (tl F (nxt b), tl F b) = (tl F (nxt a), tl F a)
        · exact absurd (h.oneS (by omega) (by omega) (Prod.ext (congrArg Prod.snd e1) (congrArg Prod.fst e1))) e
        · rw [if_neg e1]
          by_cases e2 : (tl F (nxt b), tl F b) = (tl F a, tl F (nxt a))
          · rw [if_pos e2, hal (h.unS (by omega) (by omega) e2.symm)]
          · rw [if_neg e2]; exact k2
theorem numS_no (h : Oth F al m) {a : Nat} (ha : a < 3 * m) (hn : a < al a) : ∀ {r : Nat}, r ≤ a → numS n al F r (tl F a, tl F (nxt a)) = none
  | 0, _ => rfl
  | r + 1, hr => by
    unfold numS
    rw [if_neg, if_neg]
    · exact numS_no h ha hn (by omega)
    · intro e
      have := h.oneS ha (by omega) e
      omega
    · intro e
      have := h.unS ha (by omega) e
      omega
theorem numS_old (h : Oth F al m) {a : Nat} (ha : a < 3 * m) (ho : al a < a) (s : Int × Int) : numS n al F a s = numS n al F (a + 1) s := by
  obtain ⟨b1, b2, b3⟩ := h.nb a ha
  obtain ⟨k1, k2⟩ := numS_at (n := n) h (b := al a) (a := a) (by omega) ho
  rw [b2, b3, mid_old h ha] at k1 k2
  show _ = if s = (tl F (nxt a), tl F a) then some ((midN n al a : Nat) : Int) else if s = (tl F a, tl F (nxt a)) then some ((midN n al a : Nat) : Int) else numS n al F a s
  by_cases e1 : s = (tl F (nxt a), tl F a)
  · rw [if_pos e1, e1, k1]
  · rw [if_neg e1]
    by_cases e2 : s = (tl F a, tl F (nxt a))
    · rw [if_pos e2, e2, k2]
    · rw [if_neg e2]
end
/-- All blocks but mb and the one of v. -/
def restL (w : World) (mb : Nat) (v : Value) : List (Nat × Obj) := (List.range w.heap.size).filterMap fun b => if b = mb ∨ some b = v.ownBlock then none else (w.heap[b]?).map fun o => (b, o)
theorem mem_restL {w : World} {mb : Nat} {v : Value} {x : Nat × Obj} : x ∈ restL w mb v ↔ w.heap[x.1]? = some x.2 ∧ x.1 ≠ mb ∧ some x.1 ≠ v.ownBlock := by
  unfold restL
  rw [List.mem_filterMap]
  constructor
  · rintro ⟨b, hb, e⟩
    split at e
    · cases e
    · rename_i hn
      rw [Option.map_eq_some_iff] at e
      obtain ⟨o, ho, rfl⟩ := e
      simp only [not_or] at hn
      exact ⟨ho, hn.1, hn.2⟩
  · rintro ⟨h1, h2, h3⟩
    refine ⟨x.1, List.mem_range.2 (Array.getElem?_eq_some_iff.1 h1).1, ?_⟩
    rw [if_neg (by simp only [not_or]; exact ⟨h2, h3⟩), h1]
    rfl
abbrev MapN (w : World) (b n : Nat) (c : Int × Int → Option Int) : Prop := MapO Try.prog 81 3 sideV sideOk w b n c
theorem MapO.heap {ι : Type} {P : Program} {k e : TypeId} {kv : ι → Value} {ok : ι → Prop} {w w' : World} {b n : Nat} {c : ι → Option Int} (h : MapO P k e kv ok w b n c) (he : w'.heap[b]? = w.heap[b]?) : MapO P k e kv ok w' b n c := by
  obtain ⟨D, ⟨es, clock, h1, h2⟩, h3⟩ := h
  exact ⟨D, ⟨es, clock, by rw [he, h1], h2⟩, h3⟩
theorem MapO.ne {ι : Type} {P : Program} {k e : TypeId} {kv : ι → Value} {ok : ι → Prop} {w : World} {b n g : Nat} {c : ι → Option Int} {cs : Array Value} {T : TypeId} (h : MapO P k e kv ok w b n c) (hg : w.heap[g]? = some (.cells cs T (0, 0))) : g ≠ b := by
  rintro rfl
  obtain ⟨D, ⟨es, clock, h1, h2⟩, h3⟩ := h
  rw [hg] at h1
  cases h1
theorem MapO.neOwn {ι : Type} {P : Program} {k e : TypeId} {kv : ι → Value} {ok : ι → Prop} {w : World} {b n base c' n' : Nat} {t : TypeId} {v : Value} {xs : List Value} {c : ι → Option Int} (h : MapO P k e kv ok w b n c) (hv : w.ownsRow base t c' v n' xs) : v.ownBlock ≠ some b := by
  rcases hv.2 with ⟨rfl, -⟩ | ⟨g, cp, cur, rfl, -, hg, -⟩
  · intro q; cases q
  · intro q
    exact h.ne hg (Option.some.inj q)
/-- The state of a surface that is cut finer: the mesh in block mb, the map in block B, its variable in block qb. -/
structure FinS (W : World) (rb mb qb B : Nat) (vP : Value) (np : Nat) (P' : Nat → Nat → Int) (vF : Value) (nf : Nat) (F' : Nat → Nat → Int) (cnt : Nat) (c : Int × Int → Option Int) (w : World) : Prop where
  msh : Msh2 W rb mb vP np P' vF nf F' w
  map : MapN w B cnt c
  qv : w.heap[qb]? = some (.cells #[.map (some B)] 78 (0, 0))
section
variable {W w w' : World} {rb mb qb B np nf cnt : Nat} {vP vF : Value} {P' F' : Nat → Nat → Int} {c : Int × Int → Option Int}
theorem FinS.on (h : FinS W rb mb qb B vP np P' vF nf F' cnt c w) (hk : Kept w w') : FinS W rb mb qb B vP np P' vF nf F' cnt c w' := ⟨h.msh.on hk, h.map.kept hk, fr_kept h.qv hk⟩
/-- The map changed. -/
theorem Msh2.byMap (h : Msh2 W rb mb vP np P' vF nf F' w) (hm : MapN w B cnt c) (hB : W.heap.size ≤ B) (hg : w.grownBy w' (some B)) : Msh2 W rb mb vP np P' vF nf F' w' := by
  have key : ∀ {g : Nat} {cs : Array Value} {T : TypeId}, w.heap[g]? = some (.cells cs T (0, 0)) → w'.heap[g]? = some (.cells cs T (0, 0)) := fun {g cs T} e => by
    rw [hg.block g (Array.getElem?_eq_some_iff.1 e).1 (fun q => hm.ne e (Option.some.inj q))]
    exact e
  exact ⟨h.kept.map_store hB hg, key h.r, key h.q, h.p.kept hg (.inr (hm.neOwn h.p)), h.f.kept hg (.inr (hm.neOwn h.f))⟩
end
/-- The state of two stores into the map. -/
structure TwoP (w0 : World) (B cnt : Nat) (k1 k2 : Int × Int) (z : Int) (c : Int × Int → Option Int) (L : Nat → Bool) (w' : World) : Prop where
  gr : w0.grownBy w' (some B)
  a8 : L 8 = true → L 7 = true
  m0 : L 7 = false → MapN w' B cnt c
  m7 : L 7 = true → L 8 = false → MapN w' B (cnt + 1) (fun s => if s = k1 then some z else c s)
  m8 : L 8 = true → MapN w' B (cnt + 2) (fun s => if s = k2 then some z else if s = k1 then some z else c s)
theorem grownBy_trans {a b c : World} {r : Option Nat} (h : a.grownBy b r) (k : b.grownBy c r) : a.grownBy c r :=
  ⟨k.os.trans h.os, k.tape.trans h.tape, k.output.trans h.output, Nat.le_trans h.size k.size, fun i hi hr => by rw [k.block i (Nat.lt_of_lt_of_le hi h.size) hr, h.block i hi hr]⟩
theorem grownBy_kept {a b : World} (r : Option Nat) (h : Kept a b) : a.grownBy b r := by
  have := h.grown
  exact ⟨this.os, this.tape, this.output, this.size, fun k hk _ => this.block k hk (by simp)⟩
section
variable {w0 w' w'' : World} {B cnt : Nat} {k1 k2 : Int × Int} {z : Int} {c : Int × Int → Option Int} {L : Nat → Bool}
theorem TwoP.on (h : TwoP w0 B cnt k1 k2 z c L w') (hk : Kept w' w'') : TwoP w0 B cnt k1 k2 z c L w'' :=
  ⟨grownBy_trans h.gr (grownBy_kept _ hk), h.a8, fun e => (h.m0 e).kept hk, fun e e' => (h.m7 e e').kept hk, fun e => (h.m8 e).kept hk⟩
theorem TwoP.other (h : TwoP w0 B cnt k1 k2 z c L w') {i : Nat} (h7 : i ≠ 7) (h8 : i ≠ 8) : TwoP w0 B cnt k1 k2 z c (doneAt L i) w' := by
  have d7 : doneAt L i 7 = L 7 := if_neg (Ne.symm h7)
  have d8 : doneAt L i 8 = L 8 := if_neg (Ne.symm h8)
  exact ⟨h.gr, by rw [d7, d8]; exact h.a8, by rw [d7]; exact h.m0, by rw [d7, d8]; exact h.m7, by rw [d8]; exact h.m8⟩
theorem TwoP.op7 (h : TwoP w0 B cnt k1 k2 z c L w') (d : L 7 = false) (hg : w'.grownBy w'' (some B)) (hm : MapN w'' B (cnt + 1) (fun s => if s = k1 then some z else c s)) : TwoP w0 B cnt k1 k2 z c (doneAt L 7) w'' := by
  have d8 : L 8 = false := by
    cases e : L 8 with
    | false => rfl
    | true => rw [h.a8 e] at d; cases d
  have e8 : doneAt L 7 8 = L 8 := rfl
  exact ⟨grownBy_trans h.gr hg, fun _ => rfl, fun e => (by cases e), fun _ _ => hm, fun e => (by rw [e8, d8] at e; cases e)⟩
theorem TwoP.op8 (h : TwoP w0 B cnt k1 k2 z c L w') (d7 : L 7 = true) (hg : w'.grownBy w'' (some B)) (hm : MapN w'' B (cnt + 2) (fun s => if s = k2 then some z else if s = k1 then some z else c s)) : TwoP w0 B cnt k1 k2 z c (doneAt L 8) w'' := by
  have e7 : doneAt L 8 7 = L 7 := rfl
  exact ⟨grownBy_trans h.gr hg, fun _ => (by rw [e7]; exact d7), fun e => (by rw [e7, d7] at e; cases e), fun _ e => (by cases e), fun _ => hm⟩
end
set_option maxRecDepth 100000 in
set_option maxHeartbeats 16000000 in
theorem sfin_any (A Bf : Option Addr) (n cap m cap2 : Nat) (P F : Nat → Nat → Int) (al : Nat → Nat) (a : Nat) (W : World) (gm rb mb qb B : Nat) (vP vF : Value) (nf : Nat) (F' : Nat → Nat → Int) (w : World)
    (hn : n ≤ 64 ∧ m ≤ 96) (ho : Oth F al m) (hin : ∀ i, i < m → ∀ k, k < 3 → 0 ≤ F i k ∧ F i k < n) (hbd : ∀ i, i < n → ∀ j, j < 3 → -64 ≤ P i j ∧ P i j ≤ 64) (ha : a < 3 * m) (hP : RowsAt W A n 3 P)
    (hm : W.heap[gm]? = some (.cells #[.slice A n cap, .slice Bf m cap2] 25 (0, 0))) (hrb : rb ≠ mb) (hmb : W.heap.size ≤ mb) (hB : W.heap.size ≤ B)
    (hS : FinS W rb mb qb B vP (npt n al a) (finP n m P F al) vF nf F' (2 * a) (numS n al F a) w) :
    Calls Try.prog 106 #[.agg #[.int .i64 (tl F a), .int .i64 (tl F (nxt a))], .pointer (some ⟨qb, 0, none⟩), .pointer (some ⟨mb, 0, none⟩), .pointer (some ⟨gm, 0, none⟩)] w fun r w' =>
      r = .returned (.int .i64 (midN n al a : Nat)) ∧ ∃ vP', FinS W rb mb qb B vP' (npt n al (a + 1)) (finP n m P F al) vF nf F' (2 * (a + 1)) (numS n al F (a + 1)) w' ∧
        w.heap.size ≤ w'.heap.size ∧ ∀ b, b < w.heap.size → b ≠ mb → b ≠ B → some b ≠ vP.ownBlock → w'.heap[b]? = w.heap[b]? := by
  obtain ⟨i0, hi, hz0, hz1, hz2⟩ := info_parts infoPoint
  have HJP := Lib.hid (And.intro hi (And.intro hz0 (And.intro hz1 hz2)))
  clear hi hz0 hz1 hz2
  have HS := Lib.hid hS
  have HP := Lib.hid hP
  have HM := Lib.hid hm
  have HO := Lib.hid ho
  have hsd : sideOk (tl F a, tl F (nxt a)) := by
    have h0 := hin (a / 3) (by omega) (a % 3) (Nat.mod_lt _ (by omega))
    have h1 := hin (nxt a / 3) (by rw [nxt_div]; omega) (nxt a % 3) (Nat.mod_lt _ (by omega))
    show I64 (F (a / 3) (a % 3)) ∧ I64 (F (nxt a / 3) (nxt a % 3))
    unfold I64
    omega
  have hsb : sideOk (tl F (nxt a), tl F a) := ⟨hsd.2, hsd.1⟩
  have HSD := Lib.hid hsd
  have HSB := Lib.hid hsb
  have qv0 : w.cell? ⟨qb, 0, none⟩ = some (.map (some B)) := by
    unfold World.cell?
    simp only [hS.qv]
    rfl
  have LQ : Lower qb w.heap.size := ⟨cell_lt qv0⟩
  clear hS hP hm ho hsd hsb
  have hne := HO.out.ne a ha
  by_cases hlt : al a < a
  · have hn1 : npt n al (a + 1) = npt n al a := by rw [npt_next, if_neg (by omega)]; rfl
    have hk := (numS_at (n := n) HO.out (b := al a) (a := a) (by omega) hlt).2
    obtain ⟨b1, b2, b3⟩ := HO.out.nb a ha
    rw [b2, b3, mid_old HO.out ha] at hk
    have HKE := Lib.hid hk
    have HN := Lib.hid hn1
    clear b1 b2 b3 hk hn1
    go_enter Try.func106, Try.ntmps106
    go_wp2_with (at_lookup; refine wp_lookO _ (by rfl) _ _ _ rfl (Keyed.of_law lawSide) Try.underlying78 Try.underlying3 (zeroInt _) B (2 * a) (numS n al F a) (HS.out.map.kept (by (repeat (first | exact Kept.refl _ | assumption | refine Kept.alloc ?_ _ | refine Kept.ext ?_ _ | refine Kept.drew ?_ | refine Kept.drewN ?_ _)))) (tl F a, tl F (nxt a)) rfl rfl HSD.out (keyOf_side _ HSD.out) (midN n al a : Nat) true (by rw [HKE.out]; rfl) (by rw [HKE.out]; rfl) ?_)
    refine bodyPost_ret (by simp only [results, Try.results106]; go_simp; rfl) rfl ?_
    refine ⟨rfl, vP, ?_, by simp [adv], fun b hb _ _ _ => ?_⟩
    · have h := HS.out.on (by (repeat (first | exact Kept.refl _ | assumption | refine Kept.alloc ?_ _ | refine Kept.ext ?_ _ | refine Kept.drew ?_ | refine Kept.drewN ?_ _)) : Kept w (w.alloc (.cells #[.int .i64 (tl F a), .int .i64 (tl F (nxt a))] 81)))
      refine ⟨by rw [HN.out]; exact h.msh, ?_, h.qv⟩
      obtain ⟨D, h1, h2, h3⟩ := h.map
      exact MapO.congr ⟨D, h1.mono (by omega), h2, h3⟩ fun s _ => numS_old HO.out ha hlt s
    · exact (by (repeat (first | exact Kept.refl _ | assumption | refine Kept.alloc ?_ _ | refine Kept.ext ?_ _ | refine Kept.drew ?_ | refine Kept.drewN ?_ _)) : Kept w (w.alloc (.cells #[.int .i64 (tl F a), .int .i64 (tl F (nxt a))] 81))).grown.block b hb (by simp)
  · have hlt' : a < al a := by omega
    have hn1 : npt n al (a + 1) = npt n al a + 1 := by rw [npt_next, if_pos hlt']
    have hmid : midN n al a = npt n al a := mid_new hlt'
    have hno := numS_no (n := n) HO.out ha hlt' (Nat.le_refl a)
    have hnp : npt n al a ≤ 64 + 3 * 96 := by
      unfold npt
      have := cnB_le (newB al) a
      omega
    have HNO := Lib.hid hno
    have HN1 := Lib.hid hn1
    have HMID := Lib.hid hmid
    clear hno hn1
    obtain ⟨np, hnpe⟩ : ∃ np, npt n al a = np := ⟨_, rfl⟩
    have HNP := Lib.hid hnpe
    have hS2 := HS.out
    rw [hnpe] at hS2 hnp
    obtain ⟨A2, cp2, rfl, hcp⟩ := own_sl hS2.msh.p
    obtain ⟨m0, m1, z0, z1⟩ := cells2 hS2.msh.q
    have LM : Lower mb w.heap.size := ⟨cell_lt m0⟩
    clear hS2 hnpe hmid
    go_enter Try.func106, Try.ntmps106
    go_wp2_with (at_lookup; refine wp_lookO _ (by rfl) _ _ _ rfl (Keyed.of_law lawSide) Try.underlying78 Try.underlying3 (zeroInt _) B (2 * a) (numS n al F a) (HS.out.map.kept (by (repeat (first | exact Kept.refl _ | assumption | refine Kept.alloc ?_ _ | refine Kept.ext ?_ _ | refine Kept.drew ?_ | refine Kept.drewN ?_ _)))) (tl F a, tl F (nxt a)) rfl rfl HSD.out (keyOf_side _ HSD.out) 0 false (by rw [HNO.out]; rfl) (by rw [HNO.out]; rfl) ?_)
    refine wp_region_tellC (C := fun W' => World.grownBy (w.alloc (.cells #[.int .i64 (tl F a), .int .i64 (tl F (nxt a))] 81)) W' (some B)) [.q, .q, .q, .q, .q, .q, .q, .k undef, .k undef] (fun L _ w' => TwoP (w.alloc (.cells #[.int .i64 (tl F a), .int .i64 (tl F (nxt a))] 81)) B (2 * a) (tl F a, tl F (nxt a)) (tl F (nxt a), tl F a) (np : Int) (numS n al F a) L w') (by kernel_rfl) (by kernel_rfl) (fun b => by kernel_rfl) ?_ ?_ ?_ ?_
    · exact fun b => ⟨grownBy_kept _ (by (repeat (first | exact Kept.refl _ | assumption | refine Kept.alloc ?_ _ | refine Kept.ext ?_ _ | refine Kept.drew ?_ | refine Kept.drewN ?_ _))), fun h => (by cases h), fun _ => HS.out.map.kept (by (repeat (first | exact Kept.refl _ | assumption | refine Kept.alloc ?_ _ | refine Kept.ext ?_ _ | refine Kept.drew ?_ | refine Kept.drewN ?_ _))), fun h => (by cases h), fun h => (by cases h)⟩
    · intro i L b w' w'' hs hI hk
      exact (hI.on hk).other (by rintro rfl; cases hs) (by rintro rfl; cases hs)
    · exact fun L b w' h => h.gr
    apply Exists.intro
    refine ⟨?_, ?_, ?_, ?_⟩
    · rintro b W' hg
      have hq : W'.heap[qb]? = some (.cells #[.map (some B)] 78 (0, 0)) := by
        have h := (HS.out.on (by (repeat (first | exact Kept.refl _ | assumption | refine Kept.alloc ?_ _ | refine Kept.ext ?_ _ | refine Kept.drew ?_ | refine Kept.drewN ?_ _)) : Kept w (w.alloc (.cells #[.int .i64 (tl F a), .int .i64 (tl F (nxt a))] 81)))).qv
        rw [hg.block qb (Array.getElem?_eq_some_iff.1 h).1 (fun e => HS.out.map.ne HS.out.qv (Option.some.inj e))]
        exact h
      have q0 : W'.cell? ⟨qb, 0, none⟩ = some (.map (some B)) := by
        unfold World.cell?
        simp only [hq]
        rfl
      have hs : W'.heap[w.heap.size]? = some (.cells #[.int .i64 (tl F a), .int .i64 (tl F (nxt a))] 81 (0, 0)) := by
        have h := alloc_now w (.cells #[.int .i64 (tl F a), .int .i64 (tl F (nxt a))] 81) w.heap.size
        rw [hg.block _ (Array.getElem?_eq_some_iff.1 h).1 (fun e => (HS.out.map.kept (by (repeat (first | exact Kept.refl _ | assumption | refine Kept.alloc ?_ _ | refine Kept.ext ?_ _ | refine Kept.drew ?_ | refine Kept.drewN ?_ _)) : Kept w (w.alloc (.cells #[.int .i64 (tl F a), .int .i64 (tl F (nxt a))] 81)))).ne h (Option.some.inj e))]
        exact h
      obtain ⟨s0, s1, -, -⟩ := cells2 hs
      have LQ' : Lower qb W'.heap.size := ⟨cell_lt q0⟩
      have LS' : Lower w.heap.size W'.heap.size := ⟨cell_lt s0⟩
      simp only [swapL, Nat.reduceAdd]
      repeat (go_big_quiet_step (first | (go_at_call 78; exact Calls.kept_of (sback_any _ _ _))))
      refine wpQuiet_nil ?_
      rfl
    · simp only [EachS, and_true]
      refine ⟨?_, ?_⟩
      · intro L b w' hd hL hI
        refine tells_putO (.tmp 20) (.tmp 21) (.tmp 25) rfl (Keyed.of_law lawSide) Try.underlying78 Try.underlying3 (hI.m0 hL) (by unfold maxLen; omega) (tl F a, tl F (nxt a)) np (by unfold I64; omega) (keyOf_side _ HSD.out) (fun j e => sideV_inj _ _ e) rfl rfl rfl ?_
        exact fun w'' h1 h2 => ⟨rfl, hI.op7 hL h2 h1⟩
      · intro L b w' hd hL hI
        have d7 : L 7 = true := hd { on := 7, ground := .phase } (by simp) rfl
        refine tells_putO (.tmp 22) (.tmp 24) (.tmp 26) rfl (Keyed.of_law lawSide) Try.underlying78 Try.underlying3 (hI.m7 d7 hL) (by unfold maxLen; omega) (tl F (nxt a), tl F a) np (by unfold I64; omega) (keyOf_side _ HSB.out) (fun j e => sideV_inj _ _ e) rfl rfl rfl ?_
        exact fun w'' h1 h2 => ⟨rfl, hI.op8 d7 h2 h1⟩
    · intro b b' d hd
      simp [callSlots, dullOp] at hd
      try (subst hd; rfl)
    · intro L b w3 hL hI
      have h8 := hI.m8 (hL 8 (by decide))
      have hg := hI.gr
      have hS1 := HS.out.on (by (repeat (first | exact Kept.refl _ | assumption | refine Kept.alloc ?_ _ | refine Kept.ext ?_ _ | refine Kept.drew ?_ | refine Kept.drewN ?_ _)) : Kept w (w.alloc (.cells #[.int .i64 (tl F a), .int .i64 (tl F (nxt a))] 81)))
      have hM3 := Msh2.byMap hS1.msh hS1.map hB hg
      have hq3 : w3.heap[qb]? = some (.cells #[.map (some B)] 78 (0, 0)) := by
        rw [hg.block qb (Array.getElem?_eq_some_iff.1 hS1.qv).1 (fun e => hS1.map.ne hS1.qv (Option.some.inj e))]
        exact hS1.qv
      have hs3 : w3.heap[w.heap.size]? = some (.cells #[.int .i64 (tl F a), .int .i64 (tl F (nxt a))] 81 (0, 0)) := by
        have h := alloc_now w (.cells #[.int .i64 (tl F a), .int .i64 (tl F (nxt a))] 81) w.heap.size
        rw [hg.block _ (Array.getElem?_eq_some_iff.1 h).1 (fun e => hS1.map.ne h (Option.some.inj e))]
        exact h
      rw [HNP.out] at hM3
      have hsz3 : w.heap.size ≤ w3.heap.size := Nat.le_trans (by simp) hg.size
      have hoth : ∀ b, b < w.heap.size → b ≠ B → w3.heap[b]? = w.heap[b]? := fun b hb hne => by
        rw [hg.block b (by simp; omega) (fun e => hne (Option.some.inj e))]
        exact (by (repeat (first | exact Kept.refl _ | assumption | refine Kept.alloc ?_ _ | refine Kept.ext ?_ _ | refine Kept.drew ?_ | refine Kept.drewN ?_ _)) : Kept w (w.alloc (.cells #[.int .i64 (tl F a), .int .i64 (tl F (nxt a))] 81))).grown.block b hb (by simp)
      have hBl := h8.lt
      have hBo := h8.neOwn hM3.p
      have hBm : B ≠ mb := fun e => h8.ne hM3.q e.symm
      have H8 := Lib.hid h8
      have HM3 := Lib.hid hM3
      have HQ3 := Lib.hid hq3
      have HS3 := Lib.hid hs3
      have HOT := Lib.hid hoth
      obtain ⟨m0, m1, z0, z1⟩ := cells2 hM3.q
      have LM : Lower mb w3.heap.size := ⟨cell_lt m0⟩
      clear h8 hg hS1 hM3 hq3 hs3 hI hL hoth
      -- the ends of the side
      have e0 := hin (a / 3) (by omega) (a % 3) (Nat.mod_lt _ (by omega))
      have e1 := hin (nxt a / 3) (by rw [nxt_div]; omega) (nxt a % 3) (Nat.mod_lt _ (by omega))
      have e0' : 0 ≤ tl F a ∧ tl F a < n := e0
      have e1' : 0 ≤ tl F (nxt a) ∧ tl F (nxt a) < n := e1
      obtain ⟨ka, hka⟩ : ∃ k, (tl F a).toNat = k := ⟨_, rfl⟩
      obtain ⟨kb, hkb⟩ : ∃ k, (tl F (nxt a)).toNat = k := ⟨_, rfl⟩
      have hkal : ka < n := by omega
      have hkbl : kb < n := by omega
      have pa := fun j hj => hbd ka hkal j hj
      have pb := fun j hj => hbd kb hkbl j hj
      have pa0 := pa 0 (by omega)
      have pa1 := pa 1 (by omega)
      have pa2 := pa 2 (by omega)
      have pb0 := pb 0 (by omega)
      have pb1 := pb 1 (by omega)
      have pb2 := pb 2 (by omega)
      have hpl : ∀ w', Calls Try.prog 86 #[.agg #[.int .i64 (P ka 0), .int .i64 (P ka 1), .int .i64 (P ka 2)], .int .i64 1, .agg #[.int .i64 (P kb 0), .int .i64 (P kb 1), .int .i64 (P kb 2)]] w' fun e w'' => e = .returned (.agg #[.int .i64 (P ka 0 + P kb 0), .int .i64 (P ka 1 + P kb 1), .int .i64 (P ka 2 + P kb 2)]) ∧ Kept w' w'' := fun w' => by
        have := splus_any (P ka 0) (P ka 1) (P ka 2) 1 (P kb 0) (P kb 1) (P kb 2) w' (by omega) (by omega)
        simpa only [Int.one_mul] using this
      have HPL := Lib.hid hpl
      have u : ∀ j, finP n m P F al np j = P ka j + P kb j := fun j => by
        have : np - n = cnB (newB al) a := by rw [← HNP.out]; unfold npt; omega
        unfold finP
        rw [if_neg (by rw [← HNP.out]; unfold npt; omega), this, fsel_at (by unfold newB; simpa using hlt') ha, hka, hkb]
      have HU := Lib.hid u
      clear e0 e1 pa pb hpl u
      obtain ⟨b, off, rfl, -, -⟩ := rows3 HP.out hkal
      go_wp2_with fail
      refine wp_region_tellC (C := fun W' => Kept W W' ∧ ∀ x ∈ restL w3 mb (.slice A2 np cp2), W'.heap[x.1]? = some x.2) [.q, .k (.slice A2 np cp2), .q, .q, .q, .q, .q, .q, .q, .q, .q, .q, .q, .q, .q, .s, .s, .q, .k undef] (AppX 1 15 16 18 W rb mb (restL w3 mb (.slice A2 np cp2)) (.slice A2 np cp2) np (finP n m P F al) vF nf F') (by kernel_rfl) (by kernel_rfl) (fun b => by kernel_rfl) ?_ ?_ ?_ ?_
      · exact fun bb => AppX.start HM3.out (by (repeat (first | exact Kept.refl _ | assumption | refine Kept.alloc ?_ _ | refine Kept.ext ?_ _ | refine Kept.drew ?_ | refine Kept.drewN ?_ _))) (fun x hx => fr_kept (mem_restL.1 hx).1 (by (repeat (first | exact Kept.refl _ | assumption | refine Kept.alloc ?_ _ | refine Kept.ext ?_ _ | refine Kept.drew ?_ | refine Kept.drewN ?_ _)))) (fun x hx => ⟨(mem_restL.1 hx).2.2, (mem_restL.1 hx).2.1⟩)
      · intro i L b w' w'' hs hI hk
        exact (hI.on hk).other (by rintro rfl; cases hs) (by rintro rfl; cases hs) (by rintro rfl; cases hs) (by rintro rfl; cases hs)
      · exact fun L b w' h => ⟨h.kept, h.pk⟩
      apply Exists.intro
      refine ⟨?_, ?_, ?_, ?_⟩
      · rintro bb W' ⟨hkW, hX⟩
        obtain ⟨s0, s1, -, -⟩ := cells2 (hX (w.heap.size, .cells #[.int .i64 (tl F a), .int .i64 (tl F (nxt a))] 81 (0, 0)) (mem_restL.2 ⟨HS3.out, fun e => by
          have e' : w.heap.size = mb := e
          have h := HS3.out
          rw [e', HM3.out.q] at h
          simp only [Option.some.injEq, Obj.cells.injEq] at h
          exact absurd h.2.1 (by decide), own_ne HM3.out.p HS3.out (by decide)⟩))
        obtain ⟨g0, g1, -, -⟩ := cells2 (fr_kept HM.out hkW)
        have LS' : Lower w.heap.size W'.heap.size := ⟨cell_lt s0⟩
        have LGM : Lower gm W'.heap.size := ⟨cell_lt g0⟩
        obtain ⟨b', off', eb, hb, f0, f1, f2⟩ := rows3 (HP.out.of hkW) hkal
        cases eb
        obtain ⟨b', off', eb, hb', q0, q1, q2⟩ := rows3 (HP.out.of hkW) hkbl
        cases eb
        have LB : Lower b W'.heap.size := ⟨hb⟩
        clear hkW hX
        simp only [swapL, Nat.reduceAdd]
        repeat (go_big_quiet_step (first | (go_at_call 86; exact Calls.kept_of (HPL.out _))))
        refine wpQuiet_nil ?_
        rfl
      · simp only [EachS, and_true]
        refine ⟨?_, ?_, ?_, ?_⟩
        · intro L b w' hd hL hI
          have h0 := hI.v0 hL
          have LQ : Lower mb w'.heap.size := ⟨cell_lt h0⟩
          go_simp
          exact ⟨rfl, hI.op1 (by omega) hL⟩
        · intro L b w' hd hL hI
          have h5 := hI.op5 (by omega)
          rw [HU.out 0, HU.out 1, HU.out 2] at h5
          go_simp
          exact ⟨rfl, h5⟩
        · intro L b w' hd hL hI
          have d5 : L 15 = true := hd { on := 15, ground := .data } (by simp) rfl
          obtain ⟨g5, e5, e6⟩ := hI.n5 d5
          have hs := hI.s hL
          refine tells_append (.tmp 28) (.tmp 42) 22 (by rfl) _ 34 i0 _ 3 24 Try.underlying22 HJP.out.1 HJP.out.2.1 HJP.out.2.2.1 HJP.out.2.2.2 (by rfl) (by omega) (kept_le hI.kept) _ np (rowC 3 (finP n m P F al) np) (by rfl) hs (some ⟨g5, 0, none⟩) 1 1 _ e5 (one_rows (e6 hL) ⟨by rw [HU.out 0]; unfold I64; omega, by rw [HU.out 1]; unfold I64; omega, by rw [HU.out 2]; unfold I64; omega⟩) (by unfold maxLen; omega) (by omega) ?_
          intro v' w'' k1 k2 k3
          rw [rowC_one3, ← rowC_succ3] at k1
          exact ⟨rfl, hI.op6 (by omega) hL k1 k2⟩
        · intro L b w' hd hL hI
          have d1 : L 1 = true := hd { on := 1, ground := .phase } (by simp) rfl
          have d6 : L 16 = true := hd { on := 16, ground := .phase } (by simp) rfl
          have h8 := hI.op8 (u := undef) (by omega) d1 d6 hL hrb hmb
          obtain ⟨q0, -, q1, -⟩ := cells2 hI.q
          obtain ⟨A6, c6, e6⟩ := own_slice2 (hI.t d6)
          rw [e6] at h8
          have LQ : Lower mb w'.heap.size := ⟨cell_lt q0⟩
          go_simp
          exact ⟨rfl, h8⟩
      · intro b b' d hd
        simp [callSlots, dullOp] at hd
        try (subst hd; rfl)
      · intro L b w' hL hI
        have hM4 := hI.done (hL 16 (by decide)) (hL 18 (by decide))
        have hX := hI.pk
        have hX4 : ∀ c, c < w3.heap.size → c ≠ mb → some c ≠ (Value.slice A2 np cp2).ownBlock → w'.heap[c]? = w3.heap[c]? := fun c hc h1 h2 => by
          have hc' : w3.heap[c]? = some (w3.heap[c]) := Array.getElem?_eq_getElem hc
          rw [hc']
          exact hX (c, w3.heap[c]) (mem_restL.2 ⟨hc', h1, h2⟩)
        have hsz4 : w.heap.size ≤ w'.heap.size := by
          have := hX (w.heap.size, .cells #[.int .i64 (tl F a), .int .i64 (tl F (nxt a))] 81 (0, 0)) (mem_restL.2 ⟨HS3.out, fun e => by
            have e' : w.heap.size = mb := e
            have h := HS3.out
            rw [e', HM3.out.q] at h
            simp only [Option.some.injEq, Obj.cells.injEq] at h
            exact absurd h.2.1 (by decide), own_ne HM3.out.p HS3.out (by decide)⟩)
          exact Nat.le_of_lt (Array.getElem?_eq_some_iff.1 this).1
        have HM4 := Lib.hid hM4
        have HX4 := Lib.hid hX4
        have HSZ4 := Lib.hid hsz4
        clear hM4 hX hX4 hL hI hsz4
        go_wp2_with fail
        refine bodyPost_ret (by simp only [results, Try.results106]; go_simp; rfl) rfl ?_
        refine ⟨by rw [HMID.out, HNP.out], b 16, ⟨by rw [HN1.out, HNP.out]; exact HM4.out, ?_, ?_⟩, HSZ4.out, fun c hc h1 h2 h3 => ?_⟩
        · have e : numS n al F (a + 1) = fun s => if s = (tl F (nxt a), tl F a) then some (np : Int) else if s = (tl F a, tl F (nxt a)) then some (np : Int) else numS n al F a s := by
            funext s
            show (if s = (tl F (nxt a), tl F a) then some ((midN n al a : Nat) : Int) else if s = (tl F a, tl F (nxt a)) then some ((midN n al a : Nat) : Int) else numS n al F a s) = _
            rw [HMID.out, HNP.out]
          rw [e]
          exact H8.out.heap (HX4.out B hBl hBm (fun e => hBo e.symm))
        · rw [HX4.out qb (Array.getElem?_eq_some_iff.1 HQ3.out).1 (fun e => ?_) (own_ne HM3.out.p HQ3.out (by decide))]
          · exact HQ3.out
          · have h := HQ3.out
            rw [e, HM3.out.q] at h
            simp only [Option.some.injEq, Obj.cells.injEq] at h
            exact absurd h.2.1 (by decide)
        · rw [HX4.out c (by omega) h1 h3]
          exact HOT.out c hc h2
end Go.Proofs.Ytoadlneneijfaaa
