/- Contracts: the library's texts of numbers, numbers of texts, cuts, beginnings, pieces, as the desk uses them. Conditions: the library's variables hold what start-up lays. -/
import Derived.Test.YtnbjealpcjfllaaGreatDoorTx
import Derived.Test.YtnbjealpcjfllaaGreatDoorShelf
import Derived.Test.YtnbjealpcjfllaaGreatDoorMef
import Derived.Lib.SmallJoins
import Derived.WalkSmall
import Derived.Lib.QuietBelow
namespace Go.Proofs.YtnbjealpcjfllaaGreatDoor
set_option linter.unusedVariables false
set_option linter.unusedSimpArgs false
open Go.ChangeShapes Go.WideShapes Go.ChangeAt Go.RowKit
/-- What start-up lays in the library's variables. -/
structure Ld (w : World) : Prop where
  tab : Lib.TabIs Tryz.prog w "internal/strconv.uint64pow10" .u64 Lib.pow10Tab
  sz : 5 ≤ w.heap.size
  mx : ∃ m, w.cell? ⟨1, 0, none⟩ = some (.int .i64 m)
  sy : ∃ te pe, w.cell? ⟨2, 0, none⟩ = some (.iface te pe)
  rg : ∃ te pe, w.cell? ⟨3, 0, none⟩ = some (.iface te pe)
theorem gPow : Tryz.prog.globalNamed "internal/strconv.uint64pow10" = some 4 := by kernel_rfl
theorem cell_old {w w' : World} {a : Addr} {v : Value} (h : w.cell? a = some v) (hl : a.block < w.heap.size) (hk : Kept w w') : w'.cell? a = some v := by
  obtain ⟨x, rfl⟩ := hk
  unfold World.cell? at *
  rw [ext_block _ _ _ hl]
  exact h
theorem kept_size {w w' : World} (hk : Kept w w') : w.heap.size ≤ w'.heap.size := by
  obtain ⟨x, rfl⟩ := hk
  rw [ext_size]
  exact adv_le _ _
theorem Ld.on {w w' : World} (h : Ld w) (hk : Kept w w') : Ld w' := by
  obtain ⟨m, hm⟩ := h.mx
  obtain ⟨t1, p1, h1⟩ := h.sy
  obtain ⟨t2, p2, h2⟩ := h.rg
  have hz := h.sz
  exact ⟨Joins.tab_stays gPow h.tab hk.below (Nat.le_refl _), Nat.le_trans hz (kept_size hk), ⟨m, cell_old hm (by show 1 < _; omega) hk⟩, ⟨t1, p1, cell_old h1 (by show 2 < _; omega) hk⟩, t2, p2, cell_old h2 (by show 3 < _; omega) hk⟩
theorem kept_grow {w : World} (k : Nat) (os : Array Obj) : Kept w (Sort.grow (w.drewN k) os) := by
  refine Kept.of_below ((below_drewN (Below.refl _ _) k).trans ?_)
  have := below_regrown (w.drewN k) (w.drewN k).drawn os
  exact this
theorem sItoa (n : Int) (w : World) (hn : -9223372036854775808 ≤ n ∧ n ≤ 9223372036854775807) (h : Ld w) :
    Calls Tryz.prog 80 #[.int .i64 n] w fun e w' => e = .returned (.string ⟨(Lib.itoa n).toArray⟩) ∧ Kept w w' :=
  (Tryz.strconv_Itoa n hn.1 hn.2 w h.tab).mono fun e w' ⟨h1, k, os, h2⟩ => ⟨h1, by rw [h2]; exact kept_grow k os⟩
theorem kept_bytes {w : World} (e : TypeId) (s : ByteArray) : Kept w (Lib.bytesWorld w e s) := Kept.of_below (Joins.below_bytesWorld _ _ _ _ (Nat.le_refl _))
/-- strconv.Atoi at every text. -/
theorem sAtoi (s : ByteArray) (w : World) (hs : s.size ≤ 281474976710656) (h : Ld w) :
    Calls Tryz.prog 110 #[.string s] w fun e w' => ∃ v ev, e = .returned (.tuple #[.int .i64 v, ev]) ∧ Kept w w' ∧ I64 v ∧ ((ev = .nilIface ∧ Lib.atoiAll s.data.toList = .ok v) ∨ ((∃ t p, ev = .iface t p) ∧ ∀ u, Lib.atoiAll s.data.toList ≠ .ok u)) := by
  rcases hr : Lib.atoiAll s.data.toList with v | _ | _
  · refine (Tryz.strconv_Atoi_ok s (by omega) v hr w).mono ?_
    rintro e w' ⟨rfl, h1⟩
    have hb := Lib.atoiAll_bounds hr
    refine ⟨v, _, rfl, ?_, by unfold I64; omega, .inl ⟨rfl, rfl⟩⟩
    rcases h1 with rfl | ⟨t, rfl⟩
    · exact Kept.refl _
    · exact kept_bytes _ _
  · obtain ⟨te, pe, hc⟩ := h.sy
    refine (Tryz.strconv_Atoi_no s hs (fun u hu => by rw [hr] at hu; cases hu) (fun hu => by rw [hr] at hu; cases hu) _ w hc (.inr ⟨te, pe, rfl⟩)).mono ?_
    rintro e w' ⟨N, rfl, h1, h2, h3⟩
    exact ⟨0, _, rfl, Kept.of_below h3, by unfold I64; omega, .inr ⟨⟨_, _, rfl⟩, fun u hu => by cases hu⟩⟩
  · obtain ⟨te, pe, hc⟩ := h.rg
    refine (Tryz.strconv_Atoi_range s hs hr _ w hc (.inr ⟨te, pe, rfl⟩)).mono ?_
    rintro e w' ⟨N, rfl, h1, h2, h3⟩
    refine ⟨_, _, rfl, Kept.of_below h3, ?_, .inr ⟨⟨_, _, rfl⟩, fun u hu => by cases hu⟩⟩
    unfold Lib.atoiSat I64
    split <;> omega
theorem sCut (s c : ByteArray) (w : World) (hs : s.size < 4294967281) (h : Ld w) :
    Calls Tryz.prog 48 #[.string s, .string c] w fun e w' => e = .returned (.tuple #[.string ⟨(Lib.cut s.data.toList c.data.toList).1.toArray⟩, .string ⟨(Lib.cut s.data.toList c.data.toList).2.1.toArray⟩, .bool (Lib.cut s.data.toList c.data.toList).2.2]) ∧ Kept w w' := by
  obtain ⟨m, hm⟩ := h.mx
  refine (Tryz.strings_Cut s c m w hs hm).mono ?_
  rintro e w' ⟨rfl, n, rfl⟩
  exact ⟨rfl, Kept.of_below (below_drewN (Below.refl _ _) n)⟩
theorem sSplit (s c : ByteArray) (w : World) (hs : s.size < 4294967281) (hc : 1 ≤ c.size) (h : Ld w) :
    Calls Tryz.prog 107 #[.string s, .string c] w fun e w' => e = .returned (.slice (some ⟨w.heap.size, 0, none⟩) (Lib.countB s c + 1) (Lib.countB s c + 1)) ∧ w' = w.alloc (.cells ((Lib.splitB c 0 (Lib.countB s c) s).map Value.string).toArray 9) := by
  obtain ⟨m, hm⟩ := h.mx
  exact Tryz.strings_Split s c m w hs hm hc
theorem sHas (s p : ByteArray) (w : World) :
    Calls Tryz.prog 50 #[.string s, .string p] w fun e w' => e = .returned (.bool (Lib.hasPrefix s.data.toList p.data.toList)) ∧ w = w' :=
  (Tryz.strings_HasPrefix s p w).mono fun e w' ⟨h1, h2⟩ => ⟨h1, h2.symm⟩
end Go.Proofs.YtnbjealpcjfllaaGreatDoor
