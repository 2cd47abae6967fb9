-- written by this session's gprint.py (patches over the kit's print): not a print of print.sh
import Derived.Test.YtbmgajddhfjchaaDoorCtObjBx0
import Derived.Test.YtbmgajddhfjchaaDoorCtObjBx4
namespace Go.Proofs.YtbmgajddhfjchaaDoor.Obj
open Go.RowKit Go.Proofs.YtbmgajddhfjchaaDoorW.PrintWords Go.Proofs.YtbmgajddhfjchaaDoorW.PrintLast Go.Proofs.YtbmgajddhfjchaaDoorW.PrintMore
attribute [local go_sem] max2_int min2_int max_two min_two max_three min_three max_four min_four   -- for this text's walks alone
set_option linter.unusedVariables false
set_option linter.unusedSimpArgs false

/-! ### parquetref21_Same: function 11 -/
mutual
def parquetref21_Same.j0 : Nat → Bool → List (S47) → Int → List (List Int) → List (S47) → Int → List (List Int) → Option (Bool)
  | 0, _, _, _, _, _, _, _ => none
  | k + 1, x27, x121000, x121001, x121002, x122000, x122001, x122002 => if x27 = true then (some false) else (parquetref21_Same.l0 k 0 x121000 x121001 x121002 x122000 x122001 x122002)
def parquetref21_Same.l0 : Nat → Int → List (S47) → Int → List (List Int) → List (S47) → Int → List (List Int) → Option (Bool)
  | 0, _, _, _, _, _, _, _ => none
  | k + 1, x5, x121000, x121001, x121002, x122000, x122001, x122002 => if x5 < (x121002.length : Int) then (if 0 ≤ x5 then (if x5 < (x122002.length : Int) then ((parquetref00_SameInts.f k (rd_L13 x121002 x5) (rd_L13 x122002 x5)).bind fun t125 => (if t125 = true then (parquetref21_Same.l0 k (wrap64 (x5 + 1)) x121000 x121001 x121002 x122000 x122001 x122002) else (some false))) else (none)) else (none)) else (some true)
end
def parquetref21_Same.f (k : Nat) (l0_0 : List (S47)) (a0_1 : Int) (l0_2 : List (List Int)) (l1_0 : List (S47)) (a1_1 : Int) (l1_2 : List (List Int)) : Option (Bool) := (parquetref05_SamePoints.f k l0_0 l1_0).bind fun t122 => (if t122 = true then (if a0_1 = a1_1 then (parquetref21_Same.j0 k ((l0_2.length : Int) != (l1_2.length : Int)) l0_0 a0_1 l0_2 l1_0 a1_1 l1_2) else (parquetref21_Same.j0 k true l0_0 a0_1 l0_2 l1_0 a1_1 l1_2)) else (parquetref21_Same.j0 k true l0_0 a0_1 l0_2 l1_0 a1_1 l1_2))
theorem parquetref21_Same.mono_l : ∀ k, (∀ y0 y1 y2 y3 y4 y5 y6, LeO (parquetref21_Same.j0 k y0 y1 y2 y3 y4 y5 y6) (parquetref21_Same.j0 (k + 1) y0 y1 y2 y3 y4 y5 y6)) ∧ (∀ y0 y1 y2 y3 y4 y5 y6, LeO (parquetref21_Same.l0 k y0 y1 y2 y3 y4 y5 y6) (parquetref21_Same.l0 (k + 1) y0 y1 y2 y3 y4 y5 y6))
  | 0 => ⟨fun _ _ _ _ _ _ _ r h => by simp [parquetref21_Same.j0] at h, fun _ _ _ _ _ _ _ r h => by simp [parquetref21_Same.l0] at h⟩
  | k + 1 => by
    obtain ⟨ih0, ih1⟩ := parquetref21_Same.mono_l k
    refine ⟨?_, ?_⟩
    · intro y0 y1 y2 y3 y4 y5 y6
      unfold parquetref21_Same.j0
      repeat' first
      | (with_reducible exact ih0 _ _ _ _ _ _ _)
      | (with_reducible exact ih1 _ _ _ _ _ _ _)
      | (with_reducible exact parquetref00_SameInts.mono _ _ _)
      | (with_reducible exact parquetref05_SamePoints.mono _ _ _)
      | (with_reducible exact LeO.refl _)
      | (with_reducible exact LeO.none _)
      | (with_reducible refine LeO.ite ?_ ?_)
      | (with_reducible refine LeO.bind ?_ (fun _ => ?_))
      | exact ih0 _ _ _ _ _ _ _
      | exact ih1 _ _ _ _ _ _ _
      | exact parquetref00_SameInts.mono _ _ _
      | exact parquetref05_SamePoints.mono _ _ _
      | exact LeO.none _
      | refine LeO.ite ?_ ?_
      | refine LeO.bind ?_ (fun _ => ?_)
    · intro y0 y1 y2 y3 y4 y5 y6
      unfold parquetref21_Same.l0
      repeat' first
      | (with_reducible exact ih0 _ _ _ _ _ _ _)
      | (with_reducible exact ih1 _ _ _ _ _ _ _)
      | (with_reducible exact parquetref00_SameInts.mono _ _ _)
      | (with_reducible exact parquetref05_SamePoints.mono _ _ _)
      | (with_reducible exact LeO.refl _)
      | (with_reducible exact LeO.none _)
      | (with_reducible refine LeO.ite ?_ ?_)
      | (with_reducible refine LeO.bind ?_ (fun _ => ?_))
      | exact ih0 _ _ _ _ _ _ _
      | exact ih1 _ _ _ _ _ _ _
      | exact parquetref00_SameInts.mono _ _ _
      | exact parquetref05_SamePoints.mono _ _ _
      | exact LeO.none _
      | refine LeO.ite ?_ ?_
      | refine LeO.bind ?_ (fun _ => ?_)
theorem parquetref21_Same.mono : ∀ a0 a1 a2 a3 a4 a5 k, LeO (parquetref21_Same.f k a0 a1 a2 a3 a4 a5) (parquetref21_Same.f (k + 1) a0 a1 a2 a3 a4 a5) := by
  intro a0 a1 a2 a3 a4 a5 k
  obtain ⟨ih0, ih1⟩ := parquetref21_Same.mono_l k
  unfold parquetref21_Same.f
  repeat' first
      | (with_reducible exact ih0 _ _ _ _ _ _ _)
      | (with_reducible exact ih1 _ _ _ _ _ _ _)
      | (with_reducible exact parquetref00_SameInts.mono _ _ _)
      | (with_reducible exact parquetref05_SamePoints.mono _ _ _)
      | (with_reducible exact LeO.refl _)
      | (with_reducible exact LeO.none _)
      | (with_reducible refine LeO.ite ?_ ?_)
      | (with_reducible refine LeO.bind ?_ (fun _ => ?_))
      | exact ih0 _ _ _ _ _ _ _
      | exact ih1 _ _ _ _ _ _ _
      | exact parquetref00_SameInts.mono _ _ _
      | exact parquetref05_SamePoints.mono _ _ _
      | exact LeO.none _
      | refine LeO.ite ?_ ?_
      | refine LeO.bind ?_ (fun _ => ?_)
set_option maxHeartbeats 8000000 in
set_option maxRecDepth 100000 in
theorem parquetref21_Same.calls (k : Nat) (A0_0 : Option Addr) (c0_0 : Nat) (l0_0 : List (S47)) (a0_1 : Int) (A0_2 : Option Addr) (c0_2 : Nat) (l0_2 : List (List Int)) (A1_0 : Option Addr) (c1_0 : Nat) (l1_0 : List (S47)) (a1_1 : Int) (A1_2 : Option Addr) (c1_2 : Nat) (l1_2 : List (List Int)) (r : Bool) (w : World) (hr0_0 : Kd.C k47 w A0_0 l0_0.length l0_0) (hc0_0 : l0_0.length ≤ c0_0) (hr0_2 : Kd.C (Kd.slice 3 (Kd.int .i64)) w A0_2 l0_2.length l0_2) (hc0_2 : l0_2.length ≤ c0_2) (hr1_0 : Kd.C k47 w A1_0 l1_0.length l1_0) (hc1_0 : l1_0.length ≤ c1_0) (hr1_2 : Kd.C (Kd.slice 3 (Kd.int .i64)) w A1_2 l1_2.length l1_2) (hc1_2 : l1_2.length ≤ c1_2) (h : parquetref21_Same.f k l0_0 a0_1 l0_2 l1_0 a1_1 l1_2 = some r) :
    Calls Tryd.prog 11 #[.agg #[.slice A0_0 l0_0.length c0_0, .int .i64 a0_1, .slice A0_2 l0_2.length c0_2], .agg #[.slice A1_0 l1_0.length c1_0, .int .i64 a1_1, .slice A1_2 l1_2.length c1_2]] w fun e w' => e = .returned (.bool r) ∧ Below w.heap.size w w' := by
  have hu25 := Tryd.underlying25
  have HR0_0 := Aside0.mk hr0_0
  have HC0_0 := Aside0.mk hc0_0
  clear hr0_0 hc0_0
  have HR0_2 := Aside0.mk hr0_2
  have HC0_2 := Aside0.mk hc0_2
  clear hr0_2 hc0_2
  have HR1_0 := Aside0.mk hr1_0
  have HC1_0 := Aside0.mk hc1_0
  clear hr1_0 hc1_0
  have HR1_2 := Aside0.mk hr1_2
  have HC1_2 := Aside0.mk hc1_2
  clear hr1_2 hc1_2
  have HB := Aside0.mk (Below.refl w.heap.size w)
  have H : ((parquetref05_SamePoints.f k l0_0 l1_0).bind fun t122 => (if t122 = true then (if a0_1 = a1_1 then (parquetref21_Same.j0 k ((l0_2.length : Int) != (l1_2.length : Int)) l0_0 a0_1 l0_2 l1_0 a1_1 l1_2) else (parquetref21_Same.j0 k true l0_0 a0_1 l0_2 l1_0 a1_1 l1_2)) else (parquetref21_Same.j0 k true l0_0 a0_1 l0_2 l1_0 a1_1 l1_2))) = some r := h
  clear h
  have HC3 := Aside0.mk H
  clear H
  go_enter Tryd.func11, Tryd.ntmps11
  go_upto_region 1 with (first | ((with_reducible refine gate_dst (N := 2) rfl ?_); (try (refine gate_guard (by rfl) ?_; dsimp only)); refine box_event ?hg (N := 2) ?hd (cs := #[.slice A0_0 l0_0.length c0_0, .int .i64 a0_1, .slice A0_2 l0_2.length c0_2]) (t := 25) ?hr ?_; (case hd => rfl); (case hg => rfl); (case hr => first | (go_simp; done) | (go_simp; rfl)); intro gb120 hg w4 hbox hb; have n0_ := Aside0.mk (below_step (by repeat (first | (with_reducible first | exact HB.out | apply below_alloc | apply pw_below_drewN | apply below_drew1) | exact HB.out)) hb); have n1_ := Aside0.mk (hbox); have n2_ := Aside0.mk ((by rw [hg]; exact (below_size (by repeat (first | (with_reducible first | exact HB.out | apply below_alloc | apply pw_below_drewN | apply below_drew1) | exact HB.out))) : w.heap.size ≤ gb120)); have n3_ := Aside0.mk ((by rw [hg]; exact (below_size (by repeat (first | (with_reducible first | exact HB.out | apply below_alloc | apply pw_below_drewN | apply below_drew1) | exact HB.out))) : w.heap.size ≤ gb120)); clear HB; have HB := n0_; have BK120 := n1_; have GW120 := n2_; have GE120 := n3_; clear n0_ n1_ n2_ n3_; clear hb hbox hg) | ((with_reducible refine gate_dst (N := 3) rfl ?_); (try (refine gate_guard (by rfl) ?_; dsimp only)); refine box_event ?hg (N := 3) ?hd (cs := #[.slice A1_0 l1_0.length c1_0, .int .i64 a1_1, .slice A1_2 l1_2.length c1_2]) (t := 25) ?hr ?_; (case hd => rfl); (case hg => rfl); (case hr => first | (go_simp; done) | (go_simp; rfl)); intro gb121 hg w5 hbox hb; have n0_ := Aside0.mk (blk_below (g := gb120) (o := .cells #[.slice A0_0 l0_0.length c0_0, .int .i64 a0_1, .slice A0_2 l0_2.length c0_2] 25 (0, 0)) (by (with_reducible repeat (first | refine blk_drewN ?_ _ | refine blk_drew ?_ | refine blk_alloc ?_ _)); exact BK120.out) hb); have n1_ := Aside0.mk (below_step (by repeat (first | (with_reducible first | exact HB.out | apply below_alloc | apply pw_below_drewN | apply below_drew1 | refine below_set ?_ GE120.out) | exact HB.out)) hb); have n2_ := Aside0.mk (hbox); have n3_ := Aside0.mk ((by rw [hg]; exact (below_size (by repeat (first | (with_reducible first | exact HB.out | apply below_alloc | apply pw_below_drewN | apply below_drew1 | refine below_set ?_ GE120.out) | exact HB.out))) : w.heap.size ≤ gb121)); have n4_ := Aside0.mk ((by rw [hg]; exact (below_size (by repeat (first | (with_reducible first | exact HB.out | apply below_alloc | apply pw_below_drewN | apply below_drew1 | refine below_set ?_ GE120.out) | exact HB.out))) : w.heap.size ≤ gb121)); have n5_ := Aside0.mk ((by rw [hg]; exact Nat.ne_of_lt (blk_lt (g := gb120) (o := .cells #[.slice A0_0 l0_0.length c0_0, .int .i64 a0_1, .slice A0_2 l0_2.length c0_2] 25 (0, 0)) (by (with_reducible repeat (first | refine blk_drewN ?_ _ | refine blk_drew ?_ | refine blk_alloc ?_ _)); exact BK120.out)) : gb120 ≠ gb121)); have n6_ := Aside0.mk ((by rw [hg]; exact Nat.ne_of_gt (blk_lt (g := gb120) (o := .cells #[.slice A0_0 l0_0.length c0_0, .int .i64 a0_1, .slice A0_2 l0_2.length c0_2] 25 (0, 0)) (by (with_reducible repeat (first | refine blk_drewN ?_ _ | refine blk_drew ?_ | refine blk_alloc ?_ _)); exact BK120.out)) : gb121 ≠ gb120)); clear BK120; clear HB; have BK120 := n0_; have HB := n1_; have BK121 := n2_; have GW121 := n3_; have GE121 := n4_; have NB120_121 := n5_; have NB121_120 := n6_; clear n0_ n1_ n2_ n3_ n4_ n5_ n6_; clear hb hbox hg))
  repeat (go_quiet (first | ((with_reducible refine gate_dst (N := 2) rfl ?_); (try (refine gate_guard (by rfl) ?_; dsimp only)); refine box_event ?hg (N := 2) ?hd (cs := #[.slice A0_0 l0_0.length c0_0, .int .i64 a0_1, .slice A0_2 l0_2.length c0_2]) (t := 25) ?hr ?_; (case hd => rfl); (case hg => rfl); (case hr => first | (go_simp; done) | (go_simp; rfl)); intro gb120 hg w4 hbox hb; have n0_ := Aside0.mk (below_step (by repeat (first | (with_reducible first | exact HB.out | apply below_alloc | apply pw_below_drewN | apply below_drew1) | exact HB.out)) hb); have n1_ := Aside0.mk (hbox); have n2_ := Aside0.mk ((by rw [hg]; exact (below_size (by repeat (first | (with_reducible first | exact HB.out | apply below_alloc | apply pw_below_drewN | apply below_drew1) | exact HB.out))) : w.heap.size ≤ gb120)); have n3_ := Aside0.mk ((by rw [hg]; exact (below_size (by repeat (first | (with_reducible first | exact HB.out | apply below_alloc | apply pw_below_drewN | apply below_drew1) | exact HB.out))) : w.heap.size ≤ gb120)); clear HB; have HB := n0_; have BK120 := n1_; have GW120 := n2_; have GE120 := n3_; clear n0_ n1_ n2_ n3_; clear hb hbox hg) | ((with_reducible refine gate_dst (N := 3) rfl ?_); (try (refine gate_guard (by rfl) ?_; dsimp only)); refine box_event ?hg (N := 3) ?hd (cs := #[.slice A1_0 l1_0.length c1_0, .int .i64 a1_1, .slice A1_2 l1_2.length c1_2]) (t := 25) ?hr ?_; (case hd => rfl); (case hg => rfl); (case hr => first | (go_simp; done) | (go_simp; rfl)); intro gb121 hg w5 hbox hb; have n0_ := Aside0.mk (blk_below (g := gb120) (o := .cells #[.slice A0_0 l0_0.length c0_0, .int .i64 a0_1, .slice A0_2 l0_2.length c0_2] 25 (0, 0)) (by (with_reducible repeat (first | refine blk_drewN ?_ _ | refine blk_drew ?_ | refine blk_alloc ?_ _)); exact BK120.out) hb); have n1_ := Aside0.mk (below_step (by repeat (first | (with_reducible first | exact HB.out | apply below_alloc | apply pw_below_drewN | apply below_drew1 | refine below_set ?_ GE120.out) | exact HB.out)) hb); have n2_ := Aside0.mk (hbox); have n3_ := Aside0.mk ((by rw [hg]; exact (below_size (by repeat (first | (with_reducible first | exact HB.out | apply below_alloc | apply pw_below_drewN | apply below_drew1 | refine below_set ?_ GE120.out) | exact HB.out))) : w.heap.size ≤ gb121)); have n4_ := Aside0.mk ((by rw [hg]; exact (below_size (by repeat (first | (with_reducible first | exact HB.out | apply below_alloc | apply pw_below_drewN | apply below_drew1 | refine below_set ?_ GE120.out) | exact HB.out))) : w.heap.size ≤ gb121)); have n5_ := Aside0.mk ((by rw [hg]; exact Nat.ne_of_lt (blk_lt (g := gb120) (o := .cells #[.slice A0_0 l0_0.length c0_0, .int .i64 a0_1, .slice A0_2 l0_2.length c0_2] 25 (0, 0)) (by (with_reducible repeat (first | refine blk_drewN ?_ _ | refine blk_drew ?_ | refine blk_alloc ?_ _)); exact BK120.out)) : gb120 ≠ gb121)); have n6_ := Aside0.mk ((by rw [hg]; exact Nat.ne_of_gt (blk_lt (g := gb120) (o := .cells #[.slice A0_0 l0_0.length c0_0, .int .i64 a0_1, .slice A0_2 l0_2.length c0_2] 25 (0, 0)) (by (with_reducible repeat (first | refine blk_drewN ?_ _ | refine blk_drew ?_ | refine blk_alloc ?_ _)); exact BK120.out)) : gb121 ≠ gb120)); clear BK120; clear HB; have BK120 := n0_; have HB := n1_; have BK121 := n2_; have GW121 := n3_; have GE121 := n4_; have NB120_121 := n5_; have NB121_120 := n6_; clear n0_ n1_ n2_ n3_ n4_ n5_ n6_; clear hb hbox hg)); go_upto_region 1 with (first | ((with_reducible refine gate_dst (N := 2) rfl ?_); (try (refine gate_guard (by rfl) ?_; dsimp only)); refine box_event ?hg (N := 2) ?hd (cs := #[.slice A0_0 l0_0.length c0_0, .int .i64 a0_1, .slice A0_2 l0_2.length c0_2]) (t := 25) ?hr ?_; (case hd => rfl); (case hg => rfl); (case hr => first | (go_simp; done) | (go_simp; rfl)); intro gb120 hg w4 hbox hb; have n0_ := Aside0.mk (below_step (by repeat (first | (with_reducible first | exact HB.out | apply below_alloc | apply pw_below_drewN | apply below_drew1) | exact HB.out)) hb); have n1_ := Aside0.mk (hbox); have n2_ := Aside0.mk ((by rw [hg]; exact (below_size (by repeat (first | (with_reducible first | exact HB.out | apply below_alloc | apply pw_below_drewN | apply below_drew1) | exact HB.out))) : w.heap.size ≤ gb120)); have n3_ := Aside0.mk ((by rw [hg]; exact (below_size (by repeat (first | (with_reducible first | exact HB.out | apply below_alloc | apply pw_below_drewN | apply below_drew1) | exact HB.out))) : w.heap.size ≤ gb120)); clear HB; have HB := n0_; have BK120 := n1_; have GW120 := n2_; have GE120 := n3_; clear n0_ n1_ n2_ n3_; clear hb hbox hg) | ((with_reducible refine gate_dst (N := 3) rfl ?_); (try (refine gate_guard (by rfl) ?_; dsimp only)); refine box_event ?hg (N := 3) ?hd (cs := #[.slice A1_0 l1_0.length c1_0, .int .i64 a1_1, .slice A1_2 l1_2.length c1_2]) (t := 25) ?hr ?_; (case hd => rfl); (case hg => rfl); (case hr => first | (go_simp; done) | (go_simp; rfl)); intro gb121 hg w5 hbox hb; have n0_ := Aside0.mk (blk_below (g := gb120) (o := .cells #[.slice A0_0 l0_0.length c0_0, .int .i64 a0_1, .slice A0_2 l0_2.length c0_2] 25 (0, 0)) (by (with_reducible repeat (first | refine blk_drewN ?_ _ | refine blk_drew ?_ | refine blk_alloc ?_ _)); exact BK120.out) hb); have n1_ := Aside0.mk (below_step (by repeat (first | (with_reducible first | exact HB.out | apply below_alloc | apply pw_below_drewN | apply below_drew1 | refine below_set ?_ GE120.out) | exact HB.out)) hb); have n2_ := Aside0.mk (hbox); have n3_ := Aside0.mk ((by rw [hg]; exact (below_size (by repeat (first | (with_reducible first | exact HB.out | apply below_alloc | apply pw_below_drewN | apply below_drew1 | refine below_set ?_ GE120.out) | exact HB.out))) : w.heap.size ≤ gb121)); have n4_ := Aside0.mk ((by rw [hg]; exact (below_size (by repeat (first | (with_reducible first | exact HB.out | apply below_alloc | apply pw_below_drewN | apply below_drew1 | refine below_set ?_ GE120.out) | exact HB.out))) : w.heap.size ≤ gb121)); have n5_ := Aside0.mk ((by rw [hg]; exact Nat.ne_of_lt (blk_lt (g := gb120) (o := .cells #[.slice A0_0 l0_0.length c0_0, .int .i64 a0_1, .slice A0_2 l0_2.length c0_2] 25 (0, 0)) (by (with_reducible repeat (first | refine blk_drewN ?_ _ | refine blk_drew ?_ | refine blk_alloc ?_ _)); exact BK120.out)) : gb120 ≠ gb121)); have n6_ := Aside0.mk ((by rw [hg]; exact Nat.ne_of_gt (blk_lt (g := gb120) (o := .cells #[.slice A0_0 l0_0.length c0_0, .int .i64 a0_1, .slice A0_2 l0_2.length c0_2] 25 (0, 0)) (by (with_reducible repeat (first | refine blk_drewN ?_ _ | refine blk_drew ?_ | refine blk_alloc ?_ _)); exact BK120.out)) : gb121 ≠ gb120)); clear BK120; clear HB; have BK120 := n0_; have HB := n1_; have BK121 := n2_; have GW121 := n3_; have GE121 := n4_; have NB120_121 := n5_; have NB121_120 := n6_; clear n0_ n1_ n2_ n3_ n4_ n5_ n6_; clear hb hbox hg)))
  (try simp only [Act.put, List.setIfInBounds_toArray, List.set_cons_zero, List.set_cons_succ])
  go_cut [27] (fun v27 wc => ∃ (kq : Nat) (x27_2 : Bool), v27 = .bool x27_2 ∧ Aside0 (parquetref21_Same.j0 kq x27_2 l0_0 a0_1 l0_2 l1_0 a1_1 l1_2 = some r) ∧ Aside0 (kq ≤ k) ∧ Aside0 (wc.heap[gb120]? = some (.cells #[(.slice A0_0 l0_0.length c0_0), .int .i64 a0_1, (.slice A0_2 l0_2.length c0_2)] 25 (0, 0))) ∧ Aside0 (wc.heap[gb121]? = some (.cells #[(.slice A1_0 l1_0.length c1_0), .int .i64 a1_1, (.slice A1_2 l1_2.length c1_2)] 25 (0, 0))) ∧ Aside0 (Below w.heap.size w wc))
  case first =>
    have H := HC3.out
    clear HC3
    replace H := Option.bind_eq_some_iff.mp H
    obtain ⟨t122, A60, H⟩ := H
    replace H : (if t122 = true then (if a0_1 = a1_1 then (parquetref21_Same.j0 k ((l0_2.length : Int) != (l1_2.length : Int)) l0_0 a0_1 l0_2 l1_0 a1_1 l1_2) else (parquetref21_Same.j0 k true l0_0 a0_1 l0_2 l1_0 a1_1 l1_2)) else (parquetref21_Same.j0 k true l0_0 a0_1 l0_2 l1_0 a1_1 l1_2)) = some r := H
    have A6 := Aside0.mk A60
    clear A60
    by_cases c7 : t122 = true
    · subst c7
      have H1 : (if a0_1 = a1_1 then (parquetref21_Same.j0 k ((l0_2.length : Int) != (l1_2.length : Int)) l0_0 a0_1 l0_2 l1_0 a1_1 l1_2) else (parquetref21_Same.j0 k true l0_0 a0_1 l0_2 l1_0 a1_1 l1_2)) = some r := by rw [if_pos rfl] at H; exact H
      clear H
      have H := H1
      clear H1
      by_cases c8 : a0_1 = a1_1
      · rw [if_pos c8] at H
        have c8b0 : (a0_1 == a1_1) = true := beq_iff_eq.mpr c8
        have c8b1 : (a0_1 != a1_1) = false := bne_eq_false_iff_eq.mpr c8
        clear c8
        (first | rw [c8b0] | (simp only [i64_w, i32_w]; rw [c8b0]) | skip)
        have H' := Aside0.mk H
        clear H
        have hnb9 := NB120_121.out
        have hnc9 := NB121_120.out
        have hcz10_0 : w5.cell? ⟨gb120, 0, none⟩ = some (.slice A0_0 l0_0.length c0_0) := (blk_cell BK120.out 0).trans rfl
        have hcz10_1 : w5.cell? ⟨gb120, 1, none⟩ = some (.int .i64 a0_1) := (blk_cell BK120.out 1).trans rfl
        have hcz10_2 : w5.cell? ⟨gb120, 2, none⟩ = some (.slice A0_2 l0_2.length c0_2) := (blk_cell BK120.out 2).trans rfl
        have hfz10_0 := blk_frozen BK120.out 0
        have hfz10_1 := blk_frozen BK120.out 1
        have hfz10_2 := blk_frozen BK120.out 2
        have hcz11_0 : w5.cell? ⟨gb121, 0, none⟩ = some (.slice A1_0 l1_0.length c1_0) := (blk_cell BK121.out 0).trans rfl
        have hcz11_1 : w5.cell? ⟨gb121, 1, none⟩ = some (.int .i64 a1_1) := (blk_cell BK121.out 1).trans rfl
        have hcz11_2 : w5.cell? ⟨gb121, 2, none⟩ = some (.slice A1_2 l1_2.length c1_2) := (blk_cell BK121.out 2).trans rfl
        have hfz11_0 := blk_frozen BK121.out 0
        have hfz11_1 := blk_frozen BK121.out 1
        have hfz11_2 := blk_frozen BK121.out 2
        go_wp2_with (first | (go_at_call 22; (with_reducible refine (parquetref05_SamePoints.calls k _ _ l0_0 _ _ l1_0 true _ ?side1 ?side2 ?side3 ?side4 A6.out).mono ?_); (case side1 => repeat (first | exact (Kd.C_below HR0_0.out HB.out) | (with_reducible refine Kd.C_alloc ?_ _) | (with_reducible refine Kd.C_drewN ?_ _) | (with_reducible refine Kd.C_drew ?_))); (case side2 => exact HC0_0.out); (case side3 => repeat (first | exact (Kd.C_below HR1_0.out HB.out) | (with_reducible refine Kd.C_alloc ?_ _) | (with_reducible refine Kd.C_drewN ?_ _) | (with_reducible refine Kd.C_drew ?_))); (case side4 => exact HC1_0.out); rintro e w' ⟨rfl, ⟨nd, rfl⟩⟩; (try first | exact ⟨rfl, _, World.drewN_drewN _ _ _⟩ | exact ⟨rfl, _, Eq.trans (World.drewN_drewN _ _ _) (congrArg (World.drewN _) (Nat.add_assoc _ _ _))⟩)))
        repeat (go_quiet (first | (go_at_call 22; (with_reducible refine (parquetref05_SamePoints.calls k _ _ l0_0 _ _ l1_0 true _ ?side1 ?side2 ?side3 ?side4 A6.out).mono ?_); (case side1 => repeat (first | exact (Kd.C_below HR0_0.out HB.out) | (with_reducible refine Kd.C_alloc ?_ _) | (with_reducible refine Kd.C_drewN ?_ _) | (with_reducible refine Kd.C_drew ?_))); (case side2 => exact HC0_0.out); (case side3 => repeat (first | exact (Kd.C_below HR1_0.out HB.out) | (with_reducible refine Kd.C_alloc ?_ _) | (with_reducible refine Kd.C_drewN ?_ _) | (with_reducible refine Kd.C_drew ?_))); (case side4 => exact HC1_0.out); rintro e w' ⟨rfl, ⟨nd, rfl⟩⟩; (try first | exact ⟨rfl, _, World.drewN_drewN _ _ _⟩ | exact ⟨rfl, _, Eq.trans (World.drewN_drewN _ _ _) (congrArg (World.drewN _) (Nat.add_assoc _ _ _))⟩))); try go_wp2_with (first | (go_at_call 22; (with_reducible refine (parquetref05_SamePoints.calls k _ _ l0_0 _ _ l1_0 true _ ?side1 ?side2 ?side3 ?side4 A6.out).mono ?_); (case side1 => repeat (first | exact (Kd.C_below HR0_0.out HB.out) | (with_reducible refine Kd.C_alloc ?_ _) | (with_reducible refine Kd.C_drewN ?_ _) | (with_reducible refine Kd.C_drew ?_))); (case side2 => exact HC0_0.out); (case side3 => repeat (first | exact (Kd.C_below HR1_0.out HB.out) | (with_reducible refine Kd.C_alloc ?_ _) | (with_reducible refine Kd.C_drewN ?_ _) | (with_reducible refine Kd.C_drew ?_))); (case side4 => exact HC1_0.out); rintro e w' ⟨rfl, ⟨nd, rfl⟩⟩; (try first | exact ⟨rfl, _, World.drewN_drewN _ _ _⟩ | exact ⟨rfl, _, Eq.trans (World.drewN_drewN _ _ _) (congrArg (World.drewN _) (Nat.add_assoc _ _ _))⟩))))
        go_meet
        case rel => exact ⟨_, (((l0_2.length : Int) != (l1_2.length : Int))), (by first | rfl | (simp; done) | (simp [*]; done)), H', ⟨by first | omega | exact Nat.le_refl _⟩, ⟨by (with_reducible repeat (first | refine blk_drewN ?_ _ | refine blk_drew ?_ | refine blk_alloc ?_ _)); exact BK120.out⟩, ⟨by (with_reducible repeat (first | refine blk_drewN ?_ _ | refine blk_drew ?_ | refine blk_alloc ?_ _)); exact BK121.out⟩, ⟨by repeat (first | (with_reducible first | exact HB.out | apply below_alloc | apply pw_below_drewN | apply below_drew1 | refine below_set ?_ GE120.out | refine below_set ?_ GE121.out) | exact HB.out)⟩⟩
      · rw [if_neg c8] at H
        have c8b0 : (a0_1 == a1_1) = false := beq_eq_false_iff_ne.mpr c8
        have c8b1 : (a0_1 != a1_1) = true := bne_iff_ne.mpr c8
        (first | rw [c8b0] | (simp only [i64_w, i32_w]; rw [c8b0]) | skip)
        have H' := Aside0.mk H
        clear H
        have hnb12 := NB120_121.out
        have hnc12 := NB121_120.out
        have hcz13_0 : w5.cell? ⟨gb120, 0, none⟩ = some (.slice A0_0 l0_0.length c0_0) := (blk_cell BK120.out 0).trans rfl
        have hcz13_1 : w5.cell? ⟨gb120, 1, none⟩ = some (.int .i64 a0_1) := (blk_cell BK120.out 1).trans rfl
        have hcz13_2 : w5.cell? ⟨gb120, 2, none⟩ = some (.slice A0_2 l0_2.length c0_2) := (blk_cell BK120.out 2).trans rfl
        have hfz13_0 := blk_frozen BK120.out 0
        have hfz13_1 := blk_frozen BK120.out 1
        have hfz13_2 := blk_frozen BK120.out 2
        have hcz14_0 : w5.cell? ⟨gb121, 0, none⟩ = some (.slice A1_0 l1_0.length c1_0) := (blk_cell BK121.out 0).trans rfl
        have hcz14_1 : w5.cell? ⟨gb121, 1, none⟩ = some (.int .i64 a1_1) := (blk_cell BK121.out 1).trans rfl
        have hcz14_2 : w5.cell? ⟨gb121, 2, none⟩ = some (.slice A1_2 l1_2.length c1_2) := (blk_cell BK121.out 2).trans rfl
        have hfz14_0 := blk_frozen BK121.out 0
        have hfz14_1 := blk_frozen BK121.out 1
        have hfz14_2 := blk_frozen BK121.out 2
        go_wp2_with (first | (go_at_call 22; (with_reducible refine (parquetref05_SamePoints.calls k _ _ l0_0 _ _ l1_0 true _ ?side1 ?side2 ?side3 ?side4 A6.out).mono ?_); (case side1 => repeat (first | exact (Kd.C_below HR0_0.out HB.out) | (with_reducible refine Kd.C_alloc ?_ _) | (with_reducible refine Kd.C_drewN ?_ _) | (with_reducible refine Kd.C_drew ?_))); (case side2 => exact HC0_0.out); (case side3 => repeat (first | exact (Kd.C_below HR1_0.out HB.out) | (with_reducible refine Kd.C_alloc ?_ _) | (with_reducible refine Kd.C_drewN ?_ _) | (with_reducible refine Kd.C_drew ?_))); (case side4 => exact HC1_0.out); rintro e w' ⟨rfl, ⟨nd, rfl⟩⟩; (try first | exact ⟨rfl, _, World.drewN_drewN _ _ _⟩ | exact ⟨rfl, _, Eq.trans (World.drewN_drewN _ _ _) (congrArg (World.drewN _) (Nat.add_assoc _ _ _))⟩)))
        repeat (go_quiet (first | (go_at_call 22; (with_reducible refine (parquetref05_SamePoints.calls k _ _ l0_0 _ _ l1_0 true _ ?side1 ?side2 ?side3 ?side4 A6.out).mono ?_); (case side1 => repeat (first | exact (Kd.C_below HR0_0.out HB.out) | (with_reducible refine Kd.C_alloc ?_ _) | (with_reducible refine Kd.C_drewN ?_ _) | (with_reducible refine Kd.C_drew ?_))); (case side2 => exact HC0_0.out); (case side3 => repeat (first | exact (Kd.C_below HR1_0.out HB.out) | (with_reducible refine Kd.C_alloc ?_ _) | (with_reducible refine Kd.C_drewN ?_ _) | (with_reducible refine Kd.C_drew ?_))); (case side4 => exact HC1_0.out); rintro e w' ⟨rfl, ⟨nd, rfl⟩⟩; (try first | exact ⟨rfl, _, World.drewN_drewN _ _ _⟩ | exact ⟨rfl, _, Eq.trans (World.drewN_drewN _ _ _) (congrArg (World.drewN _) (Nat.add_assoc _ _ _))⟩))); try go_wp2_with (first | (go_at_call 22; (with_reducible refine (parquetref05_SamePoints.calls k _ _ l0_0 _ _ l1_0 true _ ?side1 ?side2 ?side3 ?side4 A6.out).mono ?_); (case side1 => repeat (first | exact (Kd.C_below HR0_0.out HB.out) | (with_reducible refine Kd.C_alloc ?_ _) | (with_reducible refine Kd.C_drewN ?_ _) | (with_reducible refine Kd.C_drew ?_))); (case side2 => exact HC0_0.out); (case side3 => repeat (first | exact (Kd.C_below HR1_0.out HB.out) | (with_reducible refine Kd.C_alloc ?_ _) | (with_reducible refine Kd.C_drewN ?_ _) | (with_reducible refine Kd.C_drew ?_))); (case side4 => exact HC1_0.out); rintro e w' ⟨rfl, ⟨nd, rfl⟩⟩; (try first | exact ⟨rfl, _, World.drewN_drewN _ _ _⟩ | exact ⟨rfl, _, Eq.trans (World.drewN_drewN _ _ _) (congrArg (World.drewN _) (Nat.add_assoc _ _ _))⟩))))
        go_meet
        case rel => exact ⟨_, (true), (by first | rfl | (simp; done) | (simp [*]; done)), H', ⟨by first | omega | exact Nat.le_refl _⟩, ⟨by (with_reducible repeat (first | refine blk_drewN ?_ _ | refine blk_drew ?_ | refine blk_alloc ?_ _)); exact BK120.out⟩, ⟨by (with_reducible repeat (first | refine blk_drewN ?_ _ | refine blk_drew ?_ | refine blk_alloc ?_ _)); exact BK121.out⟩, ⟨by repeat (first | (with_reducible first | exact HB.out | apply below_alloc | apply pw_below_drewN | apply below_drew1 | refine below_set ?_ GE120.out | refine below_set ?_ GE121.out) | exact HB.out)⟩⟩
    · replace c7 := Bool.eq_false_iff.mpr c7
      subst c7
      have H1 : (parquetref21_Same.j0 k true l0_0 a0_1 l0_2 l1_0 a1_1 l1_2) = some r := by rw [if_neg (show ¬ (false = true) by decide)] at H; exact H
      clear H
      have H := H1
      clear H1
      have H' := Aside0.mk H
      clear H
      have hnb15 := NB120_121.out
      have hnc15 := NB121_120.out
      have hcz16_0 : w5.cell? ⟨gb120, 0, none⟩ = some (.slice A0_0 l0_0.length c0_0) := (blk_cell BK120.out 0).trans rfl
      have hcz16_1 : w5.cell? ⟨gb120, 1, none⟩ = some (.int .i64 a0_1) := (blk_cell BK120.out 1).trans rfl
      have hcz16_2 : w5.cell? ⟨gb120, 2, none⟩ = some (.slice A0_2 l0_2.length c0_2) := (blk_cell BK120.out 2).trans rfl
      have hfz16_0 := blk_frozen BK120.out 0
      have hfz16_1 := blk_frozen BK120.out 1
      have hfz16_2 := blk_frozen BK120.out 2
      have hcz17_0 : w5.cell? ⟨gb121, 0, none⟩ = some (.slice A1_0 l1_0.length c1_0) := (blk_cell BK121.out 0).trans rfl
      have hcz17_1 : w5.cell? ⟨gb121, 1, none⟩ = some (.int .i64 a1_1) := (blk_cell BK121.out 1).trans rfl
      have hcz17_2 : w5.cell? ⟨gb121, 2, none⟩ = some (.slice A1_2 l1_2.length c1_2) := (blk_cell BK121.out 2).trans rfl
      have hfz17_0 := blk_frozen BK121.out 0
      have hfz17_1 := blk_frozen BK121.out 1
      have hfz17_2 := blk_frozen BK121.out 2
      go_wp2_with (first | (go_at_call 22; (with_reducible refine (parquetref05_SamePoints.calls k _ _ l0_0 _ _ l1_0 false _ ?side1 ?side2 ?side3 ?side4 A6.out).mono ?_); (case side1 => repeat (first | exact (Kd.C_below HR0_0.out HB.out) | (with_reducible refine Kd.C_alloc ?_ _) | (with_reducible refine Kd.C_drewN ?_ _) | (with_reducible refine Kd.C_drew ?_))); (case side2 => exact HC0_0.out); (case side3 => repeat (first | exact (Kd.C_below HR1_0.out HB.out) | (with_reducible refine Kd.C_alloc ?_ _) | (with_reducible refine Kd.C_drewN ?_ _) | (with_reducible refine Kd.C_drew ?_))); (case side4 => exact HC1_0.out); rintro e w' ⟨rfl, ⟨nd, rfl⟩⟩; (try first | exact ⟨rfl, _, World.drewN_drewN _ _ _⟩ | exact ⟨rfl, _, Eq.trans (World.drewN_drewN _ _ _) (congrArg (World.drewN _) (Nat.add_assoc _ _ _))⟩)))
      repeat (go_quiet (first | (go_at_call 22; (with_reducible refine (parquetref05_SamePoints.calls k _ _ l0_0 _ _ l1_0 false _ ?side1 ?side2 ?side3 ?side4 A6.out).mono ?_); (case side1 => repeat (first | exact (Kd.C_below HR0_0.out HB.out) | (with_reducible refine Kd.C_alloc ?_ _) | (with_reducible refine Kd.C_drewN ?_ _) | (with_reducible refine Kd.C_drew ?_))); (case side2 => exact HC0_0.out); (case side3 => repeat (first | exact (Kd.C_below HR1_0.out HB.out) | (with_reducible refine Kd.C_alloc ?_ _) | (with_reducible refine Kd.C_drewN ?_ _) | (with_reducible refine Kd.C_drew ?_))); (case side4 => exact HC1_0.out); rintro e w' ⟨rfl, ⟨nd, rfl⟩⟩; (try first | exact ⟨rfl, _, World.drewN_drewN _ _ _⟩ | exact ⟨rfl, _, Eq.trans (World.drewN_drewN _ _ _) (congrArg (World.drewN _) (Nat.add_assoc _ _ _))⟩))); try go_wp2_with (first | (go_at_call 22; (with_reducible refine (parquetref05_SamePoints.calls k _ _ l0_0 _ _ l1_0 false _ ?side1 ?side2 ?side3 ?side4 A6.out).mono ?_); (case side1 => repeat (first | exact (Kd.C_below HR0_0.out HB.out) | (with_reducible refine Kd.C_alloc ?_ _) | (with_reducible refine Kd.C_drewN ?_ _) | (with_reducible refine Kd.C_drew ?_))); (case side2 => exact HC0_0.out); (case side3 => repeat (first | exact (Kd.C_below HR1_0.out HB.out) | (with_reducible refine Kd.C_alloc ?_ _) | (with_reducible refine Kd.C_drewN ?_ _) | (with_reducible refine Kd.C_drew ?_))); (case side4 => exact HC1_0.out); rintro e w' ⟨rfl, ⟨nd, rfl⟩⟩; (try first | exact ⟨rfl, _, World.drewN_drewN _ _ _⟩ | exact ⟨rfl, _, Eq.trans (World.drewN_drewN _ _ _) (congrArg (World.drewN _) (Nat.add_assoc _ _ _))⟩))))
      go_meet
      case rel => exact ⟨_, (true), (by first | rfl | (simp; done) | (simp [*]; done)), H', ⟨by first | omega | exact Nat.le_refl _⟩, ⟨by (with_reducible repeat (first | refine blk_drewN ?_ _ | refine blk_drew ?_ | refine blk_alloc ?_ _)); exact BK120.out⟩, ⟨by (with_reducible repeat (first | refine blk_drewN ?_ _ | refine blk_drew ?_ | refine blk_alloc ?_ _)); exact BK121.out⟩, ⟨by repeat (first | (with_reducible first | exact HB.out | apply below_alloc | apply pw_below_drewN | apply below_drew1 | refine below_set ?_ GE120.out | refine below_set ?_ GE121.out) | exact HB.out)⟩⟩
  case rest =>
    clear HC3
    try clear c1
    try clear p2
    try clear c7
    try clear c8
    try clear c8b0
    try clear c8b1
    try clear c9
    try clear c11
    try clear c12
    try clear c15
    try clear hcz10_0
    try clear hcz10_1
    try clear hcz10_2
    try clear hcz11_0
    try clear hcz11_1
    try clear hcz11_2
    try clear hcz13_0
    try clear hcz13_1
    try clear hcz13_2
    try clear hcz14_0
    try clear hcz14_1
    try clear hcz14_2
    try clear hcz16_0
    try clear hcz16_1
    try clear hcz16_2
    try clear hcz17_0
    try clear hcz17_1
    try clear hcz17_2
    try clear hfz10_0
    try clear hfz10_1
    try clear hfz10_2
    try clear hfz11_0
    try clear hfz11_1
    try clear hfz11_2
    try clear hfz13_0
    try clear hfz13_1
    try clear hfz13_2
    try clear hfz14_0
    try clear hfz14_1
    try clear hfz14_2
    try clear hfz16_0
    try clear hfz16_1
    try clear hfz16_2
    try clear hfz17_0
    try clear hfz17_1
    try clear hfz17_2
    obtain ⟨kq, x27_2, rfl, HA, HJ2, BK120, BK121, HB⟩ := hcut
    cases kq with
    | zero => exact absurd HA.out (by simp [parquetref21_Same.j0])
    | succ kj2 =>
      have H := HA.out
      clear HA
      simp only [parquetref21_Same.j0] at H
      by_cases c18 : x27_2 = true
      · subst c18
        have H1 : (some false) = some r := by rw [if_pos rfl] at H; exact H
        clear H
        have H := H1
        clear H1
        obtain rfl := Option.some.inj H
        go_wp2
        repeat (go_quiet (fail); try go_wp2)
        go_ret
        exact ⟨by first | rfl | (simp [errW_none, errW_some] <;> rfl) | (simp [*, errW_none, errW_some] <;> rfl), by repeat (first | (with_reducible first | exact HB.out | apply below_alloc | apply pw_below_drewN | apply below_drew1 | refine below_set ?_ GE120.out | refine below_set ?_ GE121.out) | exact HB.out)⟩
      · replace c18 := Bool.eq_false_iff.mpr c18
        subst c18
        have H1 : (parquetref21_Same.l0 kj2 0 l0_0 a0_1 l0_2 l1_0 a1_1 l1_2) = some r := by rw [if_neg (show ¬ (false = true) by decide)] at H; exact H
        clear H
        have H := H1
        clear H1
        have H' := Aside0.mk H
        clear H
        go_wp2
        repeat (go_quiet (fail); try go_wp2)
        go_loopg [5] kj2 (fun kq v5 w' => ∃ (x5_2 : Int), v5 = .int .i64 x5_2 ∧ Aside0 (parquetref21_Same.l0 kq x5_2 l0_0 a0_1 l0_2 l1_0 a1_1 l1_2 = some r) ∧ Aside0 (kq ≤ kj2) ∧ Aside0 (w'.heap[gb120]? = some (.cells #[(.slice A0_0 l0_0.length c0_0), .int .i64 a0_1, (.slice A0_2 l0_2.length c0_2)] 25 (0, 0))) ∧ Aside0 (w'.heap[gb121]? = some (.cells #[(.slice A1_0 l1_0.length c1_0), .int .i64 a1_1, (.slice A1_2 l1_2.length c1_2)] 25 (0, 0))) ∧ Aside0 (Below w.heap.size w w'))
        case atStart => exact ⟨(0), (by first | rfl | (simp; done) | (simp [*]; done)), H', ⟨Nat.le_refl _⟩, ⟨by (with_reducible repeat (first | refine blk_drewN ?_ _ | refine blk_drew ?_ | refine blk_alloc ?_ _)); exact BK120.out⟩, ⟨by (with_reducible repeat (first | refine blk_drewN ?_ _ | refine blk_drew ?_ | refine blk_alloc ?_ _)); exact BK121.out⟩, ⟨by repeat (first | (with_reducible first | exact HB.out | apply below_alloc | apply pw_below_drewN | apply below_drew1 | refine below_set ?_ GE120.out | refine below_set ?_ GE121.out) | exact HB.out)⟩⟩
        case round =>
          clear H'
          try clear c1
          try clear p2
          try clear c7
          try clear c8
          try clear c8b0
          try clear c8b1
          try clear c9
          try clear c11
          try clear c12
          try clear c15
          try clear c18
          try clear hcz10_0
          try clear hcz10_1
          try clear hcz10_2
          try clear hcz11_0
          try clear hcz11_1
          try clear hcz11_2
          try clear hcz13_0
          try clear hcz13_1
          try clear hcz13_2
          try clear hcz14_0
          try clear hcz14_1
          try clear hcz14_2
          try clear hcz16_0
          try clear hcz16_1
          try clear hcz16_2
          try clear hcz17_0
          try clear hcz17_1
          try clear hcz17_2
          try clear hfz10_0
          try clear hfz10_1
          try clear hfz10_2
          try clear hfz11_0
          try clear hfz11_1
          try clear hfz11_2
          try clear hfz13_0
          try clear hfz13_1
          try clear hfz13_2
          try clear hfz14_0
          try clear hfz14_1
          try clear hfz14_2
          try clear hfz16_0
          try clear hfz16_1
          try clear hfz16_2
          try clear hfz17_0
          try clear hfz17_1
          try clear hfz17_2
          try clear p2
          obtain ⟨x5_2, rfl, HA, HK2, BK120, BK121, HB⟩ := hrel
          cases gk with
          | zero => exact absurd HA.out (by simp [parquetref21_Same.l0])
          | succ k2 =>
            have H := HA.out
            clear HA
            simp only [parquetref21_Same.l0] at H
            by_cases c19 : x5_2 < (l0_2.length : Int)
            · rw [if_pos c19] at H
              have c19b0 : decide (x5_2 < (l0_2.length : Int)) = true := decide_eq_true c19
              clear c19
              by_cases c20 : 0 ≤ x5_2
              · rw [if_pos c20] at H
                have c20b0 : decide (0 ≤ x5_2) = true := decide_eq_true c20
                clear c20
                by_cases c21 : x5_2 < (l1_2.length : Int)
                · rw [if_pos c21] at H
                  have c21b0 : decide (x5_2 < (l1_2.length : Int)) = true := decide_eq_true c21
                  clear c21
                  replace H := Option.bind_eq_some_iff.mp H
                  obtain ⟨t125, A220, H⟩ := H
                  replace H : (if t125 = true then (parquetref21_Same.l0 k2 (wrap64 (x5_2 + 1)) l0_0 a0_1 l0_2 l1_0 a1_1 l1_2) else (some false)) = some r := H
                  have A22 := Aside0.mk A220
                  clear A220
                  by_cases c23 : t125 = true
                  · subst c23
                    have H1 : (parquetref21_Same.l0 k2 (wrap64 (x5_2 + 1)) l0_0 a0_1 l0_2 l1_0 a1_1 l1_2) = some r := by rw [if_pos rfl] at H; exact H
                    clear H
                    have H := H1
                    clear H1
                    have H' := Aside0.mk H
                    clear H
                    have hnb24 := NB120_121.out
                    have hnc24 := NB121_120.out
                    have hcz25_0 : wr.cell? ⟨gb120, 0, none⟩ = some (.slice A0_0 l0_0.length c0_0) := (blk_cell BK120.out 0).trans rfl
                    have hcz25_1 : wr.cell? ⟨gb120, 1, none⟩ = some (.int .i64 a0_1) := (blk_cell BK120.out 1).trans rfl
                    have hcz25_2 : wr.cell? ⟨gb120, 2, none⟩ = some (.slice A0_2 l0_2.length c0_2) := (blk_cell BK120.out 2).trans rfl
                    have hfz25_0 := blk_frozen BK120.out 0
                    have hfz25_1 := blk_frozen BK120.out 1
                    have hfz25_2 := blk_frozen BK120.out 2
                    have p123 : 0 ≤ (x5_2 : Int) := of_decide_eq_true (by first | (with_reducible assumption) | assumption)
                    have q123 : x5_2 < (l0_2.length : Int) := of_decide_eq_true (by first | (with_reducible assumption) | assumption)
                    obtain ⟨ad123, A123_0, c123_0, e123, hx123_0, hl123_0, hi123_0⟩ := at_L13 HR0_2.out x5_2 p123 q123
                    cases e123
                    replace hx123_0 := (HB.out.cell (World.block_lt_of_cell? w _ hx123_0)).trans hx123_0
                    have HR123_0 := Aside0.mk hi123_0
                    have HC123_0 := Aside0.mk hl123_0
                    clear hi123_0 hl123_0
                    replace p123 := eq_true p123
                    replace q123 := eq_true q123
                    have hcz26_0 : wr.cell? ⟨gb121, 0, none⟩ = some (.slice A1_0 l1_0.length c1_0) := (blk_cell BK121.out 0).trans rfl
                    have hcz26_1 : wr.cell? ⟨gb121, 1, none⟩ = some (.int .i64 a1_1) := (blk_cell BK121.out 1).trans rfl
                    have hcz26_2 : wr.cell? ⟨gb121, 2, none⟩ = some (.slice A1_2 l1_2.length c1_2) := (blk_cell BK121.out 2).trans rfl
                    have hfz26_0 := blk_frozen BK121.out 0
                    have hfz26_1 := blk_frozen BK121.out 1
                    have hfz26_2 := blk_frozen BK121.out 2
                    have p124 : 0 ≤ (x5_2 : Int) := of_decide_eq_true (by first | (with_reducible assumption) | assumption)
                    have q124 : x5_2 < (l1_2.length : Int) := of_decide_eq_true (by first | (with_reducible assumption) | assumption)
                    obtain ⟨ad124, A124_0, c124_0, e124, hx124_0, hl124_0, hi124_0⟩ := at_L13 HR1_2.out x5_2 p124 q124
                    cases e124
                    replace hx124_0 := (HB.out.cell (World.block_lt_of_cell? w _ hx124_0)).trans hx124_0
                    have HR124_0 := Aside0.mk hi124_0
                    have HC124_0 := Aside0.mk hl124_0
                    clear hi124_0 hl124_0
                    replace p124 := eq_true p124
                    replace q124 := eq_true q124
                    go_wp2_with (first | (go_at_call 23; (with_reducible refine (parquetref00_SameInts.calls k2 _ _ (rd_L13 l0_2 x5_2) _ _ (rd_L13 l1_2 x5_2) true _ ?side1 ?side2 ?side3 ?side4 A22.out).mono ?_); (case side1 => repeat (first | exact (Kd.C_below HR123_0.out HB.out) | (with_reducible refine Kd.C_alloc ?_ _) | (with_reducible refine Kd.C_drewN ?_ _) | (with_reducible refine Kd.C_drew ?_))); (case side2 => exact HC123_0.out); (case side3 => repeat (first | exact (Kd.C_below HR124_0.out HB.out) | (with_reducible refine Kd.C_alloc ?_ _) | (with_reducible refine Kd.C_drewN ?_ _) | (with_reducible refine Kd.C_drew ?_))); (case side4 => exact HC124_0.out); rintro e w' ⟨rfl, ⟨nd, rfl⟩⟩; (try first | exact ⟨rfl, _, World.drewN_drewN _ _ _⟩ | exact ⟨rfl, _, Eq.trans (World.drewN_drewN _ _ _) (congrArg (World.drewN _) (Nat.add_assoc _ _ _))⟩)))
                    repeat (go_quiet (first | (go_at_call 23; (with_reducible refine (parquetref00_SameInts.calls k2 _ _ (rd_L13 l0_2 x5_2) _ _ (rd_L13 l1_2 x5_2) true _ ?side1 ?side2 ?side3 ?side4 A22.out).mono ?_); (case side1 => repeat (first | exact (Kd.C_below HR123_0.out HB.out) | (with_reducible refine Kd.C_alloc ?_ _) | (with_reducible refine Kd.C_drewN ?_ _) | (with_reducible refine Kd.C_drew ?_))); (case side2 => exact HC123_0.out); (case side3 => repeat (first | exact (Kd.C_below HR124_0.out HB.out) | (with_reducible refine Kd.C_alloc ?_ _) | (with_reducible refine Kd.C_drewN ?_ _) | (with_reducible refine Kd.C_drew ?_))); (case side4 => exact HC124_0.out); rintro e w' ⟨rfl, ⟨nd, rfl⟩⟩; (try first | exact ⟨rfl, _, World.drewN_drewN _ _ _⟩ | exact ⟨rfl, _, Eq.trans (World.drewN_drewN _ _ _) (congrArg (World.drewN _) (Nat.add_assoc _ _ _))⟩))); try go_wp2_with (first | (go_at_call 23; (with_reducible refine (parquetref00_SameInts.calls k2 _ _ (rd_L13 l0_2 x5_2) _ _ (rd_L13 l1_2 x5_2) true _ ?side1 ?side2 ?side3 ?side4 A22.out).mono ?_); (case side1 => repeat (first | exact (Kd.C_below HR123_0.out HB.out) | (with_reducible refine Kd.C_alloc ?_ _) | (with_reducible refine Kd.C_drewN ?_ _) | (with_reducible refine Kd.C_drew ?_))); (case side2 => exact HC123_0.out); (case side3 => repeat (first | exact (Kd.C_below HR124_0.out HB.out) | (with_reducible refine Kd.C_alloc ?_ _) | (with_reducible refine Kd.C_drewN ?_ _) | (with_reducible refine Kd.C_drew ?_))); (case side4 => exact HC124_0.out); rintro e w' ⟨rfl, ⟨nd, rfl⟩⟩; (try first | exact ⟨rfl, _, World.drewN_drewN _ _ _⟩ | exact ⟨rfl, _, Eq.trans (World.drewN_drewN _ _ _) (congrArg (World.drewN _) (Nat.add_assoc _ _ _))⟩))))
                    go_roundg k2
                    case measure => have := HJ2.out; have := HK2.out; omega
                    case rel => exact ⟨(wrap64 (x5_2 + 1)), (by first | rfl | (simp; done) | (simp [*]; done)), H', ⟨by have := HJ2.out; have := HK2.out; omega⟩, ⟨by (with_reducible repeat (first | refine blk_drewN ?_ _ | refine blk_drew ?_ | refine blk_alloc ?_ _)); exact BK120.out⟩, ⟨by (with_reducible repeat (first | refine blk_drewN ?_ _ | refine blk_drew ?_ | refine blk_alloc ?_ _)); exact BK121.out⟩, ⟨by repeat (first | (with_reducible first | exact HB.out | apply below_alloc | apply pw_below_drewN | apply below_drew1 | refine below_set ?_ GE120.out | refine below_set ?_ GE121.out) | exact HB.out)⟩⟩
                  · replace c23 := Bool.eq_false_iff.mpr c23
                    subst c23
                    have H1 : (some false) = some r := by rw [if_neg (show ¬ (false = true) by decide)] at H; exact H
                    clear H
                    have H := H1
                    clear H1
                    obtain rfl := Option.some.inj H
                    have hnb27 := NB120_121.out
                    have hnc27 := NB121_120.out
                    have hcz28_0 : wr.cell? ⟨gb120, 0, none⟩ = some (.slice A0_0 l0_0.length c0_0) := (blk_cell BK120.out 0).trans rfl
                    have hcz28_1 : wr.cell? ⟨gb120, 1, none⟩ = some (.int .i64 a0_1) := (blk_cell BK120.out 1).trans rfl
                    have hcz28_2 : wr.cell? ⟨gb120, 2, none⟩ = some (.slice A0_2 l0_2.length c0_2) := (blk_cell BK120.out 2).trans rfl
                    have hfz28_0 := blk_frozen BK120.out 0
                    have hfz28_1 := blk_frozen BK120.out 1
                    have hfz28_2 := blk_frozen BK120.out 2
                    have p123 : 0 ≤ (x5_2 : Int) := of_decide_eq_true (by first | (with_reducible assumption) | assumption)
                    have q123 : x5_2 < (l0_2.length : Int) := of_decide_eq_true (by first | (with_reducible assumption) | assumption)
                    obtain ⟨ad123, A123_0, c123_0, e123, hx123_0, hl123_0, hi123_0⟩ := at_L13 HR0_2.out x5_2 p123 q123
                    cases e123
                    replace hx123_0 := (HB.out.cell (World.block_lt_of_cell? w _ hx123_0)).trans hx123_0
                    have HR123_0 := Aside0.mk hi123_0
                    have HC123_0 := Aside0.mk hl123_0
                    clear hi123_0 hl123_0
                    replace p123 := eq_true p123
                    replace q123 := eq_true q123
                    have hcz29_0 : wr.cell? ⟨gb121, 0, none⟩ = some (.slice A1_0 l1_0.length c1_0) := (blk_cell BK121.out 0).trans rfl
                    have hcz29_1 : wr.cell? ⟨gb121, 1, none⟩ = some (.int .i64 a1_1) := (blk_cell BK121.out 1).trans rfl
                    have hcz29_2 : wr.cell? ⟨gb121, 2, none⟩ = some (.slice A1_2 l1_2.length c1_2) := (blk_cell BK121.out 2).trans rfl
                    have hfz29_0 := blk_frozen BK121.out 0
                    have hfz29_1 := blk_frozen BK121.out 1
                    have hfz29_2 := blk_frozen BK121.out 2
                    have p124 : 0 ≤ (x5_2 : Int) := of_decide_eq_true (by first | (with_reducible assumption) | assumption)
                    have q124 : x5_2 < (l1_2.length : Int) := of_decide_eq_true (by first | (with_reducible assumption) | assumption)
                    obtain ⟨ad124, A124_0, c124_0, e124, hx124_0, hl124_0, hi124_0⟩ := at_L13 HR1_2.out x5_2 p124 q124
                    cases e124
                    replace hx124_0 := (HB.out.cell (World.block_lt_of_cell? w _ hx124_0)).trans hx124_0
                    have HR124_0 := Aside0.mk hi124_0
                    have HC124_0 := Aside0.mk hl124_0
                    clear hi124_0 hl124_0
                    replace p124 := eq_true p124
                    replace q124 := eq_true q124
                    go_wp2_with (first | (go_at_call 23; (with_reducible refine (parquetref00_SameInts.calls k2 _ _ (rd_L13 l0_2 x5_2) _ _ (rd_L13 l1_2 x5_2) false _ ?side1 ?side2 ?side3 ?side4 A22.out).mono ?_); (case side1 => repeat (first | exact (Kd.C_below HR123_0.out HB.out) | (with_reducible refine Kd.C_alloc ?_ _) | (with_reducible refine Kd.C_drewN ?_ _) | (with_reducible refine Kd.C_drew ?_))); (case side2 => exact HC123_0.out); (case side3 => repeat (first | exact (Kd.C_below HR124_0.out HB.out) | (with_reducible refine Kd.C_alloc ?_ _) | (with_reducible refine Kd.C_drewN ?_ _) | (with_reducible refine Kd.C_drew ?_))); (case side4 => exact HC124_0.out); rintro e w' ⟨rfl, ⟨nd, rfl⟩⟩; (try first | exact ⟨rfl, _, World.drewN_drewN _ _ _⟩ | exact ⟨rfl, _, Eq.trans (World.drewN_drewN _ _ _) (congrArg (World.drewN _) (Nat.add_assoc _ _ _))⟩)))
                    repeat (go_quiet (first | (go_at_call 23; (with_reducible refine (parquetref00_SameInts.calls k2 _ _ (rd_L13 l0_2 x5_2) _ _ (rd_L13 l1_2 x5_2) false _ ?side1 ?side2 ?side3 ?side4 A22.out).mono ?_); (case side1 => repeat (first | exact (Kd.C_below HR123_0.out HB.out) | (with_reducible refine Kd.C_alloc ?_ _) | (with_reducible refine Kd.C_drewN ?_ _) | (with_reducible refine Kd.C_drew ?_))); (case side2 => exact HC123_0.out); (case side3 => repeat (first | exact (Kd.C_below HR124_0.out HB.out) | (with_reducible refine Kd.C_alloc ?_ _) | (with_reducible refine Kd.C_drewN ?_ _) | (with_reducible refine Kd.C_drew ?_))); (case side4 => exact HC124_0.out); rintro e w' ⟨rfl, ⟨nd, rfl⟩⟩; (try first | exact ⟨rfl, _, World.drewN_drewN _ _ _⟩ | exact ⟨rfl, _, Eq.trans (World.drewN_drewN _ _ _) (congrArg (World.drewN _) (Nat.add_assoc _ _ _))⟩))); try go_wp2_with (first | (go_at_call 23; (with_reducible refine (parquetref00_SameInts.calls k2 _ _ (rd_L13 l0_2 x5_2) _ _ (rd_L13 l1_2 x5_2) false _ ?side1 ?side2 ?side3 ?side4 A22.out).mono ?_); (case side1 => repeat (first | exact (Kd.C_below HR123_0.out HB.out) | (with_reducible refine Kd.C_alloc ?_ _) | (with_reducible refine Kd.C_drewN ?_ _) | (with_reducible refine Kd.C_drew ?_))); (case side2 => exact HC123_0.out); (case side3 => repeat (first | exact (Kd.C_below HR124_0.out HB.out) | (with_reducible refine Kd.C_alloc ?_ _) | (with_reducible refine Kd.C_drewN ?_ _) | (with_reducible refine Kd.C_drew ?_))); (case side4 => exact HC124_0.out); rintro e w' ⟨rfl, ⟨nd, rfl⟩⟩; (try first | exact ⟨rfl, _, World.drewN_drewN _ _ _⟩ | exact ⟨rfl, _, Eq.trans (World.drewN_drewN _ _ _) (congrArg (World.drewN _) (Nat.add_assoc _ _ _))⟩))))
                    go_ret
                    exact ⟨by first | rfl | (simp [errW_none, errW_some] <;> rfl) | (simp [*, errW_none, errW_some] <;> rfl), by repeat (first | (with_reducible first | exact HB.out | apply below_alloc | apply pw_below_drewN | apply below_drew1 | refine below_set ?_ GE120.out | refine below_set ?_ GE121.out) | exact HB.out)⟩
                · rw [if_neg c21] at H
                  exact absurd H (by simp)
              · rw [if_neg c20] at H
                exact absurd H (by simp)
            · rw [if_neg c19] at H
              have c19b0 : decide (x5_2 < (l0_2.length : Int)) = false := decide_eq_false c19
              clear c19
              obtain rfl := Option.some.inj H
              have hnb30 := NB120_121.out
              have hnc30 := NB121_120.out
              have hcz31_0 : wr.cell? ⟨gb120, 0, none⟩ = some (.slice A0_0 l0_0.length c0_0) := (blk_cell BK120.out 0).trans rfl
              have hcz31_1 : wr.cell? ⟨gb120, 1, none⟩ = some (.int .i64 a0_1) := (blk_cell BK120.out 1).trans rfl
              have hcz31_2 : wr.cell? ⟨gb120, 2, none⟩ = some (.slice A0_2 l0_2.length c0_2) := (blk_cell BK120.out 2).trans rfl
              have hfz31_0 := blk_frozen BK120.out 0
              have hfz31_1 := blk_frozen BK120.out 1
              have hfz31_2 := blk_frozen BK120.out 2
              go_wp2
              repeat (go_quiet (fail); try go_wp2)
              go_ret
              exact ⟨by first | rfl | (simp [errW_none, errW_some] <;> rfl) | (simp [*, errW_none, errW_some] <;> rfl), by repeat (first | (with_reducible first | exact HB.out | apply below_alloc | apply pw_below_drewN | apply below_drew1 | refine below_set ?_ GE120.out | refine below_set ?_ GE121.out) | exact HB.out)⟩

/-! ### parquetref11_all: function 38 -/
mutual
def parquetref11_all.l0 : Nat → List (List Int) → List (S98) → Int → Option ((List (S98)))
  | 0, _, _, _ => none
  | k + 1, x0, x3, x4 => if x4 < (x0.length : Int) then (parquetref11_all.l1 k x0 x3 x4 0) else (some x3)
def parquetref11_all.l1 : Nat → List (List Int) → List (S98) → Int → Int → Option ((List (S98)))
  | 0, _, _, _, _ => none
  | k + 1, x0, x3, x4, x5 => if 0 ≤ x4 then (if x4 < (x0.length : Int) then (if x5 < ((rd_L13 x0 x4).length : Int) then (if 0 < ((rd_L13 x0 x4).length : Int) then (if (wrap64 (x5 + 1)) < ((rd_L13 x0 x4).length : Int) then (if 0 ≤ (wrap64 (x5 + 1)) then (if 0 ≤ x5 then (if x3.length < 8796093022208 then (parquetref11_all.l1 k x0 (x3 ++ [(⟨rd (rd_L13 x0 x4) x5, rd (rd_L13 x0 x4) (wrap64 (x5 + 1))⟩ : S98)]) x4 (wrap64 (x5 + 1))) else (none)) else (none)) else (none)) else (if 0 ≤ x5 then (if x3.length < 8796093022208 then (parquetref11_all.l1 k x0 (x3 ++ [(⟨rd (rd_L13 x0 x4) x5, rd (rd_L13 x0 x4) 0⟩ : S98)]) x4 (wrap64 (x5 + 1))) else (none)) else (none))) else (none)) else (parquetref11_all.l0 k x0 x3 (wrap64 (x4 + 1)))) else (none)) else (none)
end
def parquetref11_all.f (k : Nat) (l0 : List (List Int)) : Option ((List (S98))) := parquetref11_all.l0 k l0 ([] : List (S98)) 0
theorem parquetref11_all.mono_l : ∀ k, (∀ y0 y1 y2, LeO (parquetref11_all.l0 k y0 y1 y2) (parquetref11_all.l0 (k + 1) y0 y1 y2)) ∧ (∀ y0 y1 y2 y3, LeO (parquetref11_all.l1 k y0 y1 y2 y3) (parquetref11_all.l1 (k + 1) y0 y1 y2 y3))
  | 0 => ⟨fun _ _ _ r h => by simp [parquetref11_all.l0] at h, fun _ _ _ _ r h => by simp [parquetref11_all.l1] at h⟩
  | k + 1 => by
    obtain ⟨ih0, ih1⟩ := parquetref11_all.mono_l k
    refine ⟨?_, ?_⟩
    · intro y0 y1 y2
      unfold parquetref11_all.l0
      repeat' first
      | (with_reducible exact ih0 _ _ _)
      | (with_reducible exact ih1 _ _ _ _)
      | (with_reducible exact LeO.refl _)
      | (with_reducible exact LeO.none _)
      | (with_reducible refine LeO.ite ?_ ?_)
      | (with_reducible refine LeO.bind ?_ (fun _ => ?_))
      | exact ih0 _ _ _
      | exact ih1 _ _ _ _
      | exact LeO.none _
      | refine LeO.ite ?_ ?_
      | refine LeO.bind ?_ (fun _ => ?_)
    · intro y0 y1 y2 y3
      unfold parquetref11_all.l1
      repeat' first
      | (with_reducible exact ih0 _ _ _)
      | (with_reducible exact ih1 _ _ _ _)
      | (with_reducible exact LeO.refl _)
      | (with_reducible exact LeO.none _)
      | (with_reducible refine LeO.ite ?_ ?_)
      | (with_reducible refine LeO.bind ?_ (fun _ => ?_))
      | exact ih0 _ _ _
      | exact ih1 _ _ _ _
      | exact LeO.none _
      | refine LeO.ite ?_ ?_
      | refine LeO.bind ?_ (fun _ => ?_)
theorem parquetref11_all.mono : ∀ a0 k, LeO (parquetref11_all.f k a0) (parquetref11_all.f (k + 1) a0) := by
  intro a0 k
  obtain ⟨ih0, ih1⟩ := parquetref11_all.mono_l k
  unfold parquetref11_all.f
  repeat' first
      | (with_reducible exact ih0 _ _ _)
      | (with_reducible exact ih1 _ _ _ _)
      | (with_reducible exact LeO.refl _)
      | (with_reducible exact LeO.none _)
      | (with_reducible refine LeO.ite ?_ ?_)
      | (with_reducible refine LeO.bind ?_ (fun _ => ?_))
      | exact ih0 _ _ _
      | exact ih1 _ _ _ _
      | exact LeO.none _
      | refine LeO.ite ?_ ?_
      | refine LeO.bind ?_ (fun _ => ?_)
set_option maxHeartbeats 8000000 in
set_option maxRecDepth 100000 in
theorem parquetref11_all.calls (k : Nat) (A0 : Option Addr) (c0 : Nat) (l0 : List (List Int)) (r : List (S98)) (w : World) (hr0 : Kd.C (Kd.slice 3 (Kd.int .i64)) w A0 l0.length l0) (hc0 : l0.length ≤ c0) (h : parquetref11_all.f k l0 = some r) :
    Calls Tryd.prog 38 #[.slice A0 l0.length c0] w fun e w' => ∃ v0_ : Value, e = .returned (v0_) ∧ Kd.R k98 98 w' w.heap.size (fun _ => True) v0_ r ∧ Below w.heap.size w w' := by
  have hu98 := Tryd.underlying98
  have HR0 := Aside0.mk hr0
  have HC0 := Aside0.mk hc0
  clear hr0 hc0
  have HB := Aside0.mk (Below.refl w.heap.size w)
  have H : (parquetref11_all.l0 k l0 ([] : List (S98)) 0) = some r := h
  clear h
  have H' := Aside0.mk H
  clear H
  go_enter Tryd.func38, Tryd.ntmps38
  go_wp2
  go_loopg [3, 4] k (fun kq v3 v4 w' => ∃ (x3_1 : List (S98)) (x4_1 : Int), v4 = .int .i64 x4_1 ∧ Aside0 (parquetref11_all.l0 kq l0 x3_1 x4_1 = some r) ∧ Aside0 (kq ≤ k) ∧ Aside0 (Kd.R k98 98 w' w.heap.size (fun _ => True) v3 x3_1) ∧ Aside0 (Below w.heap.size w w'))
  case atStart => exact ⟨(([] : List (S98))), (0), (by first | rfl | (simp; done) | (simp [*]; done)), H', ⟨Nat.le_refl _⟩, ⟨by first | exact Kd.R_nil _ _ _ _ _ | exact Kd.N_nil _ _ _ _ _ | exact Kd.V_nil _ _ _ _ _ | exact Kd.Q_nil _ _ _ _ _ | exact Kd.S_nil _ _ _ _ _⟩, ⟨by repeat (first | (with_reducible first | exact HB.out | apply below_alloc | apply pw_below_drewN | apply below_drew1) | exact HB.out)⟩⟩
  case round =>
    clear H'
    obtain ⟨x3_1, x4_1, rfl, HA, HK1, HO_3, HB⟩ := hrel
    cases gk with
    | zero => exact absurd HA.out (by simp [parquetref11_all.l0])
    | succ k1 =>
      have H := HA.out
      clear HA
      simp only [parquetref11_all.l0] at H
      by_cases c2 : x4_1 < (l0.length : Int)
      · rw [if_pos c2] at H
        have c2b0 : decide (x4_1 < (l0.length : Int)) = true := decide_eq_true c2
        clear c2
        have H' := Aside0.mk H
        clear H
        go_wp2
        go_loopg [3, 5] k1 (fun kq v3 v5 w' => ∃ (x3_2 : List (S98)) (x5_2 : Int), v5 = .int .i64 x5_2 ∧ Aside0 (parquetref11_all.l1 kq l0 x3_2 x4_1 x5_2 = some r) ∧ Aside0 (kq ≤ k1) ∧ Aside0 (Kd.R k98 98 w' w.heap.size (fun _ => True) v3 x3_2) ∧ Aside0 (Below w.heap.size w w'))
        case atStart => exact ⟨(x3_1), (0), (by first | rfl | (simp; done) | (simp [*]; done)), H', ⟨Nat.le_refl _⟩, ⟨by (with_reducible repeat (first | apply Kd.R_alloc | apply Kd.R_drewN | apply Kd.R_drew)); exact HO_3.out⟩, ⟨by repeat (first | (with_reducible first | exact HB.out | apply below_alloc | apply pw_below_drewN | apply below_drew1) | exact HB.out)⟩⟩
        case round =>
          clear H'
          try clear c2
          try clear c2b0
          try clear p2
          obtain ⟨x3_2, x5_2, rfl, HA, HK2, HO_3, HB⟩ := hrel
          cases gk with
          | zero => exact absurd HA.out (by simp [parquetref11_all.l1])
          | succ k2 =>
            have H := HA.out
            clear HA
            simp only [parquetref11_all.l1] at H
            by_cases c3 : 0 ≤ x4_1
            · rw [if_pos c3] at H
              have c3b0 : decide (0 ≤ x4_1) = true := decide_eq_true c3
              clear c3
              by_cases c4 : x4_1 < (l0.length : Int)
              · rw [if_pos c4] at H
                have c4b0 : decide (x4_1 < (l0.length : Int)) = true := decide_eq_true c4
                clear c4
                by_cases c5 : x5_2 < ((rd_L13 l0 x4_1).length : Int)
                · rw [if_pos c5] at H
                  have c5b0 : decide (x5_2 < ((rd_L13 l0 x4_1).length : Int)) = true := decide_eq_true c5
                  clear c5
                  by_cases c6 : 0 < ((rd_L13 l0 x4_1).length : Int)
                  · rw [if_pos c6] at H
                    have c6b0 : decide (0 < ((rd_L13 l0 x4_1).length : Int)) = true := decide_eq_true c6
                    have c6b1 : decide (0 < (rd_L13 l0 x4_1).length) = true := decide_eq_true (by omega)
                    clear c6
                    by_cases c7 : (wrap64 (x5_2 + 1)) < ((rd_L13 l0 x4_1).length : Int)
                    · rw [if_pos c7] at H
                      have c7b0 : decide ((wrap64 (x5_2 + 1)) < ((rd_L13 l0 x4_1).length : Int)) = true := decide_eq_true c7
                      clear c7
                      obtain ⟨ji8, hji8⟩ : ∃ j_ : Int, (wrap64 (x5_2 + 1)) = j_ := ⟨_, rfl⟩
                      replace H : (if 0 ≤ (ji8) then (if 0 ≤ x5_2 then (if x3_2.length < 8796093022208 then (parquetref11_all.l1 k2 l0 (x3_2 ++ [(⟨rd (rd_L13 l0 x4_1) x5_2, rd (rd_L13 l0 x4_1) (ji8)⟩ : S98)]) x4_1 ji8) else (none)) else (none)) else (none)) = some r := by first | (rw [hji8] at H; exact H) | (simp only [hji8] at H ⊢; exact H)
                      (try rw [hji8] at c7b0)
                      have hji8w : (IntKind.i64.wrap (x5_2 + 1)) = ji8 := (i64_w _).trans hji8
                      by_cases c9 : 0 ≤ (ji8)
                      · rw [if_pos c9] at H
                        have c9b0 : decide (0 ≤ (ji8)) = true := decide_eq_true c9
                        clear c9
                        by_cases c10 : 0 ≤ x5_2
                        · rw [if_pos c10] at H
                          have c10b0 : decide (0 ≤ x5_2) = true := decide_eq_true c10
                          clear c10
                          by_cases c11 : x3_2.length < 8796093022208
                          · rw [if_pos c11] at H
                            have LMc11 := Aside0.mk c11
                            clear c11
                            obtain ⟨y134, hy134⟩ : ∃ y_ : List (S98), y_ = (x3_2 ++ [(⟨rd (rd_L13 l0 x4_1) x5_2, rd (rd_L13 l0 x4_1) (ji8)⟩ : S98)]) := ⟨_, rfl⟩
                            replace H : (parquetref11_all.l1 k2 l0 y134 x4_1 ji8) = some r := by first | (rw [hy134]; with_reducible exact H) | (have H2_ := (Option.bind_some _ _).symm.trans H; rw [hy134]; with_reducible exact H2_) | (have H2_ := (Option.bind_some _ _).symm.trans H; with_reducible exact H2_) | with_reducible exact H | (rw [hy134]; exact H) | exact H
                            have Ny134 := Aside0.mk hy134
                            clear hy134
                            have H' := Aside0.mk H
                            clear H
                            have p126 : 0 ≤ (x4_1 : Int) := of_decide_eq_true (by first | (with_reducible assumption) | assumption)
                            have q126 : x4_1 < (l0.length : Int) := of_decide_eq_true (by first | (with_reducible assumption) | assumption)
                            obtain ⟨ad126, A126_0, c126_0, e126, hx126_0, hl126_0, hi126_0⟩ := at_L13 HR0.out x4_1 p126 q126
                            cases e126
                            replace hx126_0 := (HB.out.cell (World.block_lt_of_cell? w _ hx126_0)).trans hx126_0
                            have HR126_0 := Aside0.mk hi126_0
                            have HC126_0 := Aside0.mk hl126_0
                            clear hi126_0 hl126_0
                            replace p126 := eq_true p126
                            replace q126 := eq_true q126
                            have p127 : 0 ≤ (x4_1 : Int) := of_decide_eq_true (by first | (with_reducible assumption) | assumption)
                            have q127 : x4_1 < (l0.length : Int) := of_decide_eq_true (by first | (with_reducible assumption) | assumption)
                            obtain ⟨ad127, A127_0, c127_0, e127, hx127_0, hl127_0, hi127_0⟩ := at_L13 HR0.out x4_1 p127 q127
                            obtain rfl : ad126 = ad127 := (by injection e127)
                            replace hx127_0 := (HB.out.cell (World.block_lt_of_cell? w _ hx127_0)).trans hx127_0
                            have HR127_0 := Aside0.mk hi127_0
                            have HC127_0 := Aside0.mk hl127_0
                            clear hi127_0 hl127_0
                            replace p127 := eq_true p127
                            replace q127 := eq_true q127
                            have ea_ := Option.some.inj (hx126_0.symm.trans hx127_0)
                            injection ea_ with ea_ en_ ec_
                            subst ea_
                            subst ec_
                            clear en_
                            have p128 : 0 ≤ (0 : Int) := (by omega)
                            have q128 : 0 < ((rd_L13 l0 x4_1).length : Int) := of_decide_eq_true (by first | (with_reducible assumption) | assumption)
                            obtain ⟨ad128, e128, hx128_0⟩ := Kd.at_int HR127_0.out 0 p128 q128
                            cases e128
                            have qi128 : (0 < (rd_L13 l0 x4_1).length) = True := eq_true (by omega)
                            (try rw [show ((0 : Int)).toNat = 0 from rfl] at hx128_0)
                            (try rw [Addr.add_zero'] at hx128_0)
                            replace hx128_0 := (HB.out.cell (World.block_lt_of_cell? w _ hx128_0)).trans hx128_0
                            replace p128 := eq_true p128
                            replace q128 := eq_true q128
                            have p129 : 0 ≤ (x4_1 : Int) := of_decide_eq_true (by first | (with_reducible assumption) | assumption)
                            have q129 : x4_1 < (l0.length : Int) := of_decide_eq_true (by first | (with_reducible assumption) | assumption)
                            obtain ⟨ad129, A129_0, c129_0, e129, hx129_0, hl129_0, hi129_0⟩ := at_L13 HR0.out x4_1 p129 q129
                            obtain rfl : ad126 = ad129 := (by injection e129)
                            replace hx129_0 := (HB.out.cell (World.block_lt_of_cell? w _ hx129_0)).trans hx129_0
                            (try clear hx127_0)
                            have HR129_0 := Aside0.mk hi129_0
                            have HC129_0 := Aside0.mk hl129_0
                            clear hi129_0 hl129_0
                            replace p129 := eq_true p129
                            replace q129 := eq_true q129
                            have ea_ := Option.some.inj (hx126_0.symm.trans hx129_0)
                            injection ea_ with ea_ en_ ec_
                            subst ea_
                            subst ec_
                            clear en_
                            have p130 : 0 ≤ (x4_1 : Int) := of_decide_eq_true (by first | (with_reducible assumption) | assumption)
                            have q130 : x4_1 < (l0.length : Int) := of_decide_eq_true (by first | (with_reducible assumption) | assumption)
                            obtain ⟨ad130, A130_0, c130_0, e130, hx130_0, hl130_0, hi130_0⟩ := at_L13 HR0.out x4_1 p130 q130
                            obtain rfl : ad126 = ad130 := (by injection e130)
                            replace hx130_0 := (HB.out.cell (World.block_lt_of_cell? w _ hx130_0)).trans hx130_0
                            (try clear hx127_0)
                            (try clear hx129_0)
                            have HR130_0 := Aside0.mk hi130_0
                            have HC130_0 := Aside0.mk hl130_0
                            clear hi130_0 hl130_0
                            replace p130 := eq_true p130
                            replace q130 := eq_true q130
                            have ea_ := Option.some.inj (hx126_0.symm.trans hx130_0)
                            injection ea_ with ea_ en_ ec_
                            subst ea_
                            subst ec_
                            clear en_
                            have p131 : 0 ≤ ((ji8) : Int) := of_decide_eq_true (by first | (with_reducible assumption) | assumption)
                            have q131 : (ji8) < ((rd_L13 l0 x4_1).length : Int) := of_decide_eq_true (by first | (with_reducible assumption) | assumption)
                            obtain ⟨ad131, e131, hx131_0⟩ := Kd.at_int HR130_0.out (ji8) p131 q131
                            cases e131
                            replace hx131_0 := (HB.out.cell (World.block_lt_of_cell? w _ hx131_0)).trans hx131_0
                            replace p131 := eq_true p131
                            replace q131 := eq_true q131
                            have p132 : 0 ≤ (x4_1 : Int) := of_decide_eq_true (by first | (with_reducible assumption) | assumption)
                            have q132 : x4_1 < (l0.length : Int) := of_decide_eq_true (by first | (with_reducible assumption) | assumption)
                            obtain ⟨ad132, A132_0, c132_0, e132, hx132_0, hl132_0, hi132_0⟩ := at_L13 HR0.out x4_1 p132 q132
                            obtain rfl : ad126 = ad132 := (by injection e132)
                            replace hx132_0 := (HB.out.cell (World.block_lt_of_cell? w _ hx132_0)).trans hx132_0
                            (try clear hx127_0)
                            (try clear hx129_0)
                            (try clear hx130_0)
                            have HR132_0 := Aside0.mk hi132_0
                            have HC132_0 := Aside0.mk hl132_0
                            clear hi132_0 hl132_0
                            replace p132 := eq_true p132
                            replace q132 := eq_true q132
                            have ea_ := Option.some.inj (hx126_0.symm.trans hx132_0)
                            injection ea_ with ea_ en_ ec_
                            subst ea_
                            subst ec_
                            clear en_
                            have p133 : 0 ≤ (x5_2 : Int) := of_decide_eq_true (by first | (with_reducible assumption) | assumption)
                            have q133 : x5_2 < ((rd_L13 l0 x4_1).length : Int) := of_decide_eq_true (by first | (with_reducible assumption) | assumption)
                            obtain ⟨ad133, e133, hx133_0⟩ := Kd.at_int HR132_0.out x5_2 p133 q133
                            cases e133
                            replace hx133_0 := (HB.out.cell (World.block_lt_of_cell? w _ hx133_0)).trans hx133_0
                            replace p133 := eq_true p133
                            replace q133 := eq_true q133
                            go_wp2_with (first | ((with_reducible refine gate_builtin (b := .append) (xs := #[.tmp 44, .tmp 54]) rfl ?_); at_builtin; refine Kd.R_append k98 (w0 := w) w.heap.size rfl (.tmp 44) (.tmp 54) 95 98 (.agg #[(.int .i64 0), (.int .i64 0)]) 16 rfl Tryd.underlying95 info98 rfl (by decide) (by omega) u3 x3_2 (⟨rd (rd_L13 l0 x4_1) x5_2, rd (rd_L13 l0 x4_1) (ji8)⟩ : S98) [.int .i64 (rd (rd_L13 l0 x4_1) x5_2), .int .i64 (rd (rd_L13 l0 x4_1) (ji8))] (fun _ => True) (fun _ => False) rfl rfl ?aP (fun _ hk => hk.elim) ?aF ?aO ?aB ?aS ?aL ?_; (case aP => exact k98_mkM _ _ _ (⟨rd (rd_L13 l0 x4_1) x5_2, rd (rd_L13 l0 x4_1) (ji8)⟩ : S98)); (case aB => exact (by repeat (first | (with_reducible first | exact HB.out | apply below_alloc | apply pw_below_drewN | apply below_drew1) | exact HB.out))); (case aF => exact (fun _ _ => trivial)); (case aO => exact (by (with_reducible repeat (first | apply Kd.R_alloc | apply Kd.R_drewN | apply Kd.R_drew)); exact HO_3.out)); (case aS => exact (below_size (by repeat (first | (with_reducible first | exact HB.out | apply below_alloc | apply pw_below_drewN | apply below_drew1) | exact HB.out)))); (case aL => have := LMc11.out; omega); intro v135 w12 ho hb hg hat; rw [← Ny134.out] at ho; have n0_ := Aside0.mk (hb); have n1_ := Aside0.mk (ho); clear HB; clear HO_3; have HB := n0_; have HO136 := n1_; clear n0_ n1_; clear ho hb hg hat))
                            go_roundg k2
                            case measure => have := HK1.out; have := HK2.out; omega
                            case rel => exact ⟨(y134), (ji8), (by first | rfl | (simp; done) | (simp only [← hji8] <;> (first | rfl | simp)) | (simp [*]; done)), H', ⟨by have := HK1.out; have := HK2.out; omega⟩, ⟨by (with_reducible repeat (first | apply Kd.R_alloc | apply Kd.R_drewN | apply Kd.R_drew)); exact HO136.out⟩, ⟨by repeat (first | (with_reducible first | exact HB.out | apply below_alloc | apply pw_below_drewN | apply below_drew1) | exact HB.out)⟩⟩
                          · rw [if_neg c11] at H
                            exact absurd H (by simp)
                        · rw [if_neg c10] at H
                          exact absurd H (by simp)
                      · rw [if_neg c9] at H
                        exact absurd H (by simp)
                    · rw [if_neg c7] at H
                      have c7b0 : decide ((wrap64 (x5_2 + 1)) < ((rd_L13 l0 x4_1).length : Int)) = false := decide_eq_false c7
                      clear c7
                      by_cases c13 : 0 ≤ x5_2
                      · rw [if_pos c13] at H
                        have c13b0 : decide (0 ≤ x5_2) = true := decide_eq_true c13
                        clear c13
                        by_cases c14 : x3_2.length < 8796093022208
                        · rw [if_pos c14] at H
                          have LMc14 := Aside0.mk c14
                          clear c14
                          obtain ⟨y139, hy139⟩ : ∃ y_ : List (S98), y_ = (x3_2 ++ [(⟨rd (rd_L13 l0 x4_1) x5_2, rd (rd_L13 l0 x4_1) 0⟩ : S98)]) := ⟨_, rfl⟩
                          replace H : (parquetref11_all.l1 k2 l0 y139 x4_1 (wrap64 (x5_2 + 1))) = some r := by first | (rw [hy139]; with_reducible exact H) | (have H2_ := (Option.bind_some _ _).symm.trans H; rw [hy139]; with_reducible exact H2_) | (have H2_ := (Option.bind_some _ _).symm.trans H; with_reducible exact H2_) | with_reducible exact H | (rw [hy139]; exact H) | exact H
                          have Ny139 := Aside0.mk hy139
                          clear hy139
                          have H' := Aside0.mk H
                          clear H
                          have p126 : 0 ≤ (x4_1 : Int) := of_decide_eq_true (by first | (with_reducible assumption) | assumption)
                          have q126 : x4_1 < (l0.length : Int) := of_decide_eq_true (by first | (with_reducible assumption) | assumption)
                          obtain ⟨ad126, A126_0, c126_0, e126, hx126_0, hl126_0, hi126_0⟩ := at_L13 HR0.out x4_1 p126 q126
                          cases e126
                          replace hx126_0 := (HB.out.cell (World.block_lt_of_cell? w _ hx126_0)).trans hx126_0
                          have HR126_0 := Aside0.mk hi126_0
                          have HC126_0 := Aside0.mk hl126_0
                          clear hi126_0 hl126_0
                          replace p126 := eq_true p126
                          replace q126 := eq_true q126
                          have p127 : 0 ≤ (x4_1 : Int) := of_decide_eq_true (by first | (with_reducible assumption) | assumption)
                          have q127 : x4_1 < (l0.length : Int) := of_decide_eq_true (by first | (with_reducible assumption) | assumption)
                          obtain ⟨ad127, A127_0, c127_0, e127, hx127_0, hl127_0, hi127_0⟩ := at_L13 HR0.out x4_1 p127 q127
                          obtain rfl : ad126 = ad127 := (by injection e127)
                          replace hx127_0 := (HB.out.cell (World.block_lt_of_cell? w _ hx127_0)).trans hx127_0
                          have HR127_0 := Aside0.mk hi127_0
                          have HC127_0 := Aside0.mk hl127_0
                          clear hi127_0 hl127_0
                          replace p127 := eq_true p127
                          replace q127 := eq_true q127
                          have ea_ := Option.some.inj (hx126_0.symm.trans hx127_0)
                          injection ea_ with ea_ en_ ec_
                          subst ea_
                          subst ec_
                          clear en_
                          have p128 : 0 ≤ (0 : Int) := (by omega)
                          have q128 : 0 < ((rd_L13 l0 x4_1).length : Int) := of_decide_eq_true (by first | (with_reducible assumption) | assumption)
                          obtain ⟨ad128, e128, hx128_0⟩ := Kd.at_int HR127_0.out 0 p128 q128
                          cases e128
                          have qi128 : (0 < (rd_L13 l0 x4_1).length) = True := eq_true (by omega)
                          (try rw [show ((0 : Int)).toNat = 0 from rfl] at hx128_0)
                          (try rw [Addr.add_zero'] at hx128_0)
                          replace hx128_0 := (HB.out.cell (World.block_lt_of_cell? w _ hx128_0)).trans hx128_0
                          replace p128 := eq_true p128
                          replace q128 := eq_true q128
                          have p129 : 0 ≤ (x4_1 : Int) := of_decide_eq_true (by first | (with_reducible assumption) | assumption)
                          have q129 : x4_1 < (l0.length : Int) := of_decide_eq_true (by first | (with_reducible assumption) | assumption)
                          obtain ⟨ad129, A129_0, c129_0, e129, hx129_0, hl129_0, hi129_0⟩ := at_L13 HR0.out x4_1 p129 q129
                          obtain rfl : ad126 = ad129 := (by injection e129)
                          replace hx129_0 := (HB.out.cell (World.block_lt_of_cell? w _ hx129_0)).trans hx129_0
                          (try clear hx127_0)
                          have HR129_0 := Aside0.mk hi129_0
                          have HC129_0 := Aside0.mk hl129_0
                          clear hi129_0 hl129_0
                          replace p129 := eq_true p129
                          replace q129 := eq_true q129
                          have ea_ := Option.some.inj (hx126_0.symm.trans hx129_0)
                          injection ea_ with ea_ en_ ec_
                          subst ea_
                          subst ec_
                          clear en_
                          have p137 : 0 ≤ (x4_1 : Int) := of_decide_eq_true (by first | (with_reducible assumption) | assumption)
                          have q137 : x4_1 < (l0.length : Int) := of_decide_eq_true (by first | (with_reducible assumption) | assumption)
                          obtain ⟨ad137, A137_0, c137_0, e137, hx137_0, hl137_0, hi137_0⟩ := at_L13 HR0.out x4_1 p137 q137
                          obtain rfl : ad126 = ad137 := (by injection e137)
                          replace hx137_0 := (HB.out.cell (World.block_lt_of_cell? w _ hx137_0)).trans hx137_0
                          (try clear hx127_0)
                          (try clear hx129_0)
                          have HR137_0 := Aside0.mk hi137_0
                          have HC137_0 := Aside0.mk hl137_0
                          clear hi137_0 hl137_0
                          replace p137 := eq_true p137
                          replace q137 := eq_true q137
                          have ea_ := Option.some.inj (hx126_0.symm.trans hx137_0)
                          injection ea_ with ea_ en_ ec_
                          subst ea_
                          subst ec_
                          clear en_
                          have p138 : 0 ≤ (x5_2 : Int) := of_decide_eq_true (by first | (with_reducible assumption) | assumption)
                          have q138 : x5_2 < ((rd_L13 l0 x4_1).length : Int) := of_decide_eq_true (by first | (with_reducible assumption) | assumption)
                          obtain ⟨ad138, e138, hx138_0⟩ := Kd.at_int HR137_0.out x5_2 p138 q138
                          cases e138
                          replace hx138_0 := (HB.out.cell (World.block_lt_of_cell? w _ hx138_0)).trans hx138_0
                          replace p138 := eq_true p138
                          replace q138 := eq_true q138
                          go_wp2_with (first | ((with_reducible refine gate_builtin (b := .append) (xs := #[.tmp 44, .tmp 54]) rfl ?_); at_builtin; refine Kd.R_append k98 (w0 := w) w.heap.size rfl (.tmp 44) (.tmp 54) 95 98 (.agg #[(.int .i64 0), (.int .i64 0)]) 16 rfl Tryd.underlying95 info98 rfl (by decide) (by omega) u3 x3_2 (⟨rd (rd_L13 l0 x4_1) x5_2, rd (rd_L13 l0 x4_1) 0⟩ : S98) [.int .i64 (rd (rd_L13 l0 x4_1) x5_2), .int .i64 (rd (rd_L13 l0 x4_1) 0)] (fun _ => True) (fun _ => False) rfl rfl ?aP (fun _ hk => hk.elim) ?aF ?aO ?aB ?aS ?aL ?_; (case aP => exact k98_mkM _ _ _ (⟨rd (rd_L13 l0 x4_1) x5_2, rd (rd_L13 l0 x4_1) 0⟩ : S98)); (case aB => exact (by repeat (first | (with_reducible first | exact HB.out | apply below_alloc | apply pw_below_drewN | apply below_drew1) | exact HB.out))); (case aF => exact (fun _ _ => trivial)); (case aO => exact (by (with_reducible repeat (first | apply Kd.R_alloc | apply Kd.R_drewN | apply Kd.R_drew)); exact HO_3.out)); (case aS => exact (below_size (by repeat (first | (with_reducible first | exact HB.out | apply below_alloc | apply pw_below_drewN | apply below_drew1) | exact HB.out)))); (case aL => have := LMc14.out; omega); intro v140 w15 ho hb hg hat; rw [← Ny139.out] at ho; have n0_ := Aside0.mk (hb); have n1_ := Aside0.mk (ho); clear HB; clear HO_3; have HB := n0_; have HO141 := n1_; clear n0_ n1_; clear ho hb hg hat))
                          go_roundg k2
                          case measure => have := HK1.out; have := HK2.out; omega
                          case rel => exact ⟨(y139), (wrap64 (x5_2 + 1)), (by first | rfl | (simp; done) | (simp [*]; done)), H', ⟨by have := HK1.out; have := HK2.out; omega⟩, ⟨by (with_reducible repeat (first | apply Kd.R_alloc | apply Kd.R_drewN | apply Kd.R_drew)); exact HO141.out⟩, ⟨by repeat (first | (with_reducible first | exact HB.out | apply below_alloc | apply pw_below_drewN | apply below_drew1) | exact HB.out)⟩⟩
                        · rw [if_neg c14] at H
                          exact absurd H (by simp)
                      · rw [if_neg c13] at H
                        exact absurd H (by simp)
                  · rw [if_neg c6] at H
                    exact absurd H (by simp)
                · rw [if_neg c5] at H
                  have c5b0 : decide (x5_2 < ((rd_L13 l0 x4_1).length : Int)) = false := decide_eq_false c5
                  clear c5
                  have H' := Aside0.mk H
                  clear H
                  have p126 : 0 ≤ (x4_1 : Int) := of_decide_eq_true (by first | (with_reducible assumption) | assumption)
                  have q126 : x4_1 < (l0.length : Int) := of_decide_eq_true (by first | (with_reducible assumption) | assumption)
                  obtain ⟨ad126, A126_0, c126_0, e126, hx126_0, hl126_0, hi126_0⟩ := at_L13 HR0.out x4_1 p126 q126
                  cases e126
                  replace hx126_0 := (HB.out.cell (World.block_lt_of_cell? w _ hx126_0)).trans hx126_0
                  have HR126_0 := Aside0.mk hi126_0
                  have HC126_0 := Aside0.mk hl126_0
                  clear hi126_0 hl126_0
                  replace p126 := eq_true p126
                  replace q126 := eq_true q126
                  go_wp2
                  go_roundg k2
                  case measure => have := HK1.out; have := HK2.out; omega
                  case rel => exact ⟨(x3_2), (wrap64 (x4_1 + 1)), (by first | rfl | (simp; done) | (simp [*]; done)), H', ⟨by have := HK1.out; have := HK2.out; omega⟩, ⟨by (with_reducible repeat (first | apply Kd.R_alloc | apply Kd.R_drewN | apply Kd.R_drew)); exact HO_3.out⟩, ⟨by repeat (first | (with_reducible first | exact HB.out | apply below_alloc | apply pw_below_drewN | apply below_drew1) | exact HB.out)⟩⟩
              · rw [if_neg c4] at H
                exact absurd H (by simp)
            · rw [if_neg c3] at H
              exact absurd H (by simp)
      · rw [if_neg c2] at H
        have c2b0 : decide (x4_1 < (l0.length : Int)) = false := decide_eq_false c2
        clear c2
        obtain rfl := Option.some.inj H
        go_wp2
        go_ret
        exact ⟨_, by first | rfl | (simp [errW_none, errW_some] <;> rfl) | (simp [*, errW_none, errW_some] <;> rfl), by (with_reducible repeat (first | apply Kd.R_alloc | apply Kd.R_drewN | apply Kd.R_drew)); exact HO_3.out, by repeat (first | (with_reducible first | exact HB.out | apply below_alloc | apply pw_below_drewN | apply below_drew1) | exact HB.out)⟩

end Go.Proofs.YtbmgajddhfjchaaDoor.Obj
