-- written by this session's gprint.py (patches over the kit's print): not a print of print.sh
import Derived.Test.YtbmgajddhfjchaaDoorCtObjx0
import Derived.Test.YtbmgajddhfjchaaDoorCtObjx2
import Derived.Test.YtbmgajddhfjchaaDoorCtG1
import Derived.Test.YtbmgajddhfjchaaDoorCtG4
import Derived.Test.YtbmgajddhfjchaaDoorCtG2
import Derived.Test.YtbmgajddhfjchaaDoorCtObjBx3
import Derived.Test.YtbmgajddhfjchaaDoorCtObjBx9
namespace Go.Proofs.YtbmgajddhfjchaaDoor.Obj
open Go.RowKit Go.Proofs.YtbmgajddhfjchaaDoorW.PrintWords Go.Proofs.YtbmgajddhfjchaaDoorW.PrintLast Go.Proofs.YtbmgajddhfjchaaDoorW.PrintMore
attribute [local go_sem] max2_int min2_int max_two min_two max_three min_three max_four min_four   -- for this text's walks alone
set_option linter.unusedVariables false
set_option linter.unusedSimpArgs false

/-! ### parquetlaw21_ObjectCut: function 4 -/
mutual
def parquetlaw21_ObjectCut.j0 : Nat → Int → Int → ByteArray → List (S40) → Bool → Option (Bool)
  | 0, _, _, _, _, _ => none
  | k + 1, x1, x2, x7, x9, x45 => if x45 = true then (none) else (if (IntKind.u64.wrap ((x9.length : Int))) = 0 then (none) else (if 0 ≤ (wrap64 (Int.tmod (IntKind.u64.wrap (x1)) (IntKind.u64.wrap ((x9.length : Int))))) then (if (wrap64 (Int.tmod (IntKind.u64.wrap (x1)) (IntKind.u64.wrap ((x9.length : Int))))) < (x9.length : Int) then ((some (([(⟨#[120]⟩ : ByteArray), (⟨#[49, 46, 53]⟩ : ByteArray), (⟨#[45, 45, 49]⟩ : ByteArray), (⟨#[48, 49]⟩ : ByteArray), (⟨#[118, 118]⟩ : ByteArray), (⟨#[45, 48]⟩ : ByteArray)] : List ByteArray) : List ByteArray)).bind fun y248 => (if 0 ≤ (wrap64 (Int.tmod x2 6)) then (if (wrap64 (Int.tmod x2 6)) < (y248.length : Int) then (if 0 ≤ ((rd_T40 x9 (wrap64 (Int.tmod (IntKind.u64.wrap (x1)) (IntKind.u64.wrap ((x9.length : Int)))))).f0) then (if ((rd_T40 x9 (wrap64 (Int.tmod (IntKind.u64.wrap (x1)) (IntKind.u64.wrap ((x9.length : Int)))))).f0) ≤ (x7.size : Int) then (if (x7.extract 0 (((rd_T40 x9 (wrap64 (Int.tmod (IntKind.u64.wrap (x1)) (IntKind.u64.wrap ((x9.length : Int)))))).f0) : Int).toNat).size + (rdOf ByteArray.empty y248 (wrap64 (Int.tmod x2 6))).size ≤ 9223372036854775807 then (if 0 ≤ (wrap64 (((rd_T40 x9 (wrap64 (Int.tmod (IntKind.u64.wrap (x1)) (IntKind.u64.wrap ((x9.length : Int)))))).f0) + (((rd_T40 x9 (wrap64 (Int.tmod (IntKind.u64.wrap (x1)) (IntKind.u64.wrap ((x9.length : Int)))))).f1).size : Int))) then (if (wrap64 (((rd_T40 x9 (wrap64 (Int.tmod (IntKind.u64.wrap (x1)) (IntKind.u64.wrap ((x9.length : Int)))))).f0) + (((rd_T40 x9 (wrap64 (Int.tmod (IntKind.u64.wrap (x1)) (IntKind.u64.wrap ((x9.length : Int)))))).f1).size : Int))) ≤ (x7.size : Int) then (if ((x7.extract 0 (((rd_T40 x9 (wrap64 (Int.tmod (IntKind.u64.wrap (x1)) (IntKind.u64.wrap ((x9.length : Int)))))).f0) : Int).toNat) ++ (rdOf ByteArray.empty y248 (wrap64 (Int.tmod x2 6)))).size + (x7.extract ((wrap64 (((rd_T40 x9 (wrap64 (Int.tmod (IntKind.u64.wrap (x1)) (IntKind.u64.wrap ((x9.length : Int)))))).f0) + (((rd_T40 x9 (wrap64 (Int.tmod (IntKind.u64.wrap (x1)) (IntKind.u64.wrap ((x9.length : Int)))))).f1).size : Int))) : Int).toNat x7.size).size ≤ 9223372036854775807 then ((conv_bytes.f (((x7.extract 0 (((rd_T40 x9 (wrap64 (Int.tmod (IntKind.u64.wrap (x1)) (IntKind.u64.wrap ((x9.length : Int)))))).f0) : Int).toNat) ++ (rdOf ByteArray.empty y248 (wrap64 (Int.tmod x2 6)))) ++ (x7.extract ((wrap64 (((rd_T40 x9 (wrap64 (Int.tmod (IntKind.u64.wrap (x1)) (IntKind.u64.wrap ((x9.length : Int)))))).f0) + (((rd_T40 x9 (wrap64 (Int.tmod (IntKind.u64.wrap (x1)) (IntKind.u64.wrap ((x9.length : Int)))))).f1).size : Int))) : Int).toNat x7.size))).bind fun t252 => ((object_Read.f t252).bind fun bt255 => (if bt255.2.2.2.1 = ((rd_T40 x9 (wrap64 (Int.tmod (IntKind.u64.wrap (x1)) (IntKind.u64.wrap ((x9.length : Int)))))).f0) then (parquetlaw21_ObjectCut.j1 k x7 x9 (wrap64 (Int.tmod (IntKind.u64.wrap (x1)) (IntKind.u64.wrap ((x9.length : Int))))) ((rd_T40 x9 (wrap64 (Int.tmod (IntKind.u64.wrap (x1)) (IntKind.u64.wrap ((x9.length : Int)))))).f0) (bt255.2.2.2.2 != 11)) else (parquetlaw21_ObjectCut.j1 k x7 x9 (wrap64 (Int.tmod (IntKind.u64.wrap (x1)) (IntKind.u64.wrap ((x9.length : Int))))) ((rd_T40 x9 (wrap64 (Int.tmod (IntKind.u64.wrap (x1)) (IntKind.u64.wrap ((x9.length : Int)))))).f0) true)))) else (none)) else (none)) else (none)) else (none)) else (none)) else (none)) else (none)) else (none))) else (none)) else (none)))
def parquetlaw21_ObjectCut.j1 : Nat → ByteArray → List (S40) → Int → Int → Bool → Option (Bool)
  | 0, _, _, _, _, _ => none
  | k + 1, x7, x9, x11, x12, x93 => if x93 = true then (none) else (parquetlaw21_ObjectCut.l0 k x7 x9 x11 x12 x11)
def parquetlaw21_ObjectCut.j3 : Nat → ByteArray → List (S40) → Int → Int → Int → Option (Bool)
  | 0, _, _, _, _, _ => none
  | k + 1, x7, x9, x11, x12, x18 => if x18 = x11 then (parquetlaw21_ObjectCut.j4 k x7 x12 true) else (if (wrap64 (x11 - x18)) = 4 then (if 0 ≤ x18 then (if x18 < (x9.length : Int) then (parquetlaw21_ObjectCut.j4 k x7 x12 (((rd_T40 x9 x18).f1).toList == ([102] : List UInt8))) else (none)) else (none)) else (parquetlaw21_ObjectCut.j4 k x7 x12 false))
def parquetlaw21_ObjectCut.j4 : Nat → ByteArray → Int → Bool → Option (Bool)
  | 0, _, _, _ => none
  | k + 1, x7, x12, x131 => if x131 = true then ((parquetlaw21_known.f k).bind fun t268 => (some t268)) else (if 0 ≤ x12 then (if x12 ≤ (x7.size : Int) then ((conv_bytes.f (x7.extract 0 (x12 : Int).toNat)).bind fun t269 => ((object_Read.f t269).bind fun bt272 => (if bt272.2.2.2.1 = x12 then (if bt272.2.2.2.2 = 11 then ((parquetlaw21_known.f k).bind fun t282 => (some t282)) else (none)) else (none)))) else (none)) else (none))
def parquetlaw21_ObjectCut.l0 : Nat → ByteArray → List (S40) → Int → Int → Int → Option (Bool)
  | 0, _, _, _, _, _ => none
  | k + 1, x7, x9, x11, x12, x18 => if x18 > 0 then (if 0 ≤ x18 then (if x18 < (x9.length : Int) then (if ((rd_T40 x9 x18).f1).toList = ([118] : List UInt8) then (parquetlaw21_ObjectCut.j3 k x7 x9 x11 x12 x18) else (if ((rd_T40 x9 x18).f1).toList = ([102] : List UInt8) then (parquetlaw21_ObjectCut.j3 k x7 x9 x11 x12 x18) else (parquetlaw21_ObjectCut.l0 k x7 x9 x11 x12 (wrap64 (x18 - 1))))) else (none)) else (none)) else (parquetlaw21_ObjectCut.j3 k x7 x9 x11 x12 x18)
end
def parquetlaw21_ObjectCut.f (k : Nat) (l0_0 : List (S47)) (a0_1 : Int) (l0_2 : List (List Int)) (a1 : Int) (a2 : Int) : Option (Bool) := (parquetlaw21_many.f k l0_0 a0_1 l0_2).bind fun t234 => (if t234 = true then ((parquetlaw21_known.f k).bind fun t235 => (some t235)) else ((object_Write.f l0_0 a0_1 l0_2).bind fun bt236 => (if bt236.2 = 0 then ((conv_bytes.f bt236.1).bind fun t239 => ((parquetref02_All.f k t239).bind fun bt242 => (if bt242.2 = 0 then (parquetlaw21_ObjectCut.j0 k a1 a2 bt236.1 bt242.1 ((bt242.1.length : Int) == 0)) else (parquetlaw21_ObjectCut.j0 k a1 a2 bt236.1 bt242.1 true)))) else ((parquetlaw21_known.f k).bind fun t238 => (some t238)))))
theorem parquetlaw21_ObjectCut.mono_l : ∀ k, (∀ y0 y1 y2 y3 y4, LeO (parquetlaw21_ObjectCut.j0 k y0 y1 y2 y3 y4) (parquetlaw21_ObjectCut.j0 (k + 1) y0 y1 y2 y3 y4)) ∧ (∀ y0 y1 y2 y3 y4, LeO (parquetlaw21_ObjectCut.j1 k y0 y1 y2 y3 y4) (parquetlaw21_ObjectCut.j1 (k + 1) y0 y1 y2 y3 y4)) ∧ (∀ y0 y1 y2 y3 y4, LeO (parquetlaw21_ObjectCut.j3 k y0 y1 y2 y3 y4) (parquetlaw21_ObjectCut.j3 (k + 1) y0 y1 y2 y3 y4)) ∧ (∀ y0 y1 y2, LeO (parquetlaw21_ObjectCut.j4 k y0 y1 y2) (parquetlaw21_ObjectCut.j4 (k + 1) y0 y1 y2)) ∧ (∀ y0 y1 y2 y3 y4, LeO (parquetlaw21_ObjectCut.l0 k y0 y1 y2 y3 y4) (parquetlaw21_ObjectCut.l0 (k + 1) y0 y1 y2 y3 y4))
  | 0 => ⟨fun _ _ _ _ _ r h => by simp [parquetlaw21_ObjectCut.j0] at h, fun _ _ _ _ _ r h => by simp [parquetlaw21_ObjectCut.j1] at h, fun _ _ _ _ _ r h => by simp [parquetlaw21_ObjectCut.j3] at h, fun _ _ _ r h => by simp [parquetlaw21_ObjectCut.j4] at h, fun _ _ _ _ _ r h => by simp [parquetlaw21_ObjectCut.l0] at h⟩
  | k + 1 => by
    obtain ⟨ih0, ih1, ih2, ih3, ih4⟩ := parquetlaw21_ObjectCut.mono_l k
    refine ⟨?_, ?_, ?_, ?_, ?_⟩
    · intro y0 y1 y2 y3 y4
      unfold parquetlaw21_ObjectCut.j0
      repeat' first
      | (with_reducible exact ih0 _ _ _ _ _)
      | (with_reducible exact ih1 _ _ _ _ _)
      | (with_reducible exact ih2 _ _ _ _ _)
      | (with_reducible exact ih3 _ _ _)
      | (with_reducible exact ih4 _ _ _ _ _)
      | (with_reducible exact parquetlaw21_known.mono _)
      | (with_reducible exact parquetlaw21_many.mono _ _ _ _)
      | (with_reducible exact parquetref02_All.mono _ _)
      | (with_reducible exact LeO.refl _)
      | (with_reducible exact LeO.none _)
      | (with_reducible refine LeO.ite ?_ ?_)
      | (with_reducible refine LeO.bind ?_ (fun _ => ?_))
      | exact ih0 _ _ _ _ _
      | exact ih1 _ _ _ _ _
      | exact ih2 _ _ _ _ _
      | exact ih3 _ _ _
      | exact ih4 _ _ _ _ _
      | exact parquetlaw21_known.mono _
      | exact parquetlaw21_many.mono _ _ _ _
      | exact parquetref02_All.mono _ _
      | exact LeO.none _
      | refine LeO.ite ?_ ?_
      | refine LeO.bind ?_ (fun _ => ?_)
    · intro y0 y1 y2 y3 y4
      unfold parquetlaw21_ObjectCut.j1
      repeat' first
      | (with_reducible exact ih0 _ _ _ _ _)
      | (with_reducible exact ih1 _ _ _ _ _)
      | (with_reducible exact ih2 _ _ _ _ _)
      | (with_reducible exact ih3 _ _ _)
      | (with_reducible exact ih4 _ _ _ _ _)
      | (with_reducible exact parquetlaw21_known.mono _)
      | (with_reducible exact parquetlaw21_many.mono _ _ _ _)
      | (with_reducible exact parquetref02_All.mono _ _)
      | (with_reducible exact LeO.refl _)
      | (with_reducible exact LeO.none _)
      | (with_reducible refine LeO.ite ?_ ?_)
      | (with_reducible refine LeO.bind ?_ (fun _ => ?_))
      | exact ih0 _ _ _ _ _
      | exact ih1 _ _ _ _ _
      | exact ih2 _ _ _ _ _
      | exact ih3 _ _ _
      | exact ih4 _ _ _ _ _
      | exact parquetlaw21_known.mono _
      | exact parquetlaw21_many.mono _ _ _ _
      | exact parquetref02_All.mono _ _
      | exact LeO.none _
      | refine LeO.ite ?_ ?_
      | refine LeO.bind ?_ (fun _ => ?_)
    · intro y0 y1 y2 y3 y4
      unfold parquetlaw21_ObjectCut.j3
      repeat' first
      | (with_reducible exact ih0 _ _ _ _ _)
      | (with_reducible exact ih1 _ _ _ _ _)
      | (with_reducible exact ih2 _ _ _ _ _)
      | (with_reducible exact ih3 _ _ _)
      | (with_reducible exact ih4 _ _ _ _ _)
      | (with_reducible exact parquetlaw21_known.mono _)
      | (with_reducible exact parquetlaw21_many.mono _ _ _ _)
      | (with_reducible exact parquetref02_All.mono _ _)
      | (with_reducible exact LeO.refl _)
      | (with_reducible exact LeO.none _)
      | (with_reducible refine LeO.ite ?_ ?_)
      | (with_reducible refine LeO.bind ?_ (fun _ => ?_))
      | exact ih0 _ _ _ _ _
      | exact ih1 _ _ _ _ _
      | exact ih2 _ _ _ _ _
      | exact ih3 _ _ _
      | exact ih4 _ _ _ _ _
      | exact parquetlaw21_known.mono _
      | exact parquetlaw21_many.mono _ _ _ _
      | exact parquetref02_All.mono _ _
      | exact LeO.none _
      | refine LeO.ite ?_ ?_
      | refine LeO.bind ?_ (fun _ => ?_)
    · intro y0 y1 y2
      unfold parquetlaw21_ObjectCut.j4
      repeat' first
      | (with_reducible exact ih0 _ _ _ _ _)
      | (with_reducible exact ih1 _ _ _ _ _)
      | (with_reducible exact ih2 _ _ _ _ _)
      | (with_reducible exact ih3 _ _ _)
      | (with_reducible exact ih4 _ _ _ _ _)
      | (with_reducible exact parquetlaw21_known.mono _)
      | (with_reducible exact parquetlaw21_many.mono _ _ _ _)
      | (with_reducible exact parquetref02_All.mono _ _)
      | (with_reducible exact LeO.refl _)
      | (with_reducible exact LeO.none _)
      | (with_reducible refine LeO.ite ?_ ?_)
      | (with_reducible refine LeO.bind ?_ (fun _ => ?_))
      | exact ih0 _ _ _ _ _
      | exact ih1 _ _ _ _ _
      | exact ih2 _ _ _ _ _
      | exact ih3 _ _ _
      | exact ih4 _ _ _ _ _
      | exact parquetlaw21_known.mono _
      | exact parquetlaw21_many.mono _ _ _ _
      | exact parquetref02_All.mono _ _
      | exact LeO.none _
      | refine LeO.ite ?_ ?_
      | refine LeO.bind ?_ (fun _ => ?_)
    · intro y0 y1 y2 y3 y4
      unfold parquetlaw21_ObjectCut.l0
      repeat' first
      | (with_reducible exact ih0 _ _ _ _ _)
      | (with_reducible exact ih1 _ _ _ _ _)
      | (with_reducible exact ih2 _ _ _ _ _)
      | (with_reducible exact ih3 _ _ _)
      | (with_reducible exact ih4 _ _ _ _ _)
      | (with_reducible exact parquetlaw21_known.mono _)
      | (with_reducible exact parquetlaw21_many.mono _ _ _ _)
      | (with_reducible exact parquetref02_All.mono _ _)
      | (with_reducible exact LeO.refl _)
      | (with_reducible exact LeO.none _)
      | (with_reducible refine LeO.ite ?_ ?_)
      | (with_reducible refine LeO.bind ?_ (fun _ => ?_))
      | exact ih0 _ _ _ _ _
      | exact ih1 _ _ _ _ _
      | exact ih2 _ _ _ _ _
      | exact ih3 _ _ _
      | exact ih4 _ _ _ _ _
      | exact parquetlaw21_known.mono _
      | exact parquetlaw21_many.mono _ _ _ _
      | exact parquetref02_All.mono _ _
      | exact LeO.none _
      | refine LeO.ite ?_ ?_
      | refine LeO.bind ?_ (fun _ => ?_)
theorem parquetlaw21_ObjectCut.mono : ∀ a0 a1 a2 a3 a4 k, LeO (parquetlaw21_ObjectCut.f k a0 a1 a2 a3 a4) (parquetlaw21_ObjectCut.f (k + 1) a0 a1 a2 a3 a4) := by
  intro a0 a1 a2 a3 a4 k
  obtain ⟨ih0, ih1, ih2, ih3, ih4⟩ := parquetlaw21_ObjectCut.mono_l k
  unfold parquetlaw21_ObjectCut.f
  repeat' first
      | (with_reducible exact ih0 _ _ _ _ _)
      | (with_reducible exact ih1 _ _ _ _ _)
      | (with_reducible exact ih2 _ _ _ _ _)
      | (with_reducible exact ih3 _ _ _)
      | (with_reducible exact ih4 _ _ _ _ _)
      | (with_reducible exact parquetlaw21_known.mono _)
      | (with_reducible exact parquetlaw21_many.mono _ _ _ _)
      | (with_reducible exact parquetref02_All.mono _ _)
      | (with_reducible exact LeO.refl _)
      | (with_reducible exact LeO.none _)
      | (with_reducible refine LeO.ite ?_ ?_)
      | (with_reducible refine LeO.bind ?_ (fun _ => ?_))
      | exact ih0 _ _ _ _ _
      | exact ih1 _ _ _ _ _
      | exact ih2 _ _ _ _ _
      | exact ih3 _ _ _
      | exact ih4 _ _ _ _ _
      | exact parquetlaw21_known.mono _
      | exact parquetlaw21_many.mono _ _ _ _
      | exact parquetref02_All.mono _ _
      | exact LeO.none _
      | refine LeO.ite ?_ ?_
      | refine LeO.bind ?_ (fun _ => ?_)
def parquetlaw21_ObjectCut.T13 : Bool × List (List Nat × List Nat) := (true, [([], []), ([], []), ([0, 1], [0, 1]), ([], []), ([2, 3], [2, 3]), ([], []), ([], []), ([5, 6], [5, 6]), ([4, 7], [4, 7]), ([8], [8]), ([9], [9]), ([10], [10]), ([11], [11]), ([11], [11]), ([11], [11]), ([], []), ([15, 12, 10, 0, 1, 2, 3, 4, 5, 6, 7, 8, 9, 10, 11, 12, 15], [12, 15]), ([13, 16, 0, 1, 2, 3, 4, 5, 6, 7, 8, 9, 10, 11, 12, 13, 15, 16], [13]), ([14, 17, 0, 1, 2, 3, 4, 5, 6, 7, 8, 9, 10, 11, 12, 13, 14, 15, 16, 17], [14])])
def parquetlaw21_ObjectCut.B13 : List Nat := [0, 0, 3, 0, 15, 0, 0, 96, 255, 511, 1023, 2047, 4095, 4095, 4095, 0, 40959, 114687, 262143]
theorem parquetlaw21_ObjectCut.tab13 : rtab .any (opsOf Tryd.f4 13) = parquetlaw21_ObjectCut.T13 := by kernel_rfl
theorem parquetlaw21_ObjectCut.bits13 : waitsOk parquetlaw21_ObjectCut.T13.2 parquetlaw21_ObjectCut.B13 = true := by kernel_rfl
set_option maxHeartbeats 8000000 in
set_option maxRecDepth 100000 in
theorem parquetlaw21_ObjectCut.calls (k : Nat) (A0_0 : Option Addr) (c0_0 : Nat) (l0_0 : List (S47)) (a0_1 : Int) (A0_2 : Option Addr) (c0_2 : Nat) (l0_2 : List (List Int)) (a1 : Int) (a2 : Int) (r : Bool) (w : World) (hr0_0 : Kd.C k47 w A0_0 l0_0.length l0_0) (hc0_0 : l0_0.length ≤ c0_0) (hr0_2 : Kd.C (Kd.slice 3 (Kd.int .i64)) w A0_2 l0_2.length l0_2) (hc0_2 : l0_2.length ≤ c0_2) (hT : Tabs w) (h : parquetlaw21_ObjectCut.f k l0_0 a0_1 l0_2 a1 a2 = some r) :
    Calls Tryd.prog 4 #[.agg #[.slice A0_0 l0_0.length c0_0, .int .i64 a0_1, .slice A0_2 l0_2.length c0_2], .int .i64 a1, .int .u8 a2] w fun e w' => e = .returned (.bool r) ∧ Below w.heap.size w w' := by
  have HT := Aside0.mk hT
  clear hT
  have hu25 := Tryd.underlying25
  have HR0_0 := Aside0.mk hr0_0
  have HC0_0 := Aside0.mk hc0_0
  clear hr0_0 hc0_0
  have HR0_2 := Aside0.mk hr0_2
  have HC0_2 := Aside0.mk hc0_2
  clear hr0_2 hc0_2
  have HB := Aside0.mk (Below.refl w.heap.size w)
  have H : ((parquetlaw21_many.f k l0_0 a0_1 l0_2).bind fun t234 => (if t234 = true then ((parquetlaw21_known.f k).bind fun t235 => (some t235)) else ((object_Write.f l0_0 a0_1 l0_2).bind fun bt236 => (if bt236.2 = 0 then ((conv_bytes.f bt236.1).bind fun t239 => ((parquetref02_All.f k t239).bind fun bt242 => (if bt242.2 = 0 then (parquetlaw21_ObjectCut.j0 k a1 a2 bt236.1 bt242.1 ((bt242.1.length : Int) == 0)) else (parquetlaw21_ObjectCut.j0 k a1 a2 bt236.1 bt242.1 true)))) else ((parquetlaw21_known.f k).bind fun t238 => (some t238)))))) = some r := h
  clear h
  replace H := Option.bind_eq_some_iff.mp H
  obtain ⟨t234, A40, H⟩ := H
  replace H : (if t234 = true then ((parquetlaw21_known.f k).bind fun t235 => (some t235)) else ((object_Write.f l0_0 a0_1 l0_2).bind fun bt236 => (if bt236.2 = 0 then ((conv_bytes.f bt236.1).bind fun t239 => ((parquetref02_All.f k t239).bind fun bt242 => (if bt242.2 = 0 then (parquetlaw21_ObjectCut.j0 k a1 a2 bt236.1 bt242.1 ((bt242.1.length : Int) == 0)) else (parquetlaw21_ObjectCut.j0 k a1 a2 bt236.1 bt242.1 true)))) else ((parquetlaw21_known.f k).bind fun t238 => (some t238))))) = some r := H
  have A4 := Aside0.mk A40
  clear A40
  by_cases c5 : t234 = true
  · subst c5
    have H1 : ((parquetlaw21_known.f k).bind fun t235 => (some t235)) = some r := by rw [if_pos rfl] at H; exact H
    clear H
    have H := H1
    clear H1
    replace H := Option.bind_eq_some_iff.mp H
    obtain ⟨t235, A60, H⟩ := H
    replace H : (some t235) = some r := H
    have A6 := Aside0.mk A60
    clear A60
    obtain rfl := Option.some.inj H
    go_enter Tryd.func4, Tryd.ntmps4
    go_wp2_with (first | ((with_reducible refine gate_dst (N := 3) rfl ?_); (try (refine gate_guard (by rfl) ?_; dsimp only)); refine box_event ?hg (N := 3) ?hd (cs := #[.slice A0_0 l0_0.length c0_0, .int .i64 a0_1, .slice A0_2 l0_2.length c0_2]) (t := 25) ?hr ?_; (case hd => rfl); (case hg => rfl); (case hr => first | (go_simp; done) | (go_simp; rfl)); intro gb233 hg w7 hbox hb; have n0_ := Aside0.mk (below_step (by repeat (first | (with_reducible first | exact HB.out | apply below_alloc | apply pw_below_drewN | apply below_drew1) | exact HB.out)) hb); have n1_ := Aside0.mk (hbox); have n2_ := Aside0.mk ((by rw [hg]; exact (below_size (by repeat (first | (with_reducible first | exact HB.out | apply below_alloc | apply pw_below_drewN | apply below_drew1) | exact HB.out))) : w.heap.size ≤ gb233)); have n3_ := Aside0.mk ((by rw [hg]; exact (below_size (by repeat (first | (with_reducible first | exact HB.out | apply below_alloc | apply pw_below_drewN | apply below_drew1) | exact HB.out))) : w.heap.size ≤ gb233)); clear HB; have HB := n0_; have BK233 := n1_; have GW233 := n2_; have GE233 := n3_; clear n0_ n1_ n2_ n3_; clear hb hbox hg; have hcz8_0 : w7.cell? ⟨gb233, 0, none⟩ = some (.slice A0_0 l0_0.length c0_0) := (blk_cell BK233.out 0).trans rfl; have hcz8_1 : w7.cell? ⟨gb233, 1, none⟩ = some (.int .i64 a0_1) := (blk_cell BK233.out 1).trans rfl; have hcz8_2 : w7.cell? ⟨gb233, 2, none⟩ = some (.slice A0_2 l0_2.length c0_2) := (blk_cell BK233.out 2).trans rfl; have hfz8_0 := blk_frozen BK233.out 0; have hfz8_1 := blk_frozen BK233.out 1; have hfz8_2 := blk_frozen BK233.out 2) | ((with_reducible refine gate_callee (f := 7) rfl ?_); refine goesL_ (some 23) rfl rfl Tryd.func7 (by kernel_rfl) rfl #[.agg #[.slice A0_0 l0_0.length c0_0, .int .i64 a0_1, .slice A0_2 l0_2.length c0_2]] rfl (by (try simp only [List.map_toArray, List.map_cons, List.map_nil]); first | done | rfl | (simp only [List.length_drop, List.length_take]; rfl)) ?_; (with_reducible refine (parquetlaw21_many.calls k _ _ l0_0 a0_1 _ _ l0_2 true _ ?side1 ?side2 ?side3 ?side4 A4.out).mono ?_); (case side1 => repeat (first | exact (Kd.C_below HR0_0.out HB.out) | (with_reducible refine Kd.C_alloc ?_ _) | (with_reducible refine Kd.C_drewN ?_ _) | (with_reducible refine Kd.C_drew ?_))); (case side2 => exact HC0_0.out); (case side3 => repeat (first | exact (Kd.C_below HR0_2.out HB.out) | (with_reducible refine Kd.C_alloc ?_ _) | (with_reducible refine Kd.C_drewN ?_ _) | (with_reducible refine Kd.C_drew ?_))); (case side4 => exact HC0_2.out); rintro e w9 ⟨rfl, hb⟩; refine ⟨_, rfl, ?_⟩; have n0_ := Aside0.mk (blk_below (g := gb233) (o := .cells #[.slice A0_0 l0_0.length c0_0, .int .i64 a0_1, .slice A0_2 l0_2.length c0_2] 25 (0, 0)) (by (with_reducible repeat (first | refine blk_drewN ?_ _ | refine blk_drew ?_ | refine blk_alloc ?_ _)); exact BK233.out) hb); have n1_ := Aside0.mk (below_step (by repeat (first | (with_reducible first | exact HB.out | apply below_alloc | apply pw_below_drewN | apply below_drew1 | refine below_set ?_ GE233.out) | exact HB.out)) hb); clear BK233; clear HB; have BK233 := n0_; have HB := n1_; clear n0_ n1_; (try clear hb); (try clear hb2); (try clear hk); (try clear hi)) | ((with_reducible refine gate_callee (f := 8) rfl ?_); refine goesL_ (some 24) rfl rfl Tryd.func8 (by kernel_rfl) rfl #[] rfl (by (try simp only [List.map_toArray, List.map_cons, List.map_nil]); first | done | rfl | (simp only [List.length_drop, List.length_take]; rfl)) ?_; (with_reducible refine (parquetlaw21_known.calls k  t235 _ ?sideT A6.out).mono ?_); (case sideT => exact Tabs.below HT.out (by repeat (first | (with_reducible first | exact HB.out | apply below_alloc | apply pw_below_drewN | apply below_drew1 | refine below_set ?_ GE233.out) | exact HB.out))); rintro e w10 ⟨rfl, hb⟩; refine ⟨_, rfl, ?_⟩; have n0_ := Aside0.mk (blk_below (g := gb233) (o := .cells #[.slice A0_0 l0_0.length c0_0, .int .i64 a0_1, .slice A0_2 l0_2.length c0_2] 25 (0, 0)) (by (with_reducible repeat (first | refine blk_drewN ?_ _ | refine blk_drew ?_ | refine blk_alloc ?_ _)); exact BK233.out) hb); have n1_ := Aside0.mk (below_step (by repeat (first | (with_reducible first | exact HB.out | apply below_alloc | apply pw_below_drewN | apply below_drew1 | refine below_set ?_ GE233.out) | exact HB.out)) hb); clear BK233; clear HB; have BK233 := n0_; have HB := n1_; clear n0_ n1_; (try clear hb); (try clear hb2); (try clear hk); (try clear hi)))
    go_ret
    exact ⟨by first | rfl | (simp [errW_none, errW_some] <;> rfl) | (simp [*, errW_none, errW_some] <;> rfl), by repeat (first | (with_reducible first | exact HB.out | apply below_alloc | apply pw_below_drewN | apply below_drew1 | refine below_set ?_ GE233.out) | exact HB.out)⟩
  · replace c5 := Bool.eq_false_iff.mpr c5
    subst c5
    have H1 : ((object_Write.f l0_0 a0_1 l0_2).bind fun bt236 => (if bt236.2 = 0 then ((conv_bytes.f bt236.1).bind fun t239 => ((parquetref02_All.f k t239).bind fun bt242 => (if bt242.2 = 0 then (parquetlaw21_ObjectCut.j0 k a1 a2 bt236.1 bt242.1 ((bt242.1.length : Int) == 0)) else (parquetlaw21_ObjectCut.j0 k a1 a2 bt236.1 bt242.1 true)))) else ((parquetlaw21_known.f k).bind fun t238 => (some t238)))) = some r := by rw [if_neg (show ¬ (false = true) by decide)] at H; exact H
    clear H
    have H := H1
    clear H1
    replace H := Option.bind_eq_some_iff.mp H
    obtain ⟨⟨t236, t237⟩, A110, H⟩ := H
    replace H : (if t237 = 0 then ((conv_bytes.f t236).bind fun t239 => ((parquetref02_All.f k t239).bind fun bt242 => (if bt242.2 = 0 then (parquetlaw21_ObjectCut.j0 k a1 a2 t236 bt242.1 ((bt242.1.length : Int) == 0)) else (parquetlaw21_ObjectCut.j0 k a1 a2 t236 bt242.1 true)))) else ((parquetlaw21_known.f k).bind fun t238 => (some t238))) = some r := H
    have A11 := Aside0.mk A110
    clear A110
    by_cases c12 : t237 = 0
    · rw [if_pos c12] at H
      have c12b0 : (t237 == 0) = true := beq_iff_eq.mpr c12
      have c12b1 : (t237 != 0) = false := bne_eq_false_iff_eq.mpr c12
      clear c12
      replace H := Option.bind_eq_some_iff.mp H
      obtain ⟨t239, A130, H⟩ := H
      replace H : ((parquetref02_All.f k t239).bind fun bt242 => (if bt242.2 = 0 then (parquetlaw21_ObjectCut.j0 k a1 a2 t236 bt242.1 ((bt242.1.length : Int) == 0)) else (parquetlaw21_ObjectCut.j0 k a1 a2 t236 bt242.1 true))) = some r := H
      have A13 := Aside0.mk A130
      clear A130
      replace H := Option.bind_eq_some_iff.mp H
      obtain ⟨⟨t242, t243⟩, A140, H⟩ := H
      replace H : (if t243 = 0 then (parquetlaw21_ObjectCut.j0 k a1 a2 t236 t242 ((t242.length : Int) == 0)) else (parquetlaw21_ObjectCut.j0 k a1 a2 t236 t242 true)) = some r := H
      have A14 := Aside0.mk A140
      clear A140
      have HC15 := Aside0.mk H
      clear H
      go_enter Tryd.func4, Tryd.ntmps4
      go_upto_region 7 with (first | ((with_reducible refine gate_dst (N := 3) rfl ?_); (try (refine gate_guard (by rfl) ?_; dsimp only)); refine box_event ?hg (N := 3) ?hd (cs := #[.slice A0_0 l0_0.length c0_0, .int .i64 a0_1, .slice A0_2 l0_2.length c0_2]) (t := 25) ?hr ?_; (case hd => rfl); (case hg => rfl); (case hr => first | (go_simp; done) | (go_simp; rfl)); intro gb233 hg w16 hbox hb; have n0_ := Aside0.mk (below_step (by repeat (first | (with_reducible first | exact HB.out | apply below_alloc | apply pw_below_drewN | apply below_drew1) | exact HB.out)) hb); have n1_ := Aside0.mk (hbox); have n2_ := Aside0.mk ((by rw [hg]; exact (below_size (by repeat (first | (with_reducible first | exact HB.out | apply below_alloc | apply pw_below_drewN | apply below_drew1) | exact HB.out))) : w.heap.size ≤ gb233)); have n3_ := Aside0.mk ((by rw [hg]; exact (below_size (by repeat (first | (with_reducible first | exact HB.out | apply below_alloc | apply pw_below_drewN | apply below_drew1) | exact HB.out))) : w.heap.size ≤ gb233)); clear HB; have HB := n0_; have BK233 := n1_; have GW233 := n2_; have GE233 := n3_; clear n0_ n1_ n2_ n3_; clear hb hbox hg; have hcz17_0 : w16.cell? ⟨gb233, 0, none⟩ = some (.slice A0_0 l0_0.length c0_0) := (blk_cell BK233.out 0).trans rfl; have hcz17_1 : w16.cell? ⟨gb233, 1, none⟩ = some (.int .i64 a0_1) := (blk_cell BK233.out 1).trans rfl; have hcz17_2 : w16.cell? ⟨gb233, 2, none⟩ = some (.slice A0_2 l0_2.length c0_2) := (blk_cell BK233.out 2).trans rfl; have hfz17_0 := blk_frozen BK233.out 0; have hfz17_1 := blk_frozen BK233.out 1; have hfz17_2 := blk_frozen BK233.out 2) | ((with_reducible refine gate_callee (f := 7) rfl ?_); refine goesL_ (some 23) rfl rfl Tryd.func7 (by kernel_rfl) rfl #[.agg #[.slice A0_0 l0_0.length c0_0, .int .i64 a0_1, .slice A0_2 l0_2.length c0_2]] rfl (by (try simp only [List.map_toArray, List.map_cons, List.map_nil]); first | done | rfl | (simp only [List.length_drop, List.length_take]; rfl)) ?_; (with_reducible refine (parquetlaw21_many.calls k _ _ l0_0 a0_1 _ _ l0_2 false _ ?side1 ?side2 ?side3 ?side4 A4.out).mono ?_); (case side1 => repeat (first | exact (Kd.C_below HR0_0.out HB.out) | (with_reducible refine Kd.C_alloc ?_ _) | (with_reducible refine Kd.C_drewN ?_ _) | (with_reducible refine Kd.C_drew ?_))); (case side2 => exact HC0_0.out); (case side3 => repeat (first | exact (Kd.C_below HR0_2.out HB.out) | (with_reducible refine Kd.C_alloc ?_ _) | (with_reducible refine Kd.C_drewN ?_ _) | (with_reducible refine Kd.C_drew ?_))); (case side4 => exact HC0_2.out); rintro e w18 ⟨rfl, hb⟩; refine ⟨_, rfl, ?_⟩; have n0_ := Aside0.mk (blk_below (g := gb233) (o := .cells #[.slice A0_0 l0_0.length c0_0, .int .i64 a0_1, .slice A0_2 l0_2.length c0_2] 25 (0, 0)) (by (with_reducible repeat (first | refine blk_drewN ?_ _ | refine blk_drew ?_ | refine blk_alloc ?_ _)); exact BK233.out) hb); have n1_ := Aside0.mk (below_step (by repeat (first | (with_reducible first | exact HB.out | apply below_alloc | apply pw_below_drewN | apply below_drew1 | refine below_set ?_ GE233.out) | exact HB.out)) hb); clear BK233; clear HB; have BK233 := n0_; have HB := n1_; clear n0_ n1_; (try clear hb); (try clear hb2); (try clear hk); (try clear hi); have hcz19_0 : w18.cell? ⟨gb233, 0, none⟩ = some (.slice A0_0 l0_0.length c0_0) := (blk_cell BK233.out 0).trans rfl; have hcz19_1 : w18.cell? ⟨gb233, 1, none⟩ = some (.int .i64 a0_1) := (blk_cell BK233.out 1).trans rfl; have hcz19_2 : w18.cell? ⟨gb233, 2, none⟩ = some (.slice A0_2 l0_2.length c0_2) := (blk_cell BK233.out 2).trans rfl; have hfz19_0 := blk_frozen BK233.out 0; have hfz19_1 := blk_frozen BK233.out 1; have hfz19_2 := blk_frozen BK233.out 2) | ((with_reducible refine gate_callee (f := 9) rfl ?_); refine goesL_ (some 27) rfl rfl Tryd.func9 (by kernel_rfl) rfl #[.agg #[.slice A0_0 l0_0.length c0_0, .int .i64 a0_1, .slice A0_2 l0_2.length c0_2]] rfl (by (try simp only [List.map_toArray, List.map_cons, List.map_nil]); first | done | rfl | (simp only [List.length_drop, List.length_take]; rfl)) ?_; (with_reducible refine (object_Write.calls _ _ l0_0 a0_1 _ _ l0_2 t236 t237 _ ?side1 ?side2 ?side3 ?side4 ?sideT A11.out).mono ?_); (case sideT => exact Tabs.below HT.out (by repeat (first | (with_reducible first | exact HB.out | apply below_alloc | apply pw_below_drewN | apply below_drew1 | refine below_set ?_ GE233.out) | exact HB.out))); (case side1 => repeat (first | exact (Kd.C_below HR0_0.out HB.out) | (with_reducible refine Kd.C_alloc ?_ _) | (with_reducible refine Kd.C_drewN ?_ _) | (with_reducible refine Kd.C_drew ?_))); (case side2 => exact HC0_0.out); (case side3 => repeat (first | exact (Kd.C_below HR0_2.out HB.out) | (with_reducible refine Kd.C_alloc ?_ _) | (with_reducible refine Kd.C_drewN ?_ _) | (with_reducible refine Kd.C_drew ?_))); (case side4 => exact HC0_2.out); rintro e w20 ⟨rfl, hb⟩; refine ⟨_, rfl, ?_⟩; have n0_ := Aside0.mk (blk_below (g := gb233) (o := .cells #[.slice A0_0 l0_0.length c0_0, .int .i64 a0_1, .slice A0_2 l0_2.length c0_2] 25 (0, 0)) (by (with_reducible repeat (first | refine blk_drewN ?_ _ | refine blk_drew ?_ | refine blk_alloc ?_ _)); exact BK233.out) hb); have n1_ := Aside0.mk (below_step (by repeat (first | (with_reducible first | exact HB.out | apply below_alloc | apply pw_below_drewN | apply below_drew1 | refine below_set ?_ GE233.out) | exact HB.out)) hb); clear BK233; clear HB; have BK233 := n0_; have HB := n1_; clear n0_ n1_; (try clear hb); (try clear hb2); (try clear hk); (try clear hi)) | ((with_reducible refine gate_conv rfl ?_); refine conv_event (some 35) rfl rfl rfl Tryd.underlying9 Tryd.underlying26 Tryd.underlying5 t236 A13.out (by first | rfl | (go_simp; done) | (go_simp; rfl)) ?_; intro v240 w21 ho0 hb; have n0_ := Aside0.mk (Kd.V_lower (Kd.V_mono (ok' := fun k_ => k_ ≠ gb233) ho0 (fun k_ hk_ => (Kd.freshB (g := gb233) (o := .cells #[.slice A0_0 l0_0.length c0_0, .int .i64 a0_1, .slice A0_2 l0_2.length c0_2] 25 (0, 0)) (by (with_reducible repeat (first | refine blk_drewN ?_ _ | refine blk_drew ?_ | refine blk_alloc ?_ _)); exact BK233.out) k_ hk_))) (below_size (by repeat (first | (with_reducible first | exact HB.out | apply below_alloc | apply pw_below_drewN | apply below_drew1 | refine below_set ?_ GE233.out) | exact HB.out)))); have n1_ := Aside0.mk (blk_below (g := gb233) (o := .cells #[.slice A0_0 l0_0.length c0_0, .int .i64 a0_1, .slice A0_2 l0_2.length c0_2] 25 (0, 0)) (by (with_reducible repeat (first | refine blk_drewN ?_ _ | refine blk_drew ?_ | refine blk_alloc ?_ _)); exact BK233.out) hb); have n2_ := Aside0.mk (below_step (by repeat (first | (with_reducible first | exact HB.out | apply below_alloc | apply pw_below_drewN | apply below_drew1 | refine below_set ?_ GE233.out) | exact HB.out)) hb); clear BK233; clear HB; have HO241 := n0_; have BK233 := n1_; have HB := n2_; clear n0_ n1_ n2_; (try clear hb); (try clear hb2); (try clear hk); (try clear hi); (try clear ho0); obtain ⟨Ao22, co22, eo22⟩ := Kd.V_slice HO241.out; subst eo22) | ((with_reducible refine gate_callee (f := 12) rfl ?_); refine goesL_ (some 36) rfl rfl Tryd.func12 (by kernel_rfl) rfl #[.slice Ao22 t239.length co22] rfl (by (try simp only [List.map_toArray, List.map_cons, List.map_nil]); first | done | rfl | (simp only [List.length_drop, List.length_take]; rfl)) ?_; (with_reducible refine (parquetref02_All.calls k _ _ t239 t242 t243 _ ?side1 ?side2 A14.out).mono ?_); (case side1 => repeat (first | exact (Kd.V_reads' HO241.out).2.2 | (with_reducible refine Kd.C_alloc ?_ _) | (with_reducible refine Kd.C_drewN ?_ _) | (with_reducible refine Kd.C_drew ?_))); (case side2 => exact (Kd.V_reads' HO241.out).2.1); rintro e w23 ⟨v244, rfl, ho0, hb⟩; refine ⟨_, rfl, ?_⟩; have n0_ := Aside0.mk (Kd.V_elder' (by (with_reducible repeat (first | apply Kd.V_alloc | apply Kd.V_drewN | apply Kd.V_drew)); exact HO241.out) (Kd.R_base ho0) hb); have n1_ := Aside0.mk (Kd.R_lower ho0 (below_size (by repeat (first | (with_reducible first | exact HB.out | apply below_alloc | apply pw_below_drewN | apply below_drew1 | refine below_set ?_ GE233.out) | exact HB.out)))); have n2_ := Aside0.mk (blk_below (g := gb233) (o := .cells #[.slice A0_0 l0_0.length c0_0, .int .i64 a0_1, .slice A0_2 l0_2.length c0_2] 25 (0, 0)) (by (with_reducible repeat (first | refine blk_drewN ?_ _ | refine blk_drew ?_ | refine blk_alloc ?_ _)); exact BK233.out) hb); have n3_ := Aside0.mk (below_step (by repeat (first | (with_reducible first | exact HB.out | apply below_alloc | apply pw_below_drewN | apply below_drew1 | refine below_set ?_ GE233.out) | exact HB.out)) hb); clear HO241; clear BK233; clear HB; have HO241 := n0_; have HO245 := n1_; have BK233 := n2_; have HB := n3_; clear n0_ n1_ n2_ n3_; (try clear hb); (try clear hb2); (try clear hk); (try clear hi); (try clear ho0)))
      (try simp only [Act.put, List.setIfInBounds_toArray, List.set_cons_zero, List.set_cons_succ])
      go_cut [45] (fun v45 wc => ∃ (kq : Nat) (x45_14 : Bool), v45 = .bool x45_14 ∧ Aside0 (parquetlaw21_ObjectCut.j0 kq a1 a2 t236 t242 x45_14 = some r) ∧ Aside0 (kq ≤ k) ∧ Aside0 (Kd.R k40 40 wc w.heap.size (fun _ => True) v244 t242) ∧ Aside0 (wc.heap[gb233]? = some (.cells #[(.slice A0_0 l0_0.length c0_0), .int .i64 a0_1, (.slice A0_2 l0_2.length c0_2)] 25 (0, 0))) ∧ Aside0 (Below w.heap.size w wc))
      case first =>
        have H := HC15.out
        clear HC15
        by_cases c24 : t243 = 0
        · rw [if_pos c24] at H
          have c24b0 : (t243 == 0) = true := beq_iff_eq.mpr c24
          have c24b1 : (t243 != 0) = false := bne_eq_false_iff_eq.mpr c24
          clear c24
          (first | rw [c24b0] | (simp only [i64_w, i32_w]; rw [c24b0]) | skip)
          have H' := Aside0.mk H
          clear H
          obtain ⟨Ao25, co25, eo25⟩ := Kd.R_slice HO245.out
          subst eo25
          go_wp2
          go_meet
          case rel => exact ⟨_, (((t242.length : Int) == 0)), (by first | rfl | (simp; done) | (simp [*]; done)), H', ⟨by first | omega | exact Nat.le_refl _⟩, ⟨by (with_reducible repeat (first | apply Kd.R_alloc | apply Kd.R_drewN | apply Kd.R_drew)); exact HO245.out⟩, ⟨by (with_reducible repeat (first | refine blk_drewN ?_ _ | refine blk_drew ?_ | refine blk_alloc ?_ _)); exact BK233.out⟩, ⟨by repeat (first | (with_reducible first | exact HB.out | apply below_alloc | apply pw_below_drewN | apply below_drew1 | refine below_set ?_ GE233.out) | exact HB.out)⟩⟩
        · rw [if_neg c24] at H
          have c24b0 : (t243 == 0) = false := beq_eq_false_iff_ne.mpr c24
          have c24b1 : (t243 != 0) = true := bne_iff_ne.mpr c24
          (first | rw [c24b0] | (simp only [i64_w, i32_w]; rw [c24b0]) | skip)
          have H' := Aside0.mk H
          clear H
          go_wp2
          go_meet
          case rel => exact ⟨_, (true), (by first | rfl | (simp; done) | (simp [*]; done)), H', ⟨by first | omega | exact Nat.le_refl _⟩, ⟨by (with_reducible repeat (first | apply Kd.R_alloc | apply Kd.R_drewN | apply Kd.R_drew)); exact HO245.out⟩, ⟨by (with_reducible repeat (first | refine blk_drewN ?_ _ | refine blk_drew ?_ | refine blk_alloc ?_ _)); exact BK233.out⟩, ⟨by repeat (first | (with_reducible first | exact HB.out | apply below_alloc | apply pw_below_drewN | apply below_drew1 | refine below_set ?_ GE233.out) | exact HB.out)⟩⟩
      case rest =>
        clear HC15
        try clear c1
        try clear c2
        try clear p2
        try clear c4
        try clear c5
        try clear c7
        try clear c8
        try clear c9
        try clear c10
        try clear c12
        try clear c12b0
        try clear c12b1
        try clear c24
        try clear c24b0
        try clear c24b1
        try clear hcz17_0
        try clear hcz17_1
        try clear hcz17_2
        try clear hcz19_0
        try clear hcz19_1
        try clear hcz19_2
        try clear hcz8_0
        try clear hcz8_1
        try clear hcz8_2
        try clear hfz17_0
        try clear hfz17_1
        try clear hfz17_2
        try clear hfz19_0
        try clear hfz19_1
        try clear hfz19_2
        try clear hfz8_0
        try clear hfz8_1
        try clear hfz8_2
        obtain ⟨kq, x45_14, rfl, HA, HJ14, HO_9, BK233, HB⟩ := hcut
        cases kq with
        | zero => exact absurd HA.out (by simp [parquetlaw21_ObjectCut.j0])
        | succ kj14 =>
          have H := HA.out
          clear HA
          simp only [parquetlaw21_ObjectCut.j0] at H
          by_cases c26 : x45_14 = true
          · subst c26
            have H1 : (none) = some r := by rw [if_pos rfl] at H; exact H
            clear H
            have H := H1
            clear H1
            exact absurd H (by simp)
          · replace c26 := Bool.eq_false_iff.mpr c26
            subst c26
            have H1 : (if (IntKind.u64.wrap ((t242.length : Int))) = 0 then (none) else (if 0 ≤ (wrap64 (Int.tmod (IntKind.u64.wrap (a1)) (IntKind.u64.wrap ((t242.length : Int))))) then (if (wrap64 (Int.tmod (IntKind.u64.wrap (a1)) (IntKind.u64.wrap ((t242.length : Int))))) < (t242.length : Int) then ((some (([(⟨#[120]⟩ : ByteArray), (⟨#[49, 46, 53]⟩ : ByteArray), (⟨#[45, 45, 49]⟩ : ByteArray), (⟨#[48, 49]⟩ : ByteArray), (⟨#[118, 118]⟩ : ByteArray), (⟨#[45, 48]⟩ : ByteArray)] : List ByteArray) : List ByteArray)).bind fun y248 => (if 0 ≤ (wrap64 (Int.tmod a2 6)) then (if (wrap64 (Int.tmod a2 6)) < (y248.length : Int) then (if 0 ≤ ((rd_T40 t242 (wrap64 (Int.tmod (IntKind.u64.wrap (a1)) (IntKind.u64.wrap ((t242.length : Int)))))).f0) then (if ((rd_T40 t242 (wrap64 (Int.tmod (IntKind.u64.wrap (a1)) (IntKind.u64.wrap ((t242.length : Int)))))).f0) ≤ (t236.size : Int) then (if (t236.extract 0 (((rd_T40 t242 (wrap64 (Int.tmod (IntKind.u64.wrap (a1)) (IntKind.u64.wrap ((t242.length : Int)))))).f0) : Int).toNat).size + (rdOf ByteArray.empty y248 (wrap64 (Int.tmod a2 6))).size ≤ 9223372036854775807 then (if 0 ≤ (wrap64 (((rd_T40 t242 (wrap64 (Int.tmod (IntKind.u64.wrap (a1)) (IntKind.u64.wrap ((t242.length : Int)))))).f0) + (((rd_T40 t242 (wrap64 (Int.tmod (IntKind.u64.wrap (a1)) (IntKind.u64.wrap ((t242.length : Int)))))).f1).size : Int))) then (if (wrap64 (((rd_T40 t242 (wrap64 (Int.tmod (IntKind.u64.wrap (a1)) (IntKind.u64.wrap ((t242.length : Int)))))).f0) + (((rd_T40 t242 (wrap64 (Int.tmod (IntKind.u64.wrap (a1)) (IntKind.u64.wrap ((t242.length : Int)))))).f1).size : Int))) ≤ (t236.size : Int) then (if ((t236.extract 0 (((rd_T40 t242 (wrap64 (Int.tmod (IntKind.u64.wrap (a1)) (IntKind.u64.wrap ((t242.length : Int)))))).f0) : Int).toNat) ++ (rdOf ByteArray.empty y248 (wrap64 (Int.tmod a2 6)))).size + (t236.extract ((wrap64 (((rd_T40 t242 (wrap64 (Int.tmod (IntKind.u64.wrap (a1)) (IntKind.u64.wrap ((t242.length : Int)))))).f0) + (((rd_T40 t242 (wrap64 (Int.tmod (IntKind.u64.wrap (a1)) (IntKind.u64.wrap ((t242.length : Int)))))).f1).size : Int))) : Int).toNat t236.size).size ≤ 9223372036854775807 then ((conv_bytes.f (((t236.extract 0 (((rd_T40 t242 (wrap64 (Int.tmod (IntKind.u64.wrap (a1)) (IntKind.u64.wrap ((t242.length : Int)))))).f0) : Int).toNat) ++ (rdOf ByteArray.empty y248 (wrap64 (Int.tmod a2 6)))) ++ (t236.extract ((wrap64 (((rd_T40 t242 (wrap64 (Int.tmod (IntKind.u64.wrap (a1)) (IntKind.u64.wrap ((t242.length : Int)))))).f0) + (((rd_T40 t242 (wrap64 (Int.tmod (IntKind.u64.wrap (a1)) (IntKind.u64.wrap ((t242.length : Int)))))).f1).size : Int))) : Int).toNat t236.size))).bind fun t252 => ((object_Read.f t252).bind fun bt255 => (if bt255.2.2.2.1 = ((rd_T40 t242 (wrap64 (Int.tmod (IntKind.u64.wrap (a1)) (IntKind.u64.wrap ((t242.length : Int)))))).f0) then (parquetlaw21_ObjectCut.j1 kj14 t236 t242 (wrap64 (Int.tmod (IntKind.u64.wrap (a1)) (IntKind.u64.wrap ((t242.length : Int))))) ((rd_T40 t242 (wrap64 (Int.tmod (IntKind.u64.wrap (a1)) (IntKind.u64.wrap ((t242.length : Int)))))).f0) (bt255.2.2.2.2 != 11)) else (parquetlaw21_ObjectCut.j1 kj14 t236 t242 (wrap64 (Int.tmod (IntKind.u64.wrap (a1)) (IntKind.u64.wrap ((t242.length : Int))))) ((rd_T40 t242 (wrap64 (Int.tmod (IntKind.u64.wrap (a1)) (IntKind.u64.wrap ((t242.length : Int)))))).f0) true)))) else (none)) else (none)) else (none)) else (none)) else (none)) else (none)) else (none)) else (none))) else (none)) else (none))) = some r := by rw [if_neg (show ¬ (false = true) by decide)] at H; exact H
            clear H
            have H := H1
            clear H1
            by_cases c27 : (IntKind.u64.wrap ((t242.length : Int))) = 0
            · rw [if_pos c27] at H
              exact absurd H (by simp)
            · rw [if_neg c27] at H
              have c27b0 : ((IntKind.u64.wrap ((t242.length : Int))) == 0) = false := beq_eq_false_iff_ne.mpr c27
              have c27b1 : ((IntKind.u64.wrap ((t242.length : Int))) != 0) = true := bne_iff_ne.mpr c27
              obtain ⟨ji28, hji28⟩ : ∃ j_ : Int, (wrap64 (Int.tmod (IntKind.u64.wrap (a1)) (IntKind.u64.wrap ((t242.length : Int))))) = j_ := ⟨_, rfl⟩
              replace H : (if 0 ≤ (ji28) then (if (ji28) < (t242.length : Int) then ((some (([(⟨#[120]⟩ : ByteArray), (⟨#[49, 46, 53]⟩ : ByteArray), (⟨#[45, 45, 49]⟩ : ByteArray), (⟨#[48, 49]⟩ : ByteArray), (⟨#[118, 118]⟩ : ByteArray), (⟨#[45, 48]⟩ : ByteArray)] : List ByteArray) : List ByteArray)).bind fun y248 => (if 0 ≤ (wrap64 (Int.tmod a2 6)) then (if (wrap64 (Int.tmod a2 6)) < (y248.length : Int) then (if 0 ≤ ((rd_T40 t242 (ji28)).f0) then (if ((rd_T40 t242 (ji28)).f0) ≤ (t236.size : Int) then (if (t236.extract 0 (((rd_T40 t242 (ji28)).f0) : Int).toNat).size + (rdOf ByteArray.empty y248 (wrap64 (Int.tmod a2 6))).size ≤ 9223372036854775807 then (if 0 ≤ (wrap64 (((rd_T40 t242 (ji28)).f0) + (((rd_T40 t242 (ji28)).f1).size : Int))) then (if (wrap64 (((rd_T40 t242 (ji28)).f0) + (((rd_T40 t242 (ji28)).f1).size : Int))) ≤ (t236.size : Int) then (if ((t236.extract 0 (((rd_T40 t242 (ji28)).f0) : Int).toNat) ++ (rdOf ByteArray.empty y248 (wrap64 (Int.tmod a2 6)))).size + (t236.extract ((wrap64 (((rd_T40 t242 (ji28)).f0) + (((rd_T40 t242 (ji28)).f1).size : Int))) : Int).toNat t236.size).size ≤ 9223372036854775807 then ((conv_bytes.f (((t236.extract 0 (((rd_T40 t242 (ji28)).f0) : Int).toNat) ++ (rdOf ByteArray.empty y248 (wrap64 (Int.tmod a2 6)))) ++ (t236.extract ((wrap64 (((rd_T40 t242 (ji28)).f0) + (((rd_T40 t242 (ji28)).f1).size : Int))) : Int).toNat t236.size))).bind fun t252 => ((object_Read.f t252).bind fun bt255 => (if bt255.2.2.2.1 = ((rd_T40 t242 (ji28)).f0) then (parquetlaw21_ObjectCut.j1 kj14 t236 t242 ji28 ((rd_T40 t242 (ji28)).f0) (bt255.2.2.2.2 != 11)) else (parquetlaw21_ObjectCut.j1 kj14 t236 t242 ji28 ((rd_T40 t242 (ji28)).f0) true)))) else (none)) else (none)) else (none)) else (none)) else (none)) else (none)) else (none)) else (none))) else (none)) else (none)) = some r := by first | (rw [hji28] at H; exact H) | (simp only [hji28] at H ⊢; exact H)
              have hji28w : (IntKind.i64.wrap (Int.tmod (IntKind.u64.wrap (a1)) (IntKind.u64.wrap ((t242.length : Int))))) = ji28 := (i64_w _).trans hji28
              by_cases c29 : 0 ≤ (ji28)
              · rw [if_pos c29] at H
                have c29b0 : decide (0 ≤ (ji28)) = true := decide_eq_true c29
                clear c29
                by_cases c30 : (ji28) < (t242.length : Int)
                · rw [if_pos c30] at H
                  have c30b0 : decide ((ji28) < (t242.length : Int)) = true := decide_eq_true c30
                  clear c30
                  obtain ⟨y248, hy248⟩ : ∃ y_ : List ByteArray, y_ = (([(⟨#[120]⟩ : ByteArray), (⟨#[49, 46, 53]⟩ : ByteArray), (⟨#[45, 45, 49]⟩ : ByteArray), (⟨#[48, 49]⟩ : ByteArray), (⟨#[118, 118]⟩ : ByteArray), (⟨#[45, 48]⟩ : ByteArray)] : List ByteArray)) := ⟨_, rfl⟩
                  replace H : (if 0 ≤ (wrap64 (Int.tmod a2 6)) then (if (wrap64 (Int.tmod a2 6)) < (y248.length : Int) then (if 0 ≤ ((rd_T40 t242 (ji28)).f0) then (if ((rd_T40 t242 (ji28)).f0) ≤ (t236.size : Int) then (if (t236.extract 0 (((rd_T40 t242 (ji28)).f0) : Int).toNat).size + (rdOf ByteArray.empty y248 (wrap64 (Int.tmod a2 6))).size ≤ 9223372036854775807 then (if 0 ≤ (wrap64 (((rd_T40 t242 (ji28)).f0) + (((rd_T40 t242 (ji28)).f1).size : Int))) then (if (wrap64 (((rd_T40 t242 (ji28)).f0) + (((rd_T40 t242 (ji28)).f1).size : Int))) ≤ (t236.size : Int) then (if ((t236.extract 0 (((rd_T40 t242 (ji28)).f0) : Int).toNat) ++ (rdOf ByteArray.empty y248 (wrap64 (Int.tmod a2 6)))).size + (t236.extract ((wrap64 (((rd_T40 t242 (ji28)).f0) + (((rd_T40 t242 (ji28)).f1).size : Int))) : Int).toNat t236.size).size ≤ 9223372036854775807 then ((conv_bytes.f (((t236.extract 0 (((rd_T40 t242 (ji28)).f0) : Int).toNat) ++ (rdOf ByteArray.empty y248 (wrap64 (Int.tmod a2 6)))) ++ (t236.extract ((wrap64 (((rd_T40 t242 (ji28)).f0) + (((rd_T40 t242 (ji28)).f1).size : Int))) : Int).toNat t236.size))).bind fun t252 => ((object_Read.f t252).bind fun bt255 => (if bt255.2.2.2.1 = ((rd_T40 t242 (ji28)).f0) then (parquetlaw21_ObjectCut.j1 kj14 t236 t242 ji28 ((rd_T40 t242 (ji28)).f0) (bt255.2.2.2.2 != 11)) else (parquetlaw21_ObjectCut.j1 kj14 t236 t242 ji28 ((rd_T40 t242 (ji28)).f0) true)))) else (none)) else (none)) else (none)) else (none)) else (none)) else (none)) else (none)) else (none)) = some r := by first | (rw [hy248]; with_reducible exact H) | (have H2_ := (Option.bind_some _ _).symm.trans H; rw [hy248]; with_reducible exact H2_) | (have H2_ := (Option.bind_some _ _).symm.trans H; with_reducible exact H2_) | with_reducible exact H | (rw [hy248]; exact H) | exact H
                  have Ny248 := Aside0.mk hy248
                  clear hy248
                  obtain ⟨ji31, hji31⟩ : ∃ j_ : Int, (wrap64 (Int.tmod a2 6)) = j_ := ⟨_, rfl⟩
                  replace H : (if 0 ≤ (ji31) then (if (ji31) < (y248.length : Int) then (if 0 ≤ ((rd_T40 t242 (ji28)).f0) then (if ((rd_T40 t242 (ji28)).f0) ≤ (t236.size : Int) then (if (t236.extract 0 (((rd_T40 t242 (ji28)).f0) : Int).toNat).size + (rdOf ByteArray.empty y248 (ji31)).size ≤ 9223372036854775807 then (if 0 ≤ (wrap64 (((rd_T40 t242 (ji28)).f0) + (((rd_T40 t242 (ji28)).f1).size : Int))) then (if (wrap64 (((rd_T40 t242 (ji28)).f0) + (((rd_T40 t242 (ji28)).f1).size : Int))) ≤ (t236.size : Int) then (if ((t236.extract 0 (((rd_T40 t242 (ji28)).f0) : Int).toNat) ++ (rdOf ByteArray.empty y248 (ji31))).size + (t236.extract ((wrap64 (((rd_T40 t242 (ji28)).f0) + (((rd_T40 t242 (ji28)).f1).size : Int))) : Int).toNat t236.size).size ≤ 9223372036854775807 then ((conv_bytes.f (((t236.extract 0 (((rd_T40 t242 (ji28)).f0) : Int).toNat) ++ (rdOf ByteArray.empty y248 (ji31))) ++ (t236.extract ((wrap64 (((rd_T40 t242 (ji28)).f0) + (((rd_T40 t242 (ji28)).f1).size : Int))) : Int).toNat t236.size))).bind fun t252 => ((object_Read.f t252).bind fun bt255 => (if bt255.2.2.2.1 = ((rd_T40 t242 (ji28)).f0) then (parquetlaw21_ObjectCut.j1 kj14 t236 t242 ji28 ((rd_T40 t242 (ji28)).f0) (bt255.2.2.2.2 != 11)) else (parquetlaw21_ObjectCut.j1 kj14 t236 t242 ji28 ((rd_T40 t242 (ji28)).f0) true)))) else (none)) else (none)) else (none)) else (none)) else (none)) else (none)) else (none)) else (none)) = some r := by first | (rw [hji31] at H; exact H) | (simp only [hji31] at H ⊢; exact H)
                  have hji31w : (IntKind.i64.wrap (Int.tmod a2 6)) = ji31 := (i64_w _).trans hji31
                  by_cases c32 : 0 ≤ (ji31)
                  · rw [if_pos c32] at H
                    have c32b0 : decide (0 ≤ (ji31)) = true := decide_eq_true c32
                    clear c32
                    by_cases c33 : (ji31) < (y248.length : Int)
                    · rw [if_pos c33] at H
                      have c33b0 : decide ((ji31) < (y248.length : Int)) = true := decide_eq_true c33
                      clear c33
                      by_cases c34 : 0 ≤ ((rd_T40 t242 (ji28)).f0)
                      · rw [if_pos c34] at H
                        have c34b0 := eq_true c34
                        have c34b1 : decide (0 ≤ ((rd_T40 t242 (ji28)).f0)) = true := decide_eq_true c34
                        clear c34
                        by_cases c35 : ((rd_T40 t242 (ji28)).f0) ≤ (t236.size : Int)
                        · rw [if_pos c35] at H
                          have c35b0 := eq_true c35
                          have c35b1 : decide (((rd_T40 t242 (ji28)).f0) ≤ (t236.size : Int)) = true := decide_eq_true c35
                          clear c35
                          by_cases c36 : (t236.extract 0 (((rd_T40 t242 (ji28)).f0) : Int).toNat).size + (rdOf ByteArray.empty y248 (ji31)).size ≤ 9223372036854775807
                          · rw [if_pos c36] at H
                            have c36b0 := eq_true c36
                            have c36b1 : decide ((t236.extract 0 (((rd_T40 t242 (ji28)).f0) : Int).toNat).size + (rdOf ByteArray.empty y248 (ji31)).size ≤ 9223372036854775807) = true := decide_eq_true c36
                            try have c36b2 : (9223372036854775807 < (t236.extract 0 (((rd_T40 t242 (ji28)).f0) : Int).toNat).size + (rdOf ByteArray.empty y248 (ji31)).size) = False := eq_false (Nat.not_lt.2 c36)
                            try (have c36b3 := c36b2; (try rw [ByteArray.size_append] at c36b3); have ez0 := ext_size0 t236 ((rd_T40 t242 (ji28)).f0) (of_decide_eq_true (by first | (with_reducible assumption) | assumption)); rw [ez0] at c36b3; clear ez0)
                            obtain ⟨ji37, hji37⟩ : ∃ j_ : Int, (wrap64 (((rd_T40 t242 (ji28)).f0) + (((rd_T40 t242 (ji28)).f1).size : Int))) = j_ := ⟨_, rfl⟩
                            replace H : (if 0 ≤ (ji37) then (if (ji37) ≤ (t236.size : Int) then (if ((t236.extract 0 (((rd_T40 t242 (ji28)).f0) : Int).toNat) ++ (rdOf ByteArray.empty y248 (ji31))).size + (t236.extract ((ji37) : Int).toNat t236.size).size ≤ 9223372036854775807 then ((conv_bytes.f (((t236.extract 0 (((rd_T40 t242 (ji28)).f0) : Int).toNat) ++ (rdOf ByteArray.empty y248 (ji31))) ++ (t236.extract ((ji37) : Int).toNat t236.size))).bind fun t252 => ((object_Read.f t252).bind fun bt255 => (if bt255.2.2.2.1 = ((rd_T40 t242 (ji28)).f0) then (parquetlaw21_ObjectCut.j1 kj14 t236 t242 ji28 ((rd_T40 t242 (ji28)).f0) (bt255.2.2.2.2 != 11)) else (parquetlaw21_ObjectCut.j1 kj14 t236 t242 ji28 ((rd_T40 t242 (ji28)).f0) true)))) else (none)) else (none)) else (none)) = some r := by first | (rw [hji37] at H; exact H) | (simp only [hji37] at H ⊢; exact H)
                            have hji37w : (IntKind.i64.wrap (((rd_T40 t242 (ji28)).f0) + (((rd_T40 t242 (ji28)).f1).size : Int))) = ji37 := (i64_w _).trans hji37
                            by_cases c38 : 0 ≤ (ji37)
                            · rw [if_pos c38] at H
                              have c38b0 := eq_true c38
                              have c38b1 : decide (0 ≤ (ji37)) = true := decide_eq_true c38
                              clear c38
                              by_cases c39 : (ji37) ≤ (t236.size : Int)
                              · rw [if_pos c39] at H
                                have c39b0 := eq_true c39
                                have c39b1 : decide ((ji37) ≤ (t236.size : Int)) = true := decide_eq_true c39
                                clear c39
                                by_cases c40 : ((t236.extract 0 (((rd_T40 t242 (ji28)).f0) : Int).toNat) ++ (rdOf ByteArray.empty y248 (ji31))).size + (t236.extract ((ji37) : Int).toNat t236.size).size ≤ 9223372036854775807
                                · rw [if_pos c40] at H
                                  have c40b0 := eq_true c40
                                  have c40b1 : decide (((t236.extract 0 (((rd_T40 t242 (ji28)).f0) : Int).toNat) ++ (rdOf ByteArray.empty y248 (ji31))).size + (t236.extract ((ji37) : Int).toNat t236.size).size ≤ 9223372036854775807) = true := decide_eq_true c40
                                  try have c40b2 : (9223372036854775807 < ((t236.extract 0 (((rd_T40 t242 (ji28)).f0) : Int).toNat) ++ (rdOf ByteArray.empty y248 (ji31))).size + (t236.extract ((ji37) : Int).toNat t236.size).size) = False := eq_false (Nat.not_lt.2 c40)
                                  try (have c40b3 := c40b2; (try rw [ByteArray.size_append] at c40b3); have ez0 := ext_size0 t236 ((rd_T40 t242 (ji28)).f0) (of_decide_eq_true (by first | (with_reducible assumption) | assumption)); rw [ez0] at c40b3; clear ez0; have ez1 := ext_size1 t236 (ji37); rw [ez1] at c40b3; clear ez1)
                                  replace H := Option.bind_eq_some_iff.mp H
                                  obtain ⟨t252, A410, H⟩ := H
                                  replace H : ((object_Read.f t252).bind fun bt255 => (if bt255.2.2.2.1 = ((rd_T40 t242 (ji28)).f0) then (parquetlaw21_ObjectCut.j1 kj14 t236 t242 ji28 ((rd_T40 t242 (ji28)).f0) (bt255.2.2.2.2 != 11)) else (parquetlaw21_ObjectCut.j1 kj14 t236 t242 ji28 ((rd_T40 t242 (ji28)).f0) true))) = some r := H
                                  have A41 := Aside0.mk A410
                                  clear A410
                                  replace H := Option.bind_eq_some_iff.mp H
                                  obtain ⟨⟨t255, t258, t259, t262, t263⟩, A420, H⟩ := H
                                  replace H : (if t262 = ((rd_T40 t242 (ji28)).f0) then (parquetlaw21_ObjectCut.j1 kj14 t236 t242 ji28 ((rd_T40 t242 (ji28)).f0) (t263 != 11)) else (parquetlaw21_ObjectCut.j1 kj14 t236 t242 ji28 ((rd_T40 t242 (ji28)).f0) true)) = some r := H
                                  have A42 := Aside0.mk A420
                                  clear A420
                                  have HC43 := Aside0.mk H
                                  clear H
                                  obtain ⟨Ao44, co44, eo44⟩ := Kd.R_slice HO_9.out
                                  subst eo44
                                  have p246 : 0 ≤ ((ji28) : Int) := of_decide_eq_true (by first | (with_reducible assumption) | assumption)
                                  have q246 : (ji28) < (t242.length : Int) := of_decide_eq_true (by first | (with_reducible assumption) | assumption)
                                  obtain ⟨ad246, e246, hx246_0, hx246_1⟩ := at_T40 (Kd.R_reads' HO_9.out).2.2 (ji28) p246 q246
                                  cases e246
                                  replace p246 := eq_true p246
                                  replace q246 := eq_true q246
                                  have p247 : 0 ≤ ((ji28) : Int) := of_decide_eq_true (by first | (with_reducible assumption) | assumption)
                                  have q247 : (ji28) < (t242.length : Int) := of_decide_eq_true (by first | (with_reducible assumption) | assumption)
                                  obtain ⟨ad247, e247, hx247_0, hx247_1⟩ := at_T40 (Kd.R_reads' HO_9.out).2.2 (ji28) p247 q247
                                  obtain rfl : ad246 = ad247 := (by injection e247)
                                  replace p247 := eq_true p247
                                  replace q247 := eq_true q247
                                  try go_wp2_with (first | ((with_reducible refine gate_dst (N := 66) rfl ?_); (try (refine gate_guard (by rfl) ?_; dsimp only)); refine Kd.R_lit Kd.string _ 9 ?hg (N := 66) ?hd (xs := ([(⟨#[120]⟩ : ByteArray), (⟨#[49, 46, 53]⟩ : ByteArray), (⟨#[45, 45, 49]⟩ : ByteArray), (⟨#[48, 49]⟩ : ByteArray), (⟨#[118, 118]⟩ : ByteArray), (⟨#[45, 48]⟩ : ByteArray)] : List ByteArray)) (inner := [.string (⟨#[120]⟩ : ByteArray), .string (⟨#[49, 46, 53]⟩ : ByteArray), .string (⟨#[45, 45, 49]⟩ : ByteArray), .string (⟨#[48, 49]⟩ : ByteArray), .string (⟨#[118, 118]⟩ : ByteArray), .string (⟨#[45, 48]⟩ : ByteArray)]) (ok := fun _ => True) (okp := fun _ => True) ?hr ?hp (fun _ hk => hk) trivial (Below.refl _ _) (Nat.le_refl _) (by simp) ?_; (case hd => rfl); (case hg => rfl); (case hr => first | (go_simp; done) | (go_simp; rfl)); (case hp => exact (Reps.one (show Kd.M Kd.string _ _ _ (⟨#[120]⟩ : ByteArray) [.string (⟨#[120]⟩ : ByteArray)] from rfl) (Reps.one (show Kd.M Kd.string _ _ _ (⟨#[49, 46, 53]⟩ : ByteArray) [.string (⟨#[49, 46, 53]⟩ : ByteArray)] from rfl) (Reps.one (show Kd.M Kd.string _ _ _ (⟨#[45, 45, 49]⟩ : ByteArray) [.string (⟨#[45, 45, 49]⟩ : ByteArray)] from rfl) (Reps.one (show Kd.M Kd.string _ _ _ (⟨#[48, 49]⟩ : ByteArray) [.string (⟨#[48, 49]⟩ : ByteArray)] from rfl) (Reps.one (show Kd.M Kd.string _ _ _ (⟨#[118, 118]⟩ : ByteArray) [.string (⟨#[118, 118]⟩ : ByteArray)] from rfl) (Reps.one (show Kd.M Kd.string _ _ _ (⟨#[45, 48]⟩ : ByteArray) [.string (⟨#[45, 48]⟩ : ByteArray)] from rfl) (Reps.none _ _)))))))); intro v249 w45 ho46 hb hg_ hnew_; clear hg_ hnew_; (first | rw [← Ny248.out] at ho46 | (simp only [Int.reduceToNat] at ho46; rw [← Ny248.out] at ho46)); have n0_ := Aside0.mk (Kd.R_below (by (with_reducible repeat (first | apply Kd.R_alloc | apply Kd.R_drewN | apply Kd.R_drew)); exact HO_9.out) hb); have n1_ := Aside0.mk (Kd.R_lower ho46 (below_size (by repeat (first | (with_reducible first | exact HB.out | apply below_alloc | apply pw_below_drewN | apply below_drew1 | refine below_set ?_ GE233.out) | exact HB.out)))); have n2_ := Aside0.mk (blk_below (g := gb233) (o := .cells #[.slice A0_0 l0_0.length c0_0, .int .i64 a0_1, .slice A0_2 l0_2.length c0_2] 25 (0, 0)) (by (with_reducible repeat (first | refine blk_drewN ?_ _ | refine blk_drew ?_ | refine blk_alloc ?_ _)); exact BK233.out) hb); have n3_ := Aside0.mk (below_step (by repeat (first | (with_reducible first | exact HB.out | apply below_alloc | apply pw_below_drewN | apply below_drew1 | refine below_set ?_ GE233.out) | exact HB.out)) hb); clear HO_9; clear BK233; clear HB; have HO_9 := n0_; have HO250 := n1_; have BK233 := n2_; have HB := n3_; clear n0_ n1_ n2_ n3_; clear hb ho46; obtain ⟨Ao47, co47, eo47⟩ := Kd.R_slice HO250.out; subst eo47; have p251 : 0 ≤ ((ji31) : Int) := of_decide_eq_true (by first | (with_reducible assumption) | assumption); have q251 : (ji31) < (y248.length : Int) := of_decide_eq_true (by first | (with_reducible assumption) | assumption); obtain ⟨ad251, e251, hx251_0⟩ := Kd.at_string (Kd.R_reads' HO250.out).2.2 (ji31) p251 q251; cases e251; replace p251 := eq_true p251; replace q251 := eq_true q251))
                                  have n0_ := Aside0.mk (Kd.R_drew HO_9.out)
                                  have n1_ := Aside0.mk (Kd.R_drew HO250.out)
                                  have n2_ := Aside0.mk (blk_drew BK233.out)
                                  have n3_ := Aside0.mk (below_drew1 HB.out)
                                  clear HO_9
                                  clear HO250
                                  clear BK233
                                  clear HB
                                  have HO_9 := n0_
                                  have HO250 := n1_
                                  have BK233 := n2_
                                  have HB := n3_
                                  clear n0_ n1_ n2_ n3_
                                  refine start_ (n := 19) (S := fun w' => True) (ds := []) #[false, false, false, false, false, false, false, false, false, false, false, false, false, false, false, false, false, false, false] (by kernel_rfl) rfl rfl trivial (fun hHeld => ?_); refine with_tabW parquetlaw21_ObjectCut.tab13 parquetlaw21_ObjectCut.bits13 (fun HT_ HW_ => ?_)
                                  generalize w45.drew = w48 at HO_9 HO250 BK233 HB hHeld ⊢
                                  refine pure_ (i := 0) (N := some 73) (v := ?_) (a' := ?_) #[true, false, false, false, false, false, false, false, false, false, false, false, false, false, false, false, false, false, false] rfl rfl (any_of HT_.out (by kernel_rfl)) (fun _ _ _ h => h) (Or.inl ⟨by rfl, ?_⟩) ?_ ?_
                                  rotate_left
                                  · intro w'
                                    go_simp
                                    with_reducible rfl
                                  rotate_left
                                  · simp only [Act.put, List.setIfInBounds_toArray, List.set_cons_zero, List.set_cons_succ, i64_w, i32_w]
                                    rfl
                                  refine pure_ (i := 1) (N := some 74) (v := ?_) (a' := ?_) #[true, true, false, false, false, false, false, false, false, false, false, false, false, false, false, false, false, false, false] rfl rfl (any_of HT_.out (by kernel_rfl)) (fun _ _ _ h => h) (Or.inl ⟨by rfl, ?_⟩) ?_ ?_
                                  rotate_left
                                  · intro w'
                                    go_simp
                                    with_reducible rfl
                                  rotate_left
                                  · simp only [Act.put, List.setIfInBounds_toArray, List.set_cons_zero, List.set_cons_succ, i64_w, i32_w]
                                    rfl
                                  refine pure_ (i := 2) (N := some 75) (v := ?_) (a' := ?_) #[true, true, true, false, false, false, false, false, false, false, false, false, false, false, false, false, false, false, false] rfl rfl (any_of HT_.out (by kernel_rfl)) (fun _ _ _ h => h) (Or.inl ⟨by rfl, ?_⟩) ?_ ?_
                                  rotate_left
                                  · intro w'
                                    go_simp
                                    with_reducible rfl
                                  rotate_left
                                  · simp only [Act.put, List.setIfInBounds_toArray, List.set_cons_zero, List.set_cons_succ, i64_w, i32_w]
                                    rfl
                                  refine pure_ (i := 3) (N := some 76) (v := ?_) (a' := ?_) #[true, true, true, true, false, false, false, false, false, false, false, false, false, false, false, false, false, false, false] rfl rfl (any_of HT_.out (by kernel_rfl)) (fun _ _ _ h => h) (Or.inl ⟨by rfl, ?_⟩) ?_ ?_
                                  rotate_left
                                  · intro w'
                                    go_simp
                                    with_reducible rfl
                                  rotate_left
                                  · simp only [Act.put, List.setIfInBounds_toArray, List.set_cons_zero, List.set_cons_succ, i64_w, i32_w]
                                    rfl
                                  refine pure_ (i := 4) (N := some 77) (v := ?_) (a' := ?_) #[true, true, true, true, true, false, false, false, false, false, false, false, false, false, false, false, false, false, false] rfl rfl (any_of HT_.out (by kernel_rfl)) (fun _ _ _ h => h) (Or.inl ⟨by rfl, ?_⟩) ?_ ?_
                                  rotate_left
                                  · intro w'
                                    go_simp
                                    with_reducible rfl
                                  rotate_left
                                  · simp only [Act.put, List.setIfInBounds_toArray, List.set_cons_zero, List.set_cons_succ, i64_w, i32_w]
                                    rfl
                                  refine pure_ (i := 5) (N := some 78) (v := ?_) (a' := ?_) #[true, true, true, true, true, true, false, false, false, false, false, false, false, false, false, false, false, false, false] rfl rfl (any_of HT_.out (by kernel_rfl)) (fun _ _ _ h => h) (Or.inl ⟨by rfl, ?_⟩) ?_ ?_
                                  rotate_left
                                  · intro w'
                                    go_simp
                                    with_reducible rfl
                                  rotate_left
                                  · simp only [Act.put, List.setIfInBounds_toArray, List.set_cons_zero, List.set_cons_succ, i64_w, i32_w]
                                    rfl
                                  refine pure_ (i := 6) (N := some 79) (v := ?_) (a' := ?_) #[true, true, true, true, true, true, true, false, false, false, false, false, false, false, false, false, false, false, false] rfl rfl (any_of HT_.out (by kernel_rfl)) (fun _ _ _ h => h) (Or.inl ⟨by rfl, ?_⟩) ?_ ?_
                                  rotate_left
                                  · intro w'
                                    go_simp
                                    with_reducible rfl
                                  rotate_left
                                  · simp only [Act.put, List.setIfInBounds_toArray, List.set_cons_zero, List.set_cons_succ, i64_w, i32_w]
                                    rfl
                                  refine pure_ (i := 7) (N := some 80) (v := ?_) (a' := ?_) #[true, true, true, true, true, true, true, true, false, false, false, false, false, false, false, false, false, false, false] rfl rfl (any_of HT_.out (by kernel_rfl)) (fun _ _ _ h => h) (Or.inl ⟨by rfl, ?_⟩) ?_ ?_
                                  rotate_left
                                  · intro w'
                                    go_simp
                                    with_reducible rfl
                                  rotate_left
                                  · simp only [Act.put, List.setIfInBounds_toArray, List.set_cons_zero, List.set_cons_succ, i64_w, i32_w]
                                    rfl
                                  refine pure_ (i := 8) (N := some 81) (v := ?_) (a' := ?_) #[true, true, true, true, true, true, true, true, true, false, false, false, false, false, false, false, false, false, false] rfl rfl (any_of HT_.out (by kernel_rfl)) (fun _ _ _ h => h) (Or.inl ⟨by rfl, ?_⟩) ?_ ?_
                                  rotate_left
                                  · intro w'
                                    go_simp
                                    with_reducible rfl
                                  rotate_left
                                  · simp only [Act.put, List.setIfInBounds_toArray, List.set_cons_zero, List.set_cons_succ, i64_w, i32_w]
                                    rfl
                                  refine join_ (σ := Value × Value × Value × Nat) 3 #[true, true, true, true, true, true, true, true, true, true, true, true, true, true, true, true, false, false, false] (fun s_ => [(82, s_.1), (83, .tuple #[.agg #[s_.2.1, .int .i64 t258, s_.2.2.1], .int .i64 t262, .int .i64 t263]), (15, .pointer (some ⟨s_.2.2.2, 0, none⟩)), (72, .tuple #[.agg #[s_.2.1, .int .i64 t258, s_.2.2.1], .int .i64 t262, .int .i64 t263]), (84, .agg #[s_.2.1, .int .i64 t258, s_.2.2.1]), (85, .int .i64 t262), (86, .int .i64 t263)]) (fun s_ w' => (Kd.R Kd.string 9 w' w.heap.size (fun _ => True) (.slice (some ad251) y248.length co47) y248) ∧ (Kd.V (Kd.int .u8) 5 w' w.heap.size (fun k_ => some k_ ≠ (.slice (some ad251) y248.length co47 : Value).ownBlock ∧ some k_ ≠ (.slice (some ad246) t242.length co44 : Value).ownBlock ∧ k_ ≠ gb233 ∧ k_ ≠ s_.2.2.2) s_.1 t252) ∧ (Kd.V k47 47 w' w.heap.size (fun k_ => some k_ ≠ (.slice (some ad251) y248.length co47 : Value).ownBlock ∧ some k_ ≠ (.slice (some ad246) t242.length co44 : Value).ownBlock ∧ k_ ≠ gb233 ∧ k_ ≠ s_.2.2.2) s_.2.1 t255) ∧ (Kd.V (Kd.slice 3 (Kd.int .i64)) 48 w' w.heap.size (fun k_ => some k_ ≠ (.slice (some ad251) y248.length co47 : Value).ownBlock ∧ some k_ ≠ (.slice (some ad246) t242.length co44 : Value).ownBlock ∧ k_ ≠ gb233 ∧ k_ ≠ s_.2.2.2) s_.2.2.1 t259) ∧ (Kd.R k40 40 w' w.heap.size (fun _ => True) (.slice (some ad246) t242.length co44) t242) ∧ (w'.heap[gb233]? = some (.cells #[.slice A0_0 l0_0.length c0_0, .int .i64 a0_1, .slice A0_2 l0_2.length c0_2] 25 (0, 0))) ∧ (w'.heap[s_.2.2.2]? = some (.cells #[.slice none 0 0, .int .i64 0, .slice none 0 0] 25 (0, 0))) ∧ (w.heap.size ≤ s_.2.2.2) ∧ (w.heap.size ≤ s_.2.2.2) ∧ (gb233 ≠ s_.2.2.2) ∧ (s_.2.2.2 ≠ gb233) ∧ (Below w.heap.size w w')) ?_ ?_
                                  rotate_left
                                  · intro hCont
                                    refine two_ (i := 9) (j := 15) (Ni := some 82) (Nj := some 15) #[true, true, true, true, true, true, true, true, true, true, false, false, false, false, false, false, false, false, false] #[true, true, true, true, true, true, true, true, true, false, false, false, false, false, false, true, false, false, false] rfl rfl rfl rfl (two_of HT_.out (by kernel_rfl)) (by decide) (by decide) (fun K hK => ?_) (fun K hK => ?_)
                                    · skip
                                      refine conv_step Tryd.underlying9 Tryd.underlying26 Tryd.underlying5 (((t236.extract 0 (((rd_T40 t242 (ji28)).f0) : Int).toNat) ++ (rdOf ByteArray.empty y248 (ji31))) ++ (t236.extract ((ji37) : Int).toNat t236.size)) A41.out (by rfl) rfl rfl (by (try simp only [List.map_toArray, List.map_cons, List.map_nil]); first | done | (simp only [hji28, hji31, hji37]; rfl) | rfl | (simp only [List.length_drop, List.length_take]; rfl)) ?_
                                      intro v253 w49 ho0 hb
                                      have n0_ := Aside0.mk (Kd.R_below (by (with_reducible repeat (first | apply Kd.R_alloc | apply Kd.R_drewN | apply Kd.R_drew)); exact HO_9.out) hb)
                                      have n1_ := Aside0.mk (Kd.R_below (by (with_reducible repeat (first | apply Kd.R_alloc | apply Kd.R_drewN | apply Kd.R_drew)); exact HO250.out) hb)
                                      have n2_ := Aside0.mk (Kd.V_lower (Kd.V_mono (ok' := fun k_ => some k_ ≠ (.slice (some ad246) t242.length co44 : Value).ownBlock ∧ some k_ ≠ (.slice (some ad251) y248.length co47 : Value).ownBlock ∧ k_ ≠ gb233) ho0 (fun k_ hk_ => ⟨(Kd.fresh' (Kd.R_lt (by (with_reducible repeat (first | apply Kd.R_alloc | apply Kd.R_drewN | apply Kd.R_drew)); exact HO_9.out)) k_ hk_), (Kd.fresh' (Kd.R_lt (by (with_reducible repeat (first | apply Kd.R_alloc | apply Kd.R_drewN | apply Kd.R_drew)); exact HO250.out)) k_ hk_), (Kd.freshB (g := gb233) (o := .cells #[.slice A0_0 l0_0.length c0_0, .int .i64 a0_1, .slice A0_2 l0_2.length c0_2] 25 (0, 0)) (by (with_reducible repeat (first | refine blk_drewN ?_ _ | refine blk_drew ?_ | refine blk_alloc ?_ _)); exact BK233.out) k_ hk_)⟩)) (below_size (by repeat (first | (with_reducible first | exact HB.out | apply below_alloc | apply pw_below_drewN | apply below_drew1 | refine below_set ?_ GE233.out) | exact HB.out))))
                                      have n3_ := Aside0.mk (blk_below (g := gb233) (o := .cells #[.slice A0_0 l0_0.length c0_0, .int .i64 a0_1, .slice A0_2 l0_2.length c0_2] 25 (0, 0)) (by (with_reducible repeat (first | refine blk_drewN ?_ _ | refine blk_drew ?_ | refine blk_alloc ?_ _)); exact BK233.out) hb)
                                      have n4_ := Aside0.mk (below_step (by repeat (first | (with_reducible first | exact HB.out | apply below_alloc | apply pw_below_drewN | apply below_drew1 | refine below_set ?_ GE233.out) | exact HB.out)) hb)
                                      clear HO_9
                                      clear HO250
                                      clear BK233
                                      clear HB
                                      have HO_9 := n0_
                                      have HO250 := n1_
                                      have HO254 := n2_
                                      have BK233 := n3_
                                      have HB := n4_
                                      clear n0_ n1_ n2_ n3_ n4_
                                      (try clear hb)
                                      (try clear hb2)
                                      (try clear hk)
                                      (try clear hi)
                                      (try clear ho0)
                                      obtain ⟨Ao50, co50, eo50⟩ := Kd.V_slice HO254.out
                                      (first | subst eo50 | (injection eo50 with f1_ f2_ f3_; have f4_ := f1_.symm; have f5_ := f3_.symm; clear f1_ f2_ f3_; subst f4_; subst f5_))
                                      refine hK.out _ _ trivial (fun hHeld => ?_)
                                      clear hK K
                                      refine norm_ (a' := ?_) ?_ ?_
                                      rotate_left
                                      · show Act.put _ (some 82) _ = _
                                        simp only [Act.put, List.setIfInBounds_toArray, List.set_cons_zero, List.set_cons_succ, i64_w, i32_w]
                                        rfl
                                      refine two_ (i := 10) (j := 15) (Ni := some 83) (Nj := some 15) #[true, true, true, true, true, true, true, true, true, true, true, false, false, false, false, false, false, false, false] #[true, true, true, true, true, true, true, true, true, true, false, false, false, false, false, true, false, false, false] rfl rfl rfl rfl (two_of HT_.out (by kernel_rfl)) (by decide) (by decide) (fun K hK => ?_) (fun K hK => ?_)
                                      · skip
                                        refine goes_ Tryd.func10 (by kernel_rfl) rfl #[.slice Ao50 t252.length co50] (by rfl) rfl rfl (by (try simp only [List.map_toArray, List.map_cons, List.map_nil]); first | done | rfl | (simp only [List.length_drop, List.length_take]; rfl)) ?_
                                        with_reducible refine (object_Read.calls _ _ t252 t255 t258 t259 t262 t263 _ ?side1 ?side2 A42.out).mono ?_
                                        (case side1 => repeat (first | exact (Kd.V_reads' HO254.out).2.2 | (with_reducible refine Kd.C_alloc ?_ _) | (with_reducible refine Kd.C_drewN ?_ _) | (with_reducible refine Kd.C_drew ?_)))
                                        (case side2 => exact (Kd.V_reads' HO254.out).2.1)
                                        rintro e w51 ⟨v256, v260, rfl, ho0, ho1, hb⟩
                                        refine ⟨_, rfl, ?_⟩
                                        have n0_ := Aside0.mk (Kd.R_below (by (with_reducible repeat (first | apply Kd.R_alloc | apply Kd.R_drewN | apply Kd.R_drew)); exact HO_9.out) hb)
                                        have n1_ := Aside0.mk (Kd.R_below (by (with_reducible repeat (first | apply Kd.R_alloc | apply Kd.R_drewN | apply Kd.R_drew)); exact HO250.out) hb)
                                        have n2_ := Aside0.mk (Kd.V_below (by (with_reducible repeat (first | apply Kd.V_alloc | apply Kd.V_drewN | apply Kd.V_drew)); exact HO254.out) hb)
                                        have n3_ := Aside0.mk (Kd.V_lower (Kd.V_mono (ok' := fun k_ => some k_ ≠ (.slice (some ad246) t242.length co44 : Value).ownBlock ∧ some k_ ≠ (.slice (some ad251) y248.length co47 : Value).ownBlock ∧ k_ ≠ gb233) ho0 (fun k_ hk_ => ⟨(Kd.fresh' (Kd.R_lt (by (with_reducible repeat (first | apply Kd.R_alloc | apply Kd.R_drewN | apply Kd.R_drew)); exact HO_9.out)) k_ hk_), (Kd.fresh' (Kd.R_lt (by (with_reducible repeat (first | apply Kd.R_alloc | apply Kd.R_drewN | apply Kd.R_drew)); exact HO250.out)) k_ hk_), (Kd.freshB (g := gb233) (o := .cells #[.slice A0_0 l0_0.length c0_0, .int .i64 a0_1, .slice A0_2 l0_2.length c0_2] 25 (0, 0)) (by (with_reducible repeat (first | refine blk_drewN ?_ _ | refine blk_drew ?_ | refine blk_alloc ?_ _)); exact BK233.out) k_ hk_)⟩)) (below_size (by repeat (first | (with_reducible first | exact HB.out | apply below_alloc | apply pw_below_drewN | apply below_drew1 | refine below_set ?_ GE233.out) | exact HB.out))))
                                        have n4_ := Aside0.mk (Kd.V_lower (Kd.V_mono (ok' := fun k_ => some k_ ≠ (.slice (some ad246) t242.length co44 : Value).ownBlock ∧ some k_ ≠ (.slice (some ad251) y248.length co47 : Value).ownBlock ∧ k_ ≠ gb233) ho1 (fun k_ hk_ => ⟨(Kd.fresh' (Kd.R_lt (by (with_reducible repeat (first | apply Kd.R_alloc | apply Kd.R_drewN | apply Kd.R_drew)); exact HO_9.out)) k_ hk_), (Kd.fresh' (Kd.R_lt (by (with_reducible repeat (first | apply Kd.R_alloc | apply Kd.R_drewN | apply Kd.R_drew)); exact HO250.out)) k_ hk_), (Kd.freshB (g := gb233) (o := .cells #[.slice A0_0 l0_0.length c0_0, .int .i64 a0_1, .slice A0_2 l0_2.length c0_2] 25 (0, 0)) (by (with_reducible repeat (first | refine blk_drewN ?_ _ | refine blk_drew ?_ | refine blk_alloc ?_ _)); exact BK233.out) k_ hk_)⟩)) (below_size (by repeat (first | (with_reducible first | exact HB.out | apply below_alloc | apply pw_below_drewN | apply below_drew1 | refine below_set ?_ GE233.out) | exact HB.out))))
                                        have n5_ := Aside0.mk (blk_below (g := gb233) (o := .cells #[.slice A0_0 l0_0.length c0_0, .int .i64 a0_1, .slice A0_2 l0_2.length c0_2] 25 (0, 0)) (by (with_reducible repeat (first | refine blk_drewN ?_ _ | refine blk_drew ?_ | refine blk_alloc ?_ _)); exact BK233.out) hb)
                                        have n6_ := Aside0.mk (below_step (by repeat (first | (with_reducible first | exact HB.out | apply below_alloc | apply pw_below_drewN | apply below_drew1 | refine below_set ?_ GE233.out) | exact HB.out)) hb)
                                        clear HO_9
                                        clear HO250
                                        clear HO254
                                        clear BK233
                                        clear HB
                                        have HO_9 := n0_
                                        have HO250 := n1_
                                        have HO254 := n2_
                                        have HO257 := n3_
                                        have HO261 := n4_
                                        have BK233 := n5_
                                        have HB := n6_
                                        clear n0_ n1_ n2_ n3_ n4_ n5_ n6_
                                        (try clear hb)
                                        (try clear hb2)
                                        (try clear hk)
                                        (try clear hi)
                                        (try clear ho0)
                                        (try clear ho1)
                                        refine hK.out _ _ trivial (fun hHeld => ?_)
                                        clear hK K
                                        refine norm_ (a' := ?_) ?_ ?_
                                        rotate_left
                                        · show Act.put _ (some 83) _ = _
                                          simp only [Act.put, List.setIfInBounds_toArray, List.set_cons_zero, List.set_cons_succ, i64_w, i32_w]
                                          rfl
                                        refine pure_ (i := 11) (N := some 72) (v := ?_) (a' := ?_) #[true, true, true, true, true, true, true, true, true, true, true, true, false, false, false, false, false, false, false] rfl rfl (any_of HT_.out (by kernel_rfl)) (fun _ _ _ h => h) (Or.inl ⟨by rfl, ?_⟩) ?_ ?_
                                        rotate_left
                                        · intro w'
                                          go_simp
                                          with_reducible rfl
                                        rotate_left
                                        · simp only [Act.put, List.setIfInBounds_toArray, List.set_cons_zero, List.set_cons_succ, i64_w, i32_w]
                                          rfl
                                        refine pure_ (i := 12) (N := some 84) (v := ?_) (a' := ?_) #[true, true, true, true, true, true, true, true, true, true, true, true, true, false, false, false, false, false, false] rfl rfl (any_of HT_.out (by kernel_rfl)) (fun _ _ _ h => h) (Or.inl ⟨by rfl, ?_⟩) ?_ ?_
                                        rotate_left
                                        · intro w'
                                          go_simp
                                          with_reducible rfl
                                        rotate_left
                                        · simp only [Act.put, List.setIfInBounds_toArray, List.set_cons_zero, List.set_cons_succ, i64_w, i32_w]
                                          rfl
                                        refine pure_ (i := 13) (N := some 85) (v := ?_) (a' := ?_) #[true, true, true, true, true, true, true, true, true, true, true, true, true, true, false, false, false, false, false] rfl rfl (any_of HT_.out (by kernel_rfl)) (fun _ _ _ h => h) (Or.inl ⟨by rfl, ?_⟩) ?_ ?_
                                        rotate_left
                                        · intro w'
                                          go_simp
                                          with_reducible rfl
                                        rotate_left
                                        · simp only [Act.put, List.setIfInBounds_toArray, List.set_cons_zero, List.set_cons_succ, i64_w, i32_w]
                                          rfl
                                        refine pure_ (i := 14) (N := some 86) (v := ?_) (a' := ?_) #[true, true, true, true, true, true, true, true, true, true, true, true, true, true, true, false, false, false, false] rfl rfl (any_of HT_.out (by kernel_rfl)) (fun _ _ _ h => h) (Or.inl ⟨by rfl, ?_⟩) ?_ ?_
                                        rotate_left
                                        · intro w'
                                          go_simp
                                          with_reducible rfl
                                        rotate_left
                                        · simp only [Act.put, List.setIfInBounds_toArray, List.set_cons_zero, List.set_cons_succ, i64_w, i32_w]
                                          rfl
                                        refine one_ (i := 15) (N := some 15) #[true, true, true, true, true, true, true, true, true, true, true, true, true, true, true, true, false, false, false] rfl rfl (one_of HT_.out (by kernel_rfl)) (by decide) (fun K hK => ?_)
                                        refine box_step ?hg (N := 15) ?hd (cs := #[.slice none 0 0, .int .i64 0, .slice none 0 0]) (t := 25) ?hr ?_; (case hd => rfl); (case hg => rfl); (case hr => first | (go_simp; done) | (go_simp; rfl))
                                        intro gb264 hg w52 hbox hb
                                        have n0_ := Aside0.mk (Kd.R_below (by (with_reducible repeat (first | apply Kd.R_alloc | apply Kd.R_drewN | apply Kd.R_drew)); exact HO_9.out) hb)
                                        have n1_ := Aside0.mk (Kd.R_below (by (with_reducible repeat (first | apply Kd.R_alloc | apply Kd.R_drewN | apply Kd.R_drew)); exact HO250.out) hb)
                                        have n2_ := Aside0.mk (Kd.V_below (Kd.V_elderB (by (with_reducible repeat (first | apply Kd.V_alloc | apply Kd.V_drewN | apply Kd.V_drew)); exact HO254.out) gb264 (Nat.le_of_eq hg.symm)) hb)
                                        have n3_ := Aside0.mk (Kd.V_below (Kd.V_elderB (by (with_reducible repeat (first | apply Kd.V_alloc | apply Kd.V_drewN | apply Kd.V_drew)); exact HO257.out) gb264 (Nat.le_of_eq hg.symm)) hb)
                                        have n4_ := Aside0.mk (Kd.V_below (Kd.V_elderB (by (with_reducible repeat (first | apply Kd.V_alloc | apply Kd.V_drewN | apply Kd.V_drew)); exact HO261.out) gb264 (Nat.le_of_eq hg.symm)) hb)
                                        have n5_ := Aside0.mk (blk_below (g := gb233) (o := .cells #[.slice A0_0 l0_0.length c0_0, .int .i64 a0_1, .slice A0_2 l0_2.length c0_2] 25 (0, 0)) (by (with_reducible repeat (first | refine blk_drewN ?_ _ | refine blk_drew ?_ | refine blk_alloc ?_ _)); exact BK233.out) hb)
                                        have n6_ := Aside0.mk (below_step (by repeat (first | (with_reducible first | exact HB.out | apply below_alloc | apply pw_below_drewN | apply below_drew1 | refine below_set ?_ GE233.out) | exact HB.out)) hb)
                                        have n7_ := Aside0.mk (hbox)
                                        have n8_ := Aside0.mk ((by rw [hg]; exact (below_size (by repeat (first | (with_reducible first | exact HB.out | apply below_alloc | apply pw_below_drewN | apply below_drew1 | refine below_set ?_ GE233.out) | exact HB.out))) : w.heap.size ≤ gb264))
                                        have n9_ := Aside0.mk ((by rw [hg]; exact (below_size (by repeat (first | (with_reducible first | exact HB.out | apply below_alloc | apply pw_below_drewN | apply below_drew1 | refine below_set ?_ GE233.out) | exact HB.out))) : w.heap.size ≤ gb264))
                                        have n10_ := Aside0.mk ((by rw [hg]; exact Nat.ne_of_lt (blk_lt (g := gb233) (o := .cells #[.slice A0_0 l0_0.length c0_0, .int .i64 a0_1, .slice A0_2 l0_2.length c0_2] 25 (0, 0)) (by (with_reducible repeat (first | refine blk_drewN ?_ _ | refine blk_drew ?_ | refine blk_alloc ?_ _)); exact BK233.out)) : gb233 ≠ gb264))
                                        have n11_ := Aside0.mk ((by rw [hg]; exact Nat.ne_of_gt (blk_lt (g := gb233) (o := .cells #[.slice A0_0 l0_0.length c0_0, .int .i64 a0_1, .slice A0_2 l0_2.length c0_2] 25 (0, 0)) (by (with_reducible repeat (first | refine blk_drewN ?_ _ | refine blk_drew ?_ | refine blk_alloc ?_ _)); exact BK233.out)) : gb264 ≠ gb233))
                                        clear HO_9
                                        clear HO250
                                        clear HO254
                                        clear HO257
                                        clear HO261
                                        clear BK233
                                        clear HB
                                        have HO_9 := n0_
                                        have HO250 := n1_
                                        have HO254 := n2_
                                        have HO257 := n3_
                                        have HO261 := n4_
                                        have BK233 := n5_
                                        have HB := n6_
                                        have BK264 := n7_
                                        have GW264 := n8_
                                        have GE264 := n9_
                                        have NB233_264 := n10_
                                        have NB264_233 := n11_
                                        clear n0_ n1_ n2_ n3_ n4_ n5_ n6_ n7_ n8_ n9_ n10_ n11_
                                        clear hb hbox hg
                                        refine hK.out _ _ trivial (fun hHeld => ?_)
                                        clear hK K
                                        refine norm_ (a' := ?_) ?_ ?_
                                        rotate_left
                                        · show Act.put _ (some 15) _ = _
                                          simp only [Act.put, List.setIfInBounds_toArray, List.set_cons_zero, List.set_cons_succ, i64_w, i32_w]
                                          rfl
                                        exact norm_ (by simp only [putAll, Act.put, List.setIfInBounds_toArray, List.set_cons_zero, List.set_cons_succ]) (hCont (.slice Ao50 t252.length co50, v256, v260, gb264) _ ⟨(by (with_reducible repeat (first | apply Kd.R_alloc | apply Kd.R_drewN | apply Kd.R_drew)); exact HO250.out), (by (with_reducible repeat (first | apply Kd.V_alloc | apply Kd.V_drewN | apply Kd.V_drew)); exact Kd.V_mono HO254.out (fun _ hk => ⟨hk.1.2.1, ⟨hk.1.1, ⟨hk.1.2.2, hk.2⟩⟩⟩)), (by (with_reducible repeat (first | apply Kd.V_alloc | apply Kd.V_drewN | apply Kd.V_drew)); exact Kd.V_mono HO257.out (fun _ hk => ⟨hk.1.2.1, ⟨hk.1.1, ⟨hk.1.2.2, hk.2⟩⟩⟩)), (by (with_reducible repeat (first | apply Kd.V_alloc | apply Kd.V_drewN | apply Kd.V_drew)); exact Kd.V_mono HO261.out (fun _ hk => ⟨hk.1.2.1, ⟨hk.1.1, ⟨hk.1.2.2, hk.2⟩⟩⟩)), (by (with_reducible repeat (first | apply Kd.R_alloc | apply Kd.R_drewN | apply Kd.R_drew)); exact HO_9.out), (by (with_reducible repeat (first | refine blk_drewN ?_ _ | refine blk_drew ?_ | refine blk_alloc ?_ _)); exact BK233.out), (by (with_reducible repeat (first | refine blk_drewN ?_ _ | refine blk_drew ?_ | refine blk_alloc ?_ _)); exact BK264.out), GW264.out, GE264.out, NB233_264.out, NB264_233.out, (by repeat (first | (with_reducible first | exact HB.out | apply below_alloc | apply pw_below_drewN | apply below_drew1 | refine below_set ?_ GE233.out | refine below_set ?_ GE264.out) | exact HB.out))⟩)
                                      · skip
                                        refine box_step ?hg (N := 15) ?hd (cs := #[.slice none 0 0, .int .i64 0, .slice none 0 0]) (t := 25) ?hr ?_; (case hd => rfl); (case hg => rfl); (case hr => first | (go_simp; done) | (go_simp; rfl))
                                        intro gb264 hg w50 hbox hb
                                        have n0_ := Aside0.mk (Kd.R_below (by (with_reducible repeat (first | apply Kd.R_alloc | apply Kd.R_drewN | apply Kd.R_drew)); exact HO_9.out) hb)
                                        have n1_ := Aside0.mk (Kd.R_below (by (with_reducible repeat (first | apply Kd.R_alloc | apply Kd.R_drewN | apply Kd.R_drew)); exact HO250.out) hb)
                                        have n2_ := Aside0.mk (Kd.V_below (Kd.V_elderB (by (with_reducible repeat (first | apply Kd.V_alloc | apply Kd.V_drewN | apply Kd.V_drew)); exact HO254.out) gb264 (Nat.le_of_eq hg.symm)) hb)
                                        have n3_ := Aside0.mk (blk_below (g := gb233) (o := .cells #[.slice A0_0 l0_0.length c0_0, .int .i64 a0_1, .slice A0_2 l0_2.length c0_2] 25 (0, 0)) (by (with_reducible repeat (first | refine blk_drewN ?_ _ | refine blk_drew ?_ | refine blk_alloc ?_ _)); exact BK233.out) hb)
                                        have n4_ := Aside0.mk (below_step (by repeat (first | (with_reducible first | exact HB.out | apply below_alloc | apply pw_below_drewN | apply below_drew1 | refine below_set ?_ GE233.out) | exact HB.out)) hb)
                                        have n5_ := Aside0.mk (hbox)
                                        have n6_ := Aside0.mk ((by rw [hg]; exact (below_size (by repeat (first | (with_reducible first | exact HB.out | apply below_alloc | apply pw_below_drewN | apply below_drew1 | refine below_set ?_ GE233.out) | exact HB.out))) : w.heap.size ≤ gb264))
                                        have n7_ := Aside0.mk ((by rw [hg]; exact (below_size (by repeat (first | (with_reducible first | exact HB.out | apply below_alloc | apply pw_below_drewN | apply below_drew1 | refine below_set ?_ GE233.out) | exact HB.out))) : w.heap.size ≤ gb264))
                                        have n8_ := Aside0.mk ((by rw [hg]; exact Nat.ne_of_lt (blk_lt (g := gb233) (o := .cells #[.slice A0_0 l0_0.length c0_0, .int .i64 a0_1, .slice A0_2 l0_2.length c0_2] 25 (0, 0)) (by (with_reducible repeat (first | refine blk_drewN ?_ _ | refine blk_drew ?_ | refine blk_alloc ?_ _)); exact BK233.out)) : gb233 ≠ gb264))
                                        have n9_ := Aside0.mk ((by rw [hg]; exact Nat.ne_of_gt (blk_lt (g := gb233) (o := .cells #[.slice A0_0 l0_0.length c0_0, .int .i64 a0_1, .slice A0_2 l0_2.length c0_2] 25 (0, 0)) (by (with_reducible repeat (first | refine blk_drewN ?_ _ | refine blk_drew ?_ | refine blk_alloc ?_ _)); exact BK233.out)) : gb264 ≠ gb233))
                                        clear HO_9
                                        clear HO250
                                        clear HO254
                                        clear BK233
                                        clear HB
                                        have HO_9 := n0_
                                        have HO250 := n1_
                                        have HO254 := n2_
                                        have BK233 := n3_
                                        have HB := n4_
                                        have BK264 := n5_
                                        have GW264 := n6_
                                        have GE264 := n7_
                                        have NB233_264 := n8_
                                        have NB264_233 := n9_
                                        clear n0_ n1_ n2_ n3_ n4_ n5_ n6_ n7_ n8_ n9_
                                        clear hb hbox hg
                                        obtain ⟨Ao51, co51, eo51⟩ := Kd.V_slice HO254.out
                                        (first | subst eo51 | (injection eo51 with f1_ f2_ f3_; have f4_ := f1_.symm; have f5_ := f3_.symm; clear f1_ f2_ f3_; subst f4_; subst f5_))
                                        refine hK.out _ _ trivial (fun hHeld => ?_)
                                        clear hK K
                                        refine norm_ (a' := ?_) ?_ ?_
                                        rotate_left
                                        · show Act.put _ (some 15) _ = _
                                          simp only [Act.put, List.setIfInBounds_toArray, List.set_cons_zero, List.set_cons_succ, i64_w, i32_w]
                                          rfl
                                        refine one_ (i := 10) (N := some 83) #[true, true, true, true, true, true, true, true, true, true, true, false, false, false, false, true, false, false, false] rfl rfl (one_of HT_.out (by kernel_rfl)) (by decide) (fun K hK => ?_)
                                        refine goes_ Tryd.func10 (by kernel_rfl) rfl #[.slice Ao51 t252.length co51] (by rfl) rfl rfl (by (try simp only [List.map_toArray, List.map_cons, List.map_nil]); first | done | rfl | (simp only [List.length_drop, List.length_take]; rfl)) ?_
                                        with_reducible refine (object_Read.calls _ _ t252 t255 t258 t259 t262 t263 _ ?side1 ?side2 A42.out).mono ?_
                                        (case side1 => repeat (first | exact (Kd.V_reads' HO254.out).2.2 | (with_reducible refine Kd.C_alloc ?_ _) | (with_reducible refine Kd.C_drewN ?_ _) | (with_reducible refine Kd.C_drew ?_)))
                                        (case side2 => exact (Kd.V_reads' HO254.out).2.1)
                                        rintro e w52 ⟨v256, v260, rfl, ho0, ho1, hb⟩
                                        refine ⟨_, rfl, ?_⟩
                                        have n0_ := Aside0.mk (Kd.R_below (by (with_reducible repeat (first | apply Kd.R_alloc | apply Kd.R_drewN | apply Kd.R_drew)); exact HO_9.out) hb)
                                        have n1_ := Aside0.mk (Kd.R_below (by (with_reducible repeat (first | apply Kd.R_alloc | apply Kd.R_drewN | apply Kd.R_drew)); exact HO250.out) hb)
                                        have n2_ := Aside0.mk (Kd.V_below (by (with_reducible repeat (first | apply Kd.V_alloc | apply Kd.V_drewN | apply Kd.V_drew)); exact HO254.out) hb)
                                        have n3_ := Aside0.mk (Kd.V_lower (Kd.V_mono (ok' := fun k_ => some k_ ≠ (.slice (some ad246) t242.length co44 : Value).ownBlock ∧ some k_ ≠ (.slice (some ad251) y248.length co47 : Value).ownBlock ∧ k_ ≠ gb233 ∧ k_ ≠ gb264) ho0 (fun k_ hk_ => ⟨(Kd.fresh' (Kd.R_lt (by (with_reducible repeat (first | apply Kd.R_alloc | apply Kd.R_drewN | apply Kd.R_drew)); exact HO_9.out)) k_ hk_), (Kd.fresh' (Kd.R_lt (by (with_reducible repeat (first | apply Kd.R_alloc | apply Kd.R_drewN | apply Kd.R_drew)); exact HO250.out)) k_ hk_), (Kd.freshB (g := gb233) (o := .cells #[.slice A0_0 l0_0.length c0_0, .int .i64 a0_1, .slice A0_2 l0_2.length c0_2] 25 (0, 0)) (by (with_reducible repeat (first | refine blk_drewN ?_ _ | refine blk_drew ?_ | refine blk_alloc ?_ _)); exact BK233.out) k_ hk_), (Kd.freshB (g := gb264) (o := .cells #[.slice none 0 0, .int .i64 0, .slice none 0 0] 25 (0, 0)) (by (with_reducible repeat (first | refine blk_drewN ?_ _ | refine blk_drew ?_ | refine blk_alloc ?_ _)); exact BK264.out) k_ hk_)⟩)) (below_size (by repeat (first | (with_reducible first | exact HB.out | apply below_alloc | apply pw_below_drewN | apply below_drew1 | refine below_set ?_ GE233.out | refine below_set ?_ GE264.out) | exact HB.out))))
                                        have n4_ := Aside0.mk (Kd.V_lower (Kd.V_mono (ok' := fun k_ => some k_ ≠ (.slice (some ad246) t242.length co44 : Value).ownBlock ∧ some k_ ≠ (.slice (some ad251) y248.length co47 : Value).ownBlock ∧ k_ ≠ gb233 ∧ k_ ≠ gb264) ho1 (fun k_ hk_ => ⟨(Kd.fresh' (Kd.R_lt (by (with_reducible repeat (first | apply Kd.R_alloc | apply Kd.R_drewN | apply Kd.R_drew)); exact HO_9.out)) k_ hk_), (Kd.fresh' (Kd.R_lt (by (with_reducible repeat (first | apply Kd.R_alloc | apply Kd.R_drewN | apply Kd.R_drew)); exact HO250.out)) k_ hk_), (Kd.freshB (g := gb233) (o := .cells #[.slice A0_0 l0_0.length c0_0, .int .i64 a0_1, .slice A0_2 l0_2.length c0_2] 25 (0, 0)) (by (with_reducible repeat (first | refine blk_drewN ?_ _ | refine blk_drew ?_ | refine blk_alloc ?_ _)); exact BK233.out) k_ hk_), (Kd.freshB (g := gb264) (o := .cells #[.slice none 0 0, .int .i64 0, .slice none 0 0] 25 (0, 0)) (by (with_reducible repeat (first | refine blk_drewN ?_ _ | refine blk_drew ?_ | refine blk_alloc ?_ _)); exact BK264.out) k_ hk_)⟩)) (below_size (by repeat (first | (with_reducible first | exact HB.out | apply below_alloc | apply pw_below_drewN | apply below_drew1 | refine below_set ?_ GE233.out | refine below_set ?_ GE264.out) | exact HB.out))))
                                        have n5_ := Aside0.mk (blk_below (g := gb233) (o := .cells #[.slice A0_0 l0_0.length c0_0, .int .i64 a0_1, .slice A0_2 l0_2.length c0_2] 25 (0, 0)) (by (with_reducible repeat (first | refine blk_drewN ?_ _ | refine blk_drew ?_ | refine blk_alloc ?_ _)); exact BK233.out) hb)
                                        have n6_ := Aside0.mk (blk_below (g := gb264) (o := .cells #[.slice none 0 0, .int .i64 0, .slice none 0 0] 25 (0, 0)) (by (with_reducible repeat (first | refine blk_drewN ?_ _ | refine blk_drew ?_ | refine blk_alloc ?_ _)); exact BK264.out) hb)
                                        have n7_ := Aside0.mk (below_step (by repeat (first | (with_reducible first | exact HB.out | apply below_alloc | apply pw_below_drewN | apply below_drew1 | refine below_set ?_ GE233.out | refine below_set ?_ GE264.out) | exact HB.out)) hb)
                                        clear HO_9
                                        clear HO250
                                        clear HO254
                                        clear BK233
                                        clear BK264
                                        clear HB
                                        have HO_9 := n0_
                                        have HO250 := n1_
                                        have HO254 := n2_
                                        have HO257 := n3_
                                        have HO261 := n4_
                                        have BK233 := n5_
                                        have BK264 := n6_
                                        have HB := n7_
                                        clear n0_ n1_ n2_ n3_ n4_ n5_ n6_ n7_
                                        (try clear hb)
                                        (try clear hb2)
                                        (try clear hk)
                                        (try clear hi)
                                        (try clear ho0)
                                        (try clear ho1)
                                        refine hK.out _ _ trivial (fun hHeld => ?_)
                                        clear hK K
                                        refine norm_ (a' := ?_) ?_ ?_
                                        rotate_left
                                        · show Act.put _ (some 83) _ = _
                                          simp only [Act.put, List.setIfInBounds_toArray, List.set_cons_zero, List.set_cons_succ, i64_w, i32_w]
                                          rfl
                                        refine pure_ (i := 11) (N := some 72) (v := ?_) (a' := ?_) #[true, true, true, true, true, true, true, true, true, true, true, true, false, false, false, true, false, false, false] rfl rfl (any_of HT_.out (by kernel_rfl)) (fun _ _ _ h => h) (Or.inl ⟨by rfl, ?_⟩) ?_ ?_
                                        rotate_left
                                        · intro w'
                                          go_simp
                                          with_reducible rfl
                                        rotate_left
                                        · simp only [Act.put, List.setIfInBounds_toArray, List.set_cons_zero, List.set_cons_succ, i64_w, i32_w]
                                          rfl
                                        refine pure_ (i := 12) (N := some 84) (v := ?_) (a' := ?_) #[true, true, true, true, true, true, true, true, true, true, true, true, true, false, false, true, false, false, false] rfl rfl (any_of HT_.out (by kernel_rfl)) (fun _ _ _ h => h) (Or.inl ⟨by rfl, ?_⟩) ?_ ?_
                                        rotate_left
                                        · intro w'
                                          go_simp
                                          with_reducible rfl
                                        rotate_left
                                        · simp only [Act.put, List.setIfInBounds_toArray, List.set_cons_zero, List.set_cons_succ, i64_w, i32_w]
                                          rfl
                                        refine pure_ (i := 13) (N := some 85) (v := ?_) (a' := ?_) #[true, true, true, true, true, true, true, true, true, true, true, true, true, true, false, true, false, false, false] rfl rfl (any_of HT_.out (by kernel_rfl)) (fun _ _ _ h => h) (Or.inl ⟨by rfl, ?_⟩) ?_ ?_
                                        rotate_left
                                        · intro w'
                                          go_simp
                                          with_reducible rfl
                                        rotate_left
                                        · simp only [Act.put, List.setIfInBounds_toArray, List.set_cons_zero, List.set_cons_succ, i64_w, i32_w]
                                          rfl
                                        refine pure_ (i := 14) (N := some 86) (v := ?_) (a' := ?_) #[true, true, true, true, true, true, true, true, true, true, true, true, true, true, true, true, false, false, false] rfl rfl (any_of HT_.out (by kernel_rfl)) (fun _ _ _ h => h) (Or.inl ⟨by rfl, ?_⟩) ?_ ?_
                                        rotate_left
                                        · intro w'
                                          go_simp
                                          with_reducible rfl
                                        rotate_left
                                        · simp only [Act.put, List.setIfInBounds_toArray, List.set_cons_zero, List.set_cons_succ, i64_w, i32_w]
                                          rfl
                                        exact norm_ (by simp only [putAll, Act.put, List.setIfInBounds_toArray, List.set_cons_zero, List.set_cons_succ]) (hCont (.slice Ao51 t252.length co51, v256, v260, gb264) _ ⟨(by (with_reducible repeat (first | apply Kd.R_alloc | apply Kd.R_drewN | apply Kd.R_drew)); exact HO250.out), (by (with_reducible repeat (first | apply Kd.V_alloc | apply Kd.V_drewN | apply Kd.V_drew)); exact Kd.V_mono HO254.out (fun _ hk => ⟨hk.1.2.1, ⟨hk.1.1, ⟨hk.1.2.2, hk.2⟩⟩⟩)), (by (with_reducible repeat (first | apply Kd.V_alloc | apply Kd.V_drewN | apply Kd.V_drew)); exact Kd.V_mono HO257.out (fun _ hk => ⟨hk.2.1, ⟨hk.1, ⟨hk.2.2.1, hk.2.2.2⟩⟩⟩)), (by (with_reducible repeat (first | apply Kd.V_alloc | apply Kd.V_drewN | apply Kd.V_drew)); exact Kd.V_mono HO261.out (fun _ hk => ⟨hk.2.1, ⟨hk.1, ⟨hk.2.2.1, hk.2.2.2⟩⟩⟩)), (by (with_reducible repeat (first | apply Kd.R_alloc | apply Kd.R_drewN | apply Kd.R_drew)); exact HO_9.out), (by (with_reducible repeat (first | refine blk_drewN ?_ _ | refine blk_drew ?_ | refine blk_alloc ?_ _)); exact BK233.out), (by (with_reducible repeat (first | refine blk_drewN ?_ _ | refine blk_drew ?_ | refine blk_alloc ?_ _)); exact BK264.out), GW264.out, GE264.out, NB233_264.out, NB264_233.out, (by repeat (first | (with_reducible first | exact HB.out | apply below_alloc | apply pw_below_drewN | apply below_drew1 | refine below_set ?_ GE233.out | refine below_set ?_ GE264.out) | exact HB.out))⟩)
                                    · skip
                                      refine box_step ?hg (N := 15) ?hd (cs := #[.slice none 0 0, .int .i64 0, .slice none 0 0]) (t := 25) ?hr ?_; (case hd => rfl); (case hg => rfl); (case hr => first | (go_simp; done) | (go_simp; rfl))
                                      intro gb264 hg w49 hbox hb
                                      have n0_ := Aside0.mk (Kd.R_below (by (with_reducible repeat (first | apply Kd.R_alloc | apply Kd.R_drewN | apply Kd.R_drew)); exact HO_9.out) hb)
                                      have n1_ := Aside0.mk (Kd.R_below (by (with_reducible repeat (first | apply Kd.R_alloc | apply Kd.R_drewN | apply Kd.R_drew)); exact HO250.out) hb)
                                      have n2_ := Aside0.mk (blk_below (g := gb233) (o := .cells #[.slice A0_0 l0_0.length c0_0, .int .i64 a0_1, .slice A0_2 l0_2.length c0_2] 25 (0, 0)) (by (with_reducible repeat (first | refine blk_drewN ?_ _ | refine blk_drew ?_ | refine blk_alloc ?_ _)); exact BK233.out) hb)
                                      have n3_ := Aside0.mk (below_step (by repeat (first | (with_reducible first | exact HB.out | apply below_alloc | apply pw_below_drewN | apply below_drew1 | refine below_set ?_ GE233.out) | exact HB.out)) hb)
                                      have n4_ := Aside0.mk (hbox)
                                      have n5_ := Aside0.mk ((by rw [hg]; exact (below_size (by repeat (first | (with_reducible first | exact HB.out | apply below_alloc | apply pw_below_drewN | apply below_drew1 | refine below_set ?_ GE233.out) | exact HB.out))) : w.heap.size ≤ gb264))
                                      have n6_ := Aside0.mk ((by rw [hg]; exact (below_size (by repeat (first | (with_reducible first | exact HB.out | apply below_alloc | apply pw_below_drewN | apply below_drew1 | refine below_set ?_ GE233.out) | exact HB.out))) : w.heap.size ≤ gb264))
                                      have n7_ := Aside0.mk ((by rw [hg]; exact Nat.ne_of_lt (blk_lt (g := gb233) (o := .cells #[.slice A0_0 l0_0.length c0_0, .int .i64 a0_1, .slice A0_2 l0_2.length c0_2] 25 (0, 0)) (by (with_reducible repeat (first | refine blk_drewN ?_ _ | refine blk_drew ?_ | refine blk_alloc ?_ _)); exact BK233.out)) : gb233 ≠ gb264))
                                      have n8_ := Aside0.mk ((by rw [hg]; exact Nat.ne_of_gt (blk_lt (g := gb233) (o := .cells #[.slice A0_0 l0_0.length c0_0, .int .i64 a0_1, .slice A0_2 l0_2.length c0_2] 25 (0, 0)) (by (with_reducible repeat (first | refine blk_drewN ?_ _ | refine blk_drew ?_ | refine blk_alloc ?_ _)); exact BK233.out)) : gb264 ≠ gb233))
                                      clear HO_9
                                      clear HO250
                                      clear BK233
                                      clear HB
                                      have HO_9 := n0_
                                      have HO250 := n1_
                                      have BK233 := n2_
                                      have HB := n3_
                                      have BK264 := n4_
                                      have GW264 := n5_
                                      have GE264 := n6_
                                      have NB233_264 := n7_
                                      have NB264_233 := n8_
                                      clear n0_ n1_ n2_ n3_ n4_ n5_ n6_ n7_ n8_
                                      clear hb hbox hg
                                      refine hK.out _ _ trivial (fun hHeld => ?_)
                                      clear hK K
                                      refine norm_ (a' := ?_) ?_ ?_
                                      rotate_left
                                      · show Act.put _ (some 15) _ = _
                                        simp only [Act.put, List.setIfInBounds_toArray, List.set_cons_zero, List.set_cons_succ, i64_w, i32_w]
                                        rfl
                                      refine one_ (i := 9) (N := some 82) #[true, true, true, true, true, true, true, true, true, true, false, false, false, false, false, true, false, false, false] rfl rfl (one_of HT_.out (by kernel_rfl)) (by decide) (fun K hK => ?_)
                                      refine conv_step Tryd.underlying9 Tryd.underlying26 Tryd.underlying5 (((t236.extract 0 (((rd_T40 t242 (ji28)).f0) : Int).toNat) ++ (rdOf ByteArray.empty y248 (ji31))) ++ (t236.extract ((ji37) : Int).toNat t236.size)) A41.out (by rfl) rfl rfl (by (try simp only [List.map_toArray, List.map_cons, List.map_nil]); first | done | (simp only [hji28, hji31, hji37]; rfl) | rfl | (simp only [List.length_drop, List.length_take]; rfl)) ?_
                                      intro v253 w50 ho0 hb
                                      have n0_ := Aside0.mk (Kd.R_below (by (with_reducible repeat (first | apply Kd.R_alloc | apply Kd.R_drewN | apply Kd.R_drew)); exact HO_9.out) hb)
                                      have n1_ := Aside0.mk (Kd.R_below (by (with_reducible repeat (first | apply Kd.R_alloc | apply Kd.R_drewN | apply Kd.R_drew)); exact HO250.out) hb)
                                      have n2_ := Aside0.mk (Kd.V_lower (Kd.V_mono (ok' := fun k_ => some k_ ≠ (.slice (some ad246) t242.length co44 : Value).ownBlock ∧ some k_ ≠ (.slice (some ad251) y248.length co47 : Value).ownBlock ∧ k_ ≠ gb233 ∧ k_ ≠ gb264) ho0 (fun k_ hk_ => ⟨(Kd.fresh' (Kd.R_lt (by (with_reducible repeat (first | apply Kd.R_alloc | apply Kd.R_drewN | apply Kd.R_drew)); exact HO_9.out)) k_ hk_), (Kd.fresh' (Kd.R_lt (by (with_reducible repeat (first | apply Kd.R_alloc | apply Kd.R_drewN | apply Kd.R_drew)); exact HO250.out)) k_ hk_), (Kd.freshB (g := gb233) (o := .cells #[.slice A0_0 l0_0.length c0_0, .int .i64 a0_1, .slice A0_2 l0_2.length c0_2] 25 (0, 0)) (by (with_reducible repeat (first | refine blk_drewN ?_ _ | refine blk_drew ?_ | refine blk_alloc ?_ _)); exact BK233.out) k_ hk_), (Kd.freshB (g := gb264) (o := .cells #[.slice none 0 0, .int .i64 0, .slice none 0 0] 25 (0, 0)) (by (with_reducible repeat (first | refine blk_drewN ?_ _ | refine blk_drew ?_ | refine blk_alloc ?_ _)); exact BK264.out) k_ hk_)⟩)) (below_size (by repeat (first | (with_reducible first | exact HB.out | apply below_alloc | apply pw_below_drewN | apply below_drew1 | refine below_set ?_ GE233.out | refine below_set ?_ GE264.out) | exact HB.out))))
                                      have n3_ := Aside0.mk (blk_below (g := gb233) (o := .cells #[.slice A0_0 l0_0.length c0_0, .int .i64 a0_1, .slice A0_2 l0_2.length c0_2] 25 (0, 0)) (by (with_reducible repeat (first | refine blk_drewN ?_ _ | refine blk_drew ?_ | refine blk_alloc ?_ _)); exact BK233.out) hb)
                                      have n4_ := Aside0.mk (blk_below (g := gb264) (o := .cells #[.slice none 0 0, .int .i64 0, .slice none 0 0] 25 (0, 0)) (by (with_reducible repeat (first | refine blk_drewN ?_ _ | refine blk_drew ?_ | refine blk_alloc ?_ _)); exact BK264.out) hb)
                                      have n5_ := Aside0.mk (below_step (by repeat (first | (with_reducible first | exact HB.out | apply below_alloc | apply pw_below_drewN | apply below_drew1 | refine below_set ?_ GE233.out | refine below_set ?_ GE264.out) | exact HB.out)) hb)
                                      clear HO_9
                                      clear HO250
                                      clear BK233
                                      clear BK264
                                      clear HB
                                      have HO_9 := n0_
                                      have HO250 := n1_
                                      have HO254 := n2_
                                      have BK233 := n3_
                                      have BK264 := n4_
                                      have HB := n5_
                                      clear n0_ n1_ n2_ n3_ n4_ n5_
                                      (try clear hb)
                                      (try clear hb2)
                                      (try clear hk)
                                      (try clear hi)
                                      (try clear ho0)
                                      obtain ⟨Ao51, co51, eo51⟩ := Kd.V_slice HO254.out
                                      (first | subst eo51 | (injection eo51 with f1_ f2_ f3_; have f4_ := f1_.symm; have f5_ := f3_.symm; clear f1_ f2_ f3_; subst f4_; subst f5_))
                                      refine hK.out _ _ trivial (fun hHeld => ?_)
                                      clear hK K
                                      refine norm_ (a' := ?_) ?_ ?_
                                      rotate_left
                                      · show Act.put _ (some 82) _ = _
                                        simp only [Act.put, List.setIfInBounds_toArray, List.set_cons_zero, List.set_cons_succ, i64_w, i32_w]
                                        rfl
                                      refine one_ (i := 10) (N := some 83) #[true, true, true, true, true, true, true, true, true, true, true, false, false, false, false, true, false, false, false] rfl rfl (one_of HT_.out (by kernel_rfl)) (by decide) (fun K hK => ?_)
                                      refine goes_ Tryd.func10 (by kernel_rfl) rfl #[.slice Ao51 t252.length co51] (by rfl) rfl rfl (by (try simp only [List.map_toArray, List.map_cons, List.map_nil]); first | done | rfl | (simp only [List.length_drop, List.length_take]; rfl)) ?_
                                      with_reducible refine (object_Read.calls _ _ t252 t255 t258 t259 t262 t263 _ ?side1 ?side2 A42.out).mono ?_
                                      (case side1 => repeat (first | exact (Kd.V_reads' HO254.out).2.2 | (with_reducible refine Kd.C_alloc ?_ _) | (with_reducible refine Kd.C_drewN ?_ _) | (with_reducible refine Kd.C_drew ?_)))
                                      (case side2 => exact (Kd.V_reads' HO254.out).2.1)
                                      rintro e w52 ⟨v256, v260, rfl, ho0, ho1, hb⟩
                                      refine ⟨_, rfl, ?_⟩
                                      have n0_ := Aside0.mk (Kd.R_below (by (with_reducible repeat (first | apply Kd.R_alloc | apply Kd.R_drewN | apply Kd.R_drew)); exact HO_9.out) hb)
                                      have n1_ := Aside0.mk (Kd.R_below (by (with_reducible repeat (first | apply Kd.R_alloc | apply Kd.R_drewN | apply Kd.R_drew)); exact HO250.out) hb)
                                      have n2_ := Aside0.mk (Kd.V_below (by (with_reducible repeat (first | apply Kd.V_alloc | apply Kd.V_drewN | apply Kd.V_drew)); exact HO254.out) hb)
                                      have n3_ := Aside0.mk (Kd.V_lower (Kd.V_mono (ok' := fun k_ => some k_ ≠ (.slice (some ad246) t242.length co44 : Value).ownBlock ∧ some k_ ≠ (.slice (some ad251) y248.length co47 : Value).ownBlock ∧ k_ ≠ gb233 ∧ k_ ≠ gb264) ho0 (fun k_ hk_ => ⟨(Kd.fresh' (Kd.R_lt (by (with_reducible repeat (first | apply Kd.R_alloc | apply Kd.R_drewN | apply Kd.R_drew)); exact HO_9.out)) k_ hk_), (Kd.fresh' (Kd.R_lt (by (with_reducible repeat (first | apply Kd.R_alloc | apply Kd.R_drewN | apply Kd.R_drew)); exact HO250.out)) k_ hk_), (Kd.freshB (g := gb233) (o := .cells #[.slice A0_0 l0_0.length c0_0, .int .i64 a0_1, .slice A0_2 l0_2.length c0_2] 25 (0, 0)) (by (with_reducible repeat (first | refine blk_drewN ?_ _ | refine blk_drew ?_ | refine blk_alloc ?_ _)); exact BK233.out) k_ hk_), (Kd.freshB (g := gb264) (o := .cells #[.slice none 0 0, .int .i64 0, .slice none 0 0] 25 (0, 0)) (by (with_reducible repeat (first | refine blk_drewN ?_ _ | refine blk_drew ?_ | refine blk_alloc ?_ _)); exact BK264.out) k_ hk_)⟩)) (below_size (by repeat (first | (with_reducible first | exact HB.out | apply below_alloc | apply pw_below_drewN | apply below_drew1 | refine below_set ?_ GE233.out | refine below_set ?_ GE264.out) | exact HB.out))))
                                      have n4_ := Aside0.mk (Kd.V_lower (Kd.V_mono (ok' := fun k_ => some k_ ≠ (.slice (some ad246) t242.length co44 : Value).ownBlock ∧ some k_ ≠ (.slice (some ad251) y248.length co47 : Value).ownBlock ∧ k_ ≠ gb233 ∧ k_ ≠ gb264) ho1 (fun k_ hk_ => ⟨(Kd.fresh' (Kd.R_lt (by (with_reducible repeat (first | apply Kd.R_alloc | apply Kd.R_drewN | apply Kd.R_drew)); exact HO_9.out)) k_ hk_), (Kd.fresh' (Kd.R_lt (by (with_reducible repeat (first | apply Kd.R_alloc | apply Kd.R_drewN | apply Kd.R_drew)); exact HO250.out)) k_ hk_), (Kd.freshB (g := gb233) (o := .cells #[.slice A0_0 l0_0.length c0_0, .int .i64 a0_1, .slice A0_2 l0_2.length c0_2] 25 (0, 0)) (by (with_reducible repeat (first | refine blk_drewN ?_ _ | refine blk_drew ?_ | refine blk_alloc ?_ _)); exact BK233.out) k_ hk_), (Kd.freshB (g := gb264) (o := .cells #[.slice none 0 0, .int .i64 0, .slice none 0 0] 25 (0, 0)) (by (with_reducible repeat (first | refine blk_drewN ?_ _ | refine blk_drew ?_ | refine blk_alloc ?_ _)); exact BK264.out) k_ hk_)⟩)) (below_size (by repeat (first | (with_reducible first | exact HB.out | apply below_alloc | apply pw_below_drewN | apply below_drew1 | refine below_set ?_ GE233.out | refine below_set ?_ GE264.out) | exact HB.out))))
                                      have n5_ := Aside0.mk (blk_below (g := gb233) (o := .cells #[.slice A0_0 l0_0.length c0_0, .int .i64 a0_1, .slice A0_2 l0_2.length c0_2] 25 (0, 0)) (by (with_reducible repeat (first | refine blk_drewN ?_ _ | refine blk_drew ?_ | refine blk_alloc ?_ _)); exact BK233.out) hb)
                                      have n6_ := Aside0.mk (blk_below (g := gb264) (o := .cells #[.slice none 0 0, .int .i64 0, .slice none 0 0] 25 (0, 0)) (by (with_reducible repeat (first | refine blk_drewN ?_ _ | refine blk_drew ?_ | refine blk_alloc ?_ _)); exact BK264.out) hb)
                                      have n7_ := Aside0.mk (below_step (by repeat (first | (with_reducible first | exact HB.out | apply below_alloc | apply pw_below_drewN | apply below_drew1 | refine below_set ?_ GE233.out | refine below_set ?_ GE264.out) | exact HB.out)) hb)
                                      clear HO_9
                                      clear HO250
                                      clear HO254
                                      clear BK233
                                      clear BK264
                                      clear HB
                                      have HO_9 := n0_
                                      have HO250 := n1_
                                      have HO254 := n2_
                                      have HO257 := n3_
                                      have HO261 := n4_
                                      have BK233 := n5_
                                      have BK264 := n6_
                                      have HB := n7_
                                      clear n0_ n1_ n2_ n3_ n4_ n5_ n6_ n7_
                                      (try clear hb)
                                      (try clear hb2)
                                      (try clear hk)
                                      (try clear hi)
                                      (try clear ho0)
                                      (try clear ho1)
                                      refine hK.out _ _ trivial (fun hHeld => ?_)
                                      clear hK K
                                      refine norm_ (a' := ?_) ?_ ?_
                                      rotate_left
                                      · show Act.put _ (some 83) _ = _
                                        simp only [Act.put, List.setIfInBounds_toArray, List.set_cons_zero, List.set_cons_succ, i64_w, i32_w]
                                        rfl
                                      refine pure_ (i := 11) (N := some 72) (v := ?_) (a' := ?_) #[true, true, true, true, true, true, true, true, true, true, true, true, false, false, false, true, false, false, false] rfl rfl (any_of HT_.out (by kernel_rfl)) (fun _ _ _ h => h) (Or.inl ⟨by rfl, ?_⟩) ?_ ?_
                                      rotate_left
                                      · intro w'
                                        go_simp
                                        with_reducible rfl
                                      rotate_left
                                      · simp only [Act.put, List.setIfInBounds_toArray, List.set_cons_zero, List.set_cons_succ, i64_w, i32_w]
                                        rfl
                                      refine pure_ (i := 12) (N := some 84) (v := ?_) (a' := ?_) #[true, true, true, true, true, true, true, true, true, true, true, true, true, false, false, true, false, false, false] rfl rfl (any_of HT_.out (by kernel_rfl)) (fun _ _ _ h => h) (Or.inl ⟨by rfl, ?_⟩) ?_ ?_
                                      rotate_left
                                      · intro w'
                                        go_simp
                                        with_reducible rfl
                                      rotate_left
                                      · simp only [Act.put, List.setIfInBounds_toArray, List.set_cons_zero, List.set_cons_succ, i64_w, i32_w]
                                        rfl
                                      refine pure_ (i := 13) (N := some 85) (v := ?_) (a' := ?_) #[true, true, true, true, true, true, true, true, true, true, true, true, true, true, false, true, false, false, false] rfl rfl (any_of HT_.out (by kernel_rfl)) (fun _ _ _ h => h) (Or.inl ⟨by rfl, ?_⟩) ?_ ?_
                                      rotate_left
                                      · intro w'
                                        go_simp
                                        with_reducible rfl
                                      rotate_left
                                      · simp only [Act.put, List.setIfInBounds_toArray, List.set_cons_zero, List.set_cons_succ, i64_w, i32_w]
                                        rfl
                                      refine pure_ (i := 14) (N := some 86) (v := ?_) (a' := ?_) #[true, true, true, true, true, true, true, true, true, true, true, true, true, true, true, true, false, false, false] rfl rfl (any_of HT_.out (by kernel_rfl)) (fun _ _ _ h => h) (Or.inl ⟨by rfl, ?_⟩) ?_ ?_
                                      rotate_left
                                      · intro w'
                                        go_simp
                                        with_reducible rfl
                                      rotate_left
                                      · simp only [Act.put, List.setIfInBounds_toArray, List.set_cons_zero, List.set_cons_succ, i64_w, i32_w]
                                        rfl
                                      exact norm_ (by simp only [putAll, Act.put, List.setIfInBounds_toArray, List.set_cons_zero, List.set_cons_succ]) (hCont (.slice Ao51 t252.length co51, v256, v260, gb264) _ ⟨(by (with_reducible repeat (first | apply Kd.R_alloc | apply Kd.R_drewN | apply Kd.R_drew)); exact HO250.out), (by (with_reducible repeat (first | apply Kd.V_alloc | apply Kd.V_drewN | apply Kd.V_drew)); exact Kd.V_mono HO254.out (fun _ hk => ⟨hk.2.1, ⟨hk.1, ⟨hk.2.2.1, hk.2.2.2⟩⟩⟩)), (by (with_reducible repeat (first | apply Kd.V_alloc | apply Kd.V_drewN | apply Kd.V_drew)); exact Kd.V_mono HO257.out (fun _ hk => ⟨hk.2.1, ⟨hk.1, ⟨hk.2.2.1, hk.2.2.2⟩⟩⟩)), (by (with_reducible repeat (first | apply Kd.V_alloc | apply Kd.V_drewN | apply Kd.V_drew)); exact Kd.V_mono HO261.out (fun _ hk => ⟨hk.2.1, ⟨hk.1, ⟨hk.2.2.1, hk.2.2.2⟩⟩⟩)), (by (with_reducible repeat (first | apply Kd.R_alloc | apply Kd.R_drewN | apply Kd.R_drew)); exact HO_9.out), (by (with_reducible repeat (first | refine blk_drewN ?_ _ | refine blk_drew ?_ | refine blk_alloc ?_ _)); exact BK233.out), (by (with_reducible repeat (first | refine blk_drewN ?_ _ | refine blk_drew ?_ | refine blk_alloc ?_ _)); exact BK264.out), GW264.out, GE264.out, NB233_264.out, NB264_233.out, (by repeat (first | (with_reducible first | exact HB.out | apply below_alloc | apply pw_below_drewN | apply below_drew1 | refine below_set ?_ GE233.out | refine below_set ?_ GE264.out) | exact HB.out))⟩)
                                  rintro ⟨v253, v256, v260, gb264⟩ w53 ⟨h0_, h1_, h2_, h3_, h4_, h5_, h6_, h7_, h8_, h9_, h10_, h11_⟩
                                  have n0_ : Aside0 (Kd.R Kd.string 9 w53 w.heap.size (fun _ => True) (.slice (some ad251) y248.length co47) y248) := ⟨h0_⟩
                                  have n1_ : Aside0 (Kd.V (Kd.int .u8) 5 w53 w.heap.size (fun k_ => some k_ ≠ (.slice (some ad251) y248.length co47 : Value).ownBlock ∧ some k_ ≠ (.slice (some ad246) t242.length co44 : Value).ownBlock ∧ k_ ≠ gb233 ∧ k_ ≠ gb264) v253 t252) := ⟨h1_⟩
                                  have n2_ : Aside0 (Kd.V k47 47 w53 w.heap.size (fun k_ => some k_ ≠ (.slice (some ad251) y248.length co47 : Value).ownBlock ∧ some k_ ≠ (.slice (some ad246) t242.length co44 : Value).ownBlock ∧ k_ ≠ gb233 ∧ k_ ≠ gb264) v256 t255) := ⟨h2_⟩
                                  have n3_ : Aside0 (Kd.V (Kd.slice 3 (Kd.int .i64)) 48 w53 w.heap.size (fun k_ => some k_ ≠ (.slice (some ad251) y248.length co47 : Value).ownBlock ∧ some k_ ≠ (.slice (some ad246) t242.length co44 : Value).ownBlock ∧ k_ ≠ gb233 ∧ k_ ≠ gb264) v260 t259) := ⟨h3_⟩
                                  have n4_ : Aside0 (Kd.R k40 40 w53 w.heap.size (fun _ => True) (.slice (some ad246) t242.length co44) t242) := ⟨h4_⟩
                                  have n5_ : Aside0 (w53.heap[gb233]? = some (.cells #[.slice A0_0 l0_0.length c0_0, .int .i64 a0_1, .slice A0_2 l0_2.length c0_2] 25 (0, 0))) := ⟨h5_⟩
                                  have n6_ : Aside0 (w53.heap[gb264]? = some (.cells #[.slice none 0 0, .int .i64 0, .slice none 0 0] 25 (0, 0))) := ⟨h6_⟩
                                  have n7_ : Aside0 (w.heap.size ≤ gb264) := ⟨h7_⟩
                                  have n8_ : Aside0 (w.heap.size ≤ gb264) := ⟨h8_⟩
                                  have n9_ : Aside0 (gb233 ≠ gb264) := ⟨h9_⟩
                                  have n10_ : Aside0 (gb264 ≠ gb233) := ⟨h10_⟩
                                  have n11_ : Aside0 (Below w.heap.size w w53) := ⟨h11_⟩
                                  clear HO_9
                                  clear HO250
                                  clear BK233
                                  clear HB
                                  clear h0_ h1_ h2_ h3_ h4_ h5_ h6_ h7_ h8_ h9_ h10_ h11_
                                  have HO250 := n0_
                                  have HO254 := n1_
                                  have HO257 := n2_
                                  have HO261 := n3_
                                  have HO_9 := n4_
                                  have BK233 := n5_
                                  have BK264 := n6_
                                  have GW264 := n7_
                                  have GE264 := n8_
                                  have NB233_264 := n9_
                                  have NB264_233 := n10_
                                  have HB := n11_
                                  clear n0_ n1_ n2_ n3_ n4_ n5_ n6_ n7_ n8_ n9_ n10_ n11_
                                  have hHeld := trivial
                                  obtain ⟨Ao54, co54, eo54⟩ := Kd.V_slice HO257.out
                                  (first | subst eo54 | (injection eo54 with f1_ f2_ f3_; have f4_ := f1_.symm; have f5_ := f3_.symm; clear f1_ f2_ f3_; subst f4_; subst f5_))
                                  obtain ⟨Ao57, co57, eo57⟩ := Kd.V_slice HO261.out
                                  (first | subst eo57 | (injection eo57 with f1_ f2_ f3_; have f4_ := f1_.symm; have f5_ := f3_.symm; clear f1_ f2_ f3_; subst f4_; subst f5_))
                                  refine norm_ (a' := ?_) ?_ ?_
                                  rotate_left
                                  · simp only [putAll, Act.put, List.setIfInBounds_toArray, List.set_cons_zero, List.set_cons_succ]
                                    rfl
                                  refine one_ (i := 16) (N := none) #[true, true, true, true, true, true, true, true, true, true, true, true, true, true, true, true, true, false, false] rfl rfl (one_of HT_.out (by kernel_rfl)) (by decide) (fun K hK => ?_)
                                  have hs55 : w53.cell? ⟨gb264, 0, none⟩ = some (.slice none 0 0) := (blk_cell BK264.out 0).trans rfl
                                  have hfs55 := blk_frozen BK264.out 0
                                  have hns55_0 := NB233_264.out
                                  have hms55_0 := NB264_233.out
                                  have hs56 : w53.cell? ⟨gb264, 1, none⟩ = some (.int .i64 0) := (blk_cell BK264.out 1).trans rfl
                                  have hfs56 := blk_frozen BK264.out 1
                                  have hns56_0 := NB233_264.out
                                  have hms56_0 := NB264_233.out
                                  have hs58 : w53.cell? ⟨gb264, 2, none⟩ = some (.slice none 0 0) := (blk_cell BK264.out 2).trans rfl
                                  have hfs58 := blk_frozen BK264.out 2
                                  have hns58_0 := NB233_264.out
                                  have hms58_0 := NB264_233.out
                                  refine skip_ (w1 := ?_) (by rfl) rfl ?_ ?_
                                  rotate_left
                                  · go_simp
                                    rfl
                                  refine hK.out _ _ trivial (fun hHeld => ?_)
                                  clear hK K
                                  refine pure_ (i := 17) (N := some 16) (v := ?_) (a' := ?_) #[true, true, true, true, true, true, true, true, true, true, true, true, true, true, true, true, true, true, false] rfl rfl (any_of HT_.out (by kernel_rfl)) (fun _ _ _ h => h) (Or.inl ⟨by rfl, ?_⟩) ?_ ?_
                                  rotate_left
                                  · intro w'
                                    go_simp
                                    with_reducible rfl
                                  rotate_left
                                  · simp only [Act.put, List.setIfInBounds_toArray, List.set_cons_zero, List.set_cons_succ, i64_w, i32_w]
                                    rfl
                                  refine pure_ (i := 18) (N := some 17) (v := ?_) (a' := ?_) #[true, true, true, true, true, true, true, true, true, true, true, true, true, true, true, true, true, true, true] rfl rfl (any_of HT_.out (by kernel_rfl)) (fun _ _ _ h => h) (Or.inl ⟨by rfl, ?_⟩) ?_ ?_
                                  rotate_left
                                  · intro w'
                                    go_simp
                                    with_reducible rfl
                                  rotate_left
                                  · simp only [Act.put, List.setIfInBounds_toArray, List.set_cons_zero, List.set_cons_succ, i64_w, i32_w]
                                    rfl
                                  refine done_ (done_of HT_.out (by kernel_rfl)) ?_
                                  go_upto_region 14 with (fail)
                                  go_cut [93] (fun v93 wc => ∃ (kq : Nat) (x93_42 : Bool), v93 = .bool x93_42 ∧ Aside0 (parquetlaw21_ObjectCut.j1 kq t236 t242 ji28 ((rd_T40 t242 (ji28)).f0) x93_42 = some r) ∧ Aside0 (kq ≤ kj14) ∧ Aside0 (Kd.R k40 40 wc w.heap.size (fun _ => True) (.slice (some ad246) t242.length co44) t242) ∧ Aside0 (Kd.V k47 47 wc w.heap.size (fun k_ => some k_ ≠ ((.slice (some ad246) t242.length co44) : Value).ownBlock ∧ k_ ≠ gb233 ∧ k_ ≠ gb264) (.slice Ao54 t255.length co54) t255) ∧ Aside0 (Kd.V (Kd.slice 3 (Kd.int .i64)) 48 wc w.heap.size (fun k_ => some k_ ≠ ((.slice (some ad246) t242.length co44) : Value).ownBlock ∧ k_ ≠ gb233 ∧ k_ ≠ gb264) (.slice Ao57 t259.length co57) t259) ∧ Aside0 (wc.heap[gb233]? = some (.cells #[(.slice A0_0 l0_0.length c0_0), .int .i64 a0_1, (.slice A0_2 l0_2.length c0_2)] 25 (0, 0))) ∧ Aside0 (wc.heap[gb264]? = some (.cells #[(.slice Ao54 t255.length co54), .int .i64 t258, (.slice Ao57 t259.length co57)] 25 (0, 0))) ∧ Aside0 (Below w.heap.size w wc))
                                  case first =>
                                    have H := HC43.out
                                    clear HC43
                                    by_cases c59 : t262 = ((rd_T40 t242 (ji28)).f0)
                                    · rw [if_pos c59] at H
                                      have c59b0 : (t262 == ((rd_T40 t242 (ji28)).f0)) = true := beq_iff_eq.mpr c59
                                      have c59b1 : (t262 != ((rd_T40 t242 (ji28)).f0)) = false := bne_eq_false_iff_eq.mpr c59
                                      clear c59
                                      (first | rw [c59b0] | (simp only [i64_w, i32_w]; rw [c59b0]) | skip)
                                      have H' := Aside0.mk H
                                      clear H
                                      go_wp2
                                      go_meet
                                      case rel => exact ⟨_, ((t263 != 11)), (by first | rfl | (simp; done) | (simp [*]; done)), H', ⟨by have := HJ14.out; first | omega | exact Nat.le_refl _⟩, ⟨by (with_reducible repeat (first | apply Kd.R_alloc | apply Kd.R_drewN | apply Kd.R_drew)); exact Kd.R_mono (Kd.R_far (p := ⟨gb264, 2, none⟩) (Kd.R_far (p := ⟨gb264, 1, none⟩) (Kd.R_far (p := ⟨gb264, 0, none⟩) (Kd.R_types HO_9.out BK264.out (by decide)) (fun _ hk => hk.2) (.slice Ao54 t255.length co54)) (fun _ hk => hk.2) (.int .i64 t258)) (fun _ hk => hk.2) (.slice Ao57 t259.length co57)) (fun _ hk => trivial)⟩, ⟨by (with_reducible repeat (first | apply Kd.V_alloc | apply Kd.V_drewN | apply Kd.V_drew)); exact Kd.V_mono (Kd.V_far (p := ⟨gb264, 2, none⟩) (Kd.V_far (p := ⟨gb264, 1, none⟩) (Kd.V_far (p := ⟨gb264, 0, none⟩) (Kd.V_mono HO257.out (fun k_ hk => (⟨hk, hk.2.2.2⟩ : _ ∧ k_ ≠ gb264))) (fun _ hk => hk.2) (.slice Ao54 t255.length co54)) (fun _ hk => hk.2) (.int .i64 t258)) (fun _ hk => hk.2) (.slice Ao57 t259.length co57)) (fun _ hk => ⟨hk.1.2.1, ⟨hk.1.2.2.1, hk.1.2.2.2⟩⟩)⟩, ⟨by (with_reducible repeat (first | apply Kd.V_alloc | apply Kd.V_drewN | apply Kd.V_drew)); exact Kd.V_mono (Kd.V_far (p := ⟨gb264, 2, none⟩) (Kd.V_far (p := ⟨gb264, 1, none⟩) (Kd.V_far (p := ⟨gb264, 0, none⟩) (Kd.V_mono HO261.out (fun k_ hk => (⟨hk, hk.2.2.2⟩ : _ ∧ k_ ≠ gb264))) (fun _ hk => hk.2) (.slice Ao54 t255.length co54)) (fun _ hk => hk.2) (.int .i64 t258)) (fun _ hk => hk.2) (.slice Ao57 t259.length co57)) (fun _ hk => ⟨hk.1.2.1, ⟨hk.1.2.2.1, hk.1.2.2.2⟩⟩)⟩, ⟨by (with_reducible repeat (first | refine blk_drewN ?_ _ | refine blk_drew ?_ | refine blk_alloc ?_ _)); refine blk_far ?_ NB233_264.out _; (with_reducible repeat (first | refine blk_drewN ?_ _ | refine blk_drew ?_ | refine blk_alloc ?_ _)); refine blk_far ?_ NB233_264.out _; (with_reducible repeat (first | refine blk_drewN ?_ _ | refine blk_drew ?_ | refine blk_alloc ?_ _)); refine blk_far ?_ NB233_264.out _; (with_reducible repeat (first | refine blk_drewN ?_ _ | refine blk_drew ?_ | refine blk_alloc ?_ _)); exact BK233.out⟩, ⟨by (with_reducible repeat (first | refine blk_drewN ?_ _ | refine blk_drew ?_ | refine blk_alloc ?_ _)); refine blk_put (cs := #[.slice Ao54 t255.length co54, .int .i64 t258, .slice none 0 0]) ?_ 2 _ rfl; (with_reducible repeat (first | refine blk_drewN ?_ _ | refine blk_drew ?_ | refine blk_alloc ?_ _)); refine blk_put (cs := #[.slice Ao54 t255.length co54, .int .i64 0, .slice none 0 0]) ?_ 1 _ rfl; (with_reducible repeat (first | refine blk_drewN ?_ _ | refine blk_drew ?_ | refine blk_alloc ?_ _)); refine blk_put (cs := #[.slice none 0 0, .int .i64 0, .slice none 0 0]) ?_ 0 _ rfl; (with_reducible repeat (first | refine blk_drewN ?_ _ | refine blk_drew ?_ | refine blk_alloc ?_ _)); exact BK264.out⟩, ⟨by repeat (first | (with_reducible first | exact HB.out | apply below_alloc | apply pw_below_drewN | apply below_drew1 | refine below_set ?_ GE233.out | refine below_set ?_ GE264.out) | exact HB.out)⟩⟩
                                    · rw [if_neg c59] at H
                                      have c59b0 : (t262 == ((rd_T40 t242 (ji28)).f0)) = false := beq_eq_false_iff_ne.mpr c59
                                      have c59b1 : (t262 != ((rd_T40 t242 (ji28)).f0)) = true := bne_iff_ne.mpr c59
                                      (first | rw [c59b0] | (simp only [i64_w, i32_w]; rw [c59b0]) | skip)
                                      have H' := Aside0.mk H
                                      clear H
                                      go_wp2
                                      go_meet
                                      case rel => exact ⟨_, (true), (by first | rfl | (simp; done) | (simp [*]; done)), H', ⟨by have := HJ14.out; first | omega | exact Nat.le_refl _⟩, ⟨by (with_reducible repeat (first | apply Kd.R_alloc | apply Kd.R_drewN | apply Kd.R_drew)); exact Kd.R_mono (Kd.R_far (p := ⟨gb264, 2, none⟩) (Kd.R_far (p := ⟨gb264, 1, none⟩) (Kd.R_far (p := ⟨gb264, 0, none⟩) (Kd.R_types HO_9.out BK264.out (by decide)) (fun _ hk => hk.2) (.slice Ao54 t255.length co54)) (fun _ hk => hk.2) (.int .i64 t258)) (fun _ hk => hk.2) (.slice Ao57 t259.length co57)) (fun _ hk => trivial)⟩, ⟨by (with_reducible repeat (first | apply Kd.V_alloc | apply Kd.V_drewN | apply Kd.V_drew)); exact Kd.V_mono (Kd.V_far (p := ⟨gb264, 2, none⟩) (Kd.V_far (p := ⟨gb264, 1, none⟩) (Kd.V_far (p := ⟨gb264, 0, none⟩) (Kd.V_mono HO257.out (fun k_ hk => (⟨hk, hk.2.2.2⟩ : _ ∧ k_ ≠ gb264))) (fun _ hk => hk.2) (.slice Ao54 t255.length co54)) (fun _ hk => hk.2) (.int .i64 t258)) (fun _ hk => hk.2) (.slice Ao57 t259.length co57)) (fun _ hk => ⟨hk.1.2.1, ⟨hk.1.2.2.1, hk.1.2.2.2⟩⟩)⟩, ⟨by (with_reducible repeat (first | apply Kd.V_alloc | apply Kd.V_drewN | apply Kd.V_drew)); exact Kd.V_mono (Kd.V_far (p := ⟨gb264, 2, none⟩) (Kd.V_far (p := ⟨gb264, 1, none⟩) (Kd.V_far (p := ⟨gb264, 0, none⟩) (Kd.V_mono HO261.out (fun k_ hk => (⟨hk, hk.2.2.2⟩ : _ ∧ k_ ≠ gb264))) (fun _ hk => hk.2) (.slice Ao54 t255.length co54)) (fun _ hk => hk.2) (.int .i64 t258)) (fun _ hk => hk.2) (.slice Ao57 t259.length co57)) (fun _ hk => ⟨hk.1.2.1, ⟨hk.1.2.2.1, hk.1.2.2.2⟩⟩)⟩, ⟨by (with_reducible repeat (first | refine blk_drewN ?_ _ | refine blk_drew ?_ | refine blk_alloc ?_ _)); refine blk_far ?_ NB233_264.out _; (with_reducible repeat (first | refine blk_drewN ?_ _ | refine blk_drew ?_ | refine blk_alloc ?_ _)); refine blk_far ?_ NB233_264.out _; (with_reducible repeat (first | refine blk_drewN ?_ _ | refine blk_drew ?_ | refine blk_alloc ?_ _)); refine blk_far ?_ NB233_264.out _; (with_reducible repeat (first | refine blk_drewN ?_ _ | refine blk_drew ?_ | refine blk_alloc ?_ _)); exact BK233.out⟩, ⟨by (with_reducible repeat (first | refine blk_drewN ?_ _ | refine blk_drew ?_ | refine blk_alloc ?_ _)); refine blk_put (cs := #[.slice Ao54 t255.length co54, .int .i64 t258, .slice none 0 0]) ?_ 2 _ rfl; (with_reducible repeat (first | refine blk_drewN ?_ _ | refine blk_drew ?_ | refine blk_alloc ?_ _)); refine blk_put (cs := #[.slice Ao54 t255.length co54, .int .i64 0, .slice none 0 0]) ?_ 1 _ rfl; (with_reducible repeat (first | refine blk_drewN ?_ _ | refine blk_drew ?_ | refine blk_alloc ?_ _)); refine blk_put (cs := #[.slice none 0 0, .int .i64 0, .slice none 0 0]) ?_ 0 _ rfl; (with_reducible repeat (first | refine blk_drewN ?_ _ | refine blk_drew ?_ | refine blk_alloc ?_ _)); exact BK264.out⟩, ⟨by repeat (first | (with_reducible first | exact HB.out | apply below_alloc | apply pw_below_drewN | apply below_drew1 | refine below_set ?_ GE233.out | refine below_set ?_ GE264.out) | exact HB.out)⟩⟩
                                  case rest =>
                                    clear HC43
                                    try clear c1
                                    try clear p2
                                    try clear c5
                                    try clear c10
                                    try clear c59
                                    try clear c59b0
                                    try clear c59b1
                                    obtain ⟨kq, x93_42, rfl, HA, HJ42, HO_9, HO_265000, HO_265002, BK233, BK264, HB⟩ := hcut
                                    cases kq with
                                    | zero => exact absurd HA.out (by simp [parquetlaw21_ObjectCut.j1])
                                    | succ kj42 =>
                                      have H := HA.out
                                      clear HA
                                      simp only [parquetlaw21_ObjectCut.j1] at H
                                      by_cases c60 : x93_42 = true
                                      · subst c60
                                        have H1 : (none) = some r := by rw [if_pos rfl] at H; exact H
                                        clear H
                                        have H := H1
                                        clear H1
                                        exact absurd H (by simp)
                                      · replace c60 := Bool.eq_false_iff.mpr c60
                                        subst c60
                                        have H1 : (parquetlaw21_ObjectCut.l0 kj42 t236 t242 ji28 ((rd_T40 t242 (ji28)).f0) ji28) = some r := by rw [if_neg (show ¬ (false = true) by decide)] at H; exact H
                                        clear H
                                        have H := H1
                                        clear H1
                                        have HC61 := Aside0.mk H
                                        clear H
                                        go_upto_block 0 with (fail)
                                        go_cut [18] (fun v18 wc => ∃ (kq : Nat) (x18_60 : Int), v18 = .int .i64 x18_60 ∧ Aside0 (parquetlaw21_ObjectCut.j3 kq t236 t242 ji28 ((rd_T40 t242 (ji28)).f0) x18_60 = some r) ∧ Aside0 (kq ≤ kj42) ∧ Aside0 (Kd.R k40 40 wc w.heap.size (fun _ => True) (.slice (some ad246) t242.length co44) t242) ∧ Aside0 (Kd.V k47 47 wc w.heap.size (fun k_ => some k_ ≠ ((.slice (some ad246) t242.length co44) : Value).ownBlock ∧ k_ ≠ gb233 ∧ k_ ≠ gb264) (.slice Ao54 t255.length co54) t255) ∧ Aside0 (Kd.V (Kd.slice 3 (Kd.int .i64)) 48 wc w.heap.size (fun k_ => some k_ ≠ ((.slice (some ad246) t242.length co44) : Value).ownBlock ∧ k_ ≠ gb233 ∧ k_ ≠ gb264) (.slice Ao57 t259.length co57) t259) ∧ Aside0 (wc.heap[gb233]? = some (.cells #[(.slice A0_0 l0_0.length c0_0), .int .i64 a0_1, (.slice A0_2 l0_2.length c0_2)] 25 (0, 0))) ∧ Aside0 (wc.heap[gb264]? = some (.cells #[(.slice Ao54 t255.length co54), .int .i64 t258, (.slice Ao57 t259.length co57)] 25 (0, 0))) ∧ Aside0 (Below w.heap.size w wc))
                                        case first =>
                                          have H := HC61.out
                                          clear HC61
                                          have H' := Aside0.mk H
                                          clear H
                                          go_wp2
                                          go_loopg [18] kj42 (fun kq v18 w' => ∃ (x18_3 : Int), v18 = .int .i64 x18_3 ∧ Aside0 (parquetlaw21_ObjectCut.l0 kq t236 t242 ji28 ((rd_T40 t242 (ji28)).f0) x18_3 = some r) ∧ Aside0 (kq ≤ kj42) ∧ Aside0 (Kd.R k40 40 w' w.heap.size (fun _ => True) (.slice (some ad246) t242.length co44) t242) ∧ Aside0 (Kd.V k47 47 w' w.heap.size (fun k_ => some k_ ≠ ((.slice (some ad246) t242.length co44) : Value).ownBlock ∧ k_ ≠ gb233 ∧ k_ ≠ gb264) (.slice Ao54 t255.length co54) t255) ∧ Aside0 (Kd.V (Kd.slice 3 (Kd.int .i64)) 48 w' w.heap.size (fun k_ => some k_ ≠ ((.slice (some ad246) t242.length co44) : Value).ownBlock ∧ k_ ≠ gb233 ∧ k_ ≠ gb264) (.slice Ao57 t259.length co57) t259) ∧ Aside0 (w'.heap[gb233]? = some (.cells #[(.slice A0_0 l0_0.length c0_0), .int .i64 a0_1, (.slice A0_2 l0_2.length c0_2)] 25 (0, 0))) ∧ Aside0 (w'.heap[gb264]? = some (.cells #[(.slice Ao54 t255.length co54), .int .i64 t258, (.slice Ao57 t259.length co57)] 25 (0, 0))) ∧ Aside0 (Below w.heap.size w w'))
                                          case atStart => exact ⟨(ji28), (by first | rfl | (simp; done) | (simp only [← hji28] <;> (first | rfl | simp)) | (simp [*]; done)), H', ⟨Nat.le_refl _⟩, ⟨by (with_reducible repeat (first | apply Kd.R_alloc | apply Kd.R_drewN | apply Kd.R_drew)); exact HO_9.out⟩, ⟨by (with_reducible repeat (first | apply Kd.V_alloc | apply Kd.V_drewN | apply Kd.V_drew)); exact HO_265000.out⟩, ⟨by (with_reducible repeat (first | apply Kd.V_alloc | apply Kd.V_drewN | apply Kd.V_drew)); exact HO_265002.out⟩, ⟨by (with_reducible repeat (first | refine blk_drewN ?_ _ | refine blk_drew ?_ | refine blk_alloc ?_ _)); exact BK233.out⟩, ⟨by (with_reducible repeat (first | refine blk_drewN ?_ _ | refine blk_drew ?_ | refine blk_alloc ?_ _)); exact BK264.out⟩, ⟨by repeat (first | (with_reducible first | exact HB.out | apply below_alloc | apply pw_below_drewN | apply below_drew1 | refine below_set ?_ GE233.out | refine below_set ?_ GE264.out) | exact HB.out)⟩⟩
                                          case round =>
                                            clear H'
                                            try clear c1
                                            try clear p2
                                            try clear c5
                                            try clear c6
                                            try clear c10
                                            try clear c59
                                            try clear c59b0
                                            try clear c59b1
                                            try clear c60
                                            try clear p2
                                            obtain ⟨x18_3, rfl, HA, HK3, HO_9, HO_265000, HO_265002, BK233, BK264, HB⟩ := hrel
                                            cases gk with
                                            | zero => exact absurd HA.out (by simp [parquetlaw21_ObjectCut.l0])
                                            | succ k3 =>
                                              have H := HA.out
                                              clear HA
                                              simp only [parquetlaw21_ObjectCut.l0] at H
                                              by_cases c62 : x18_3 > 0
                                              · rw [if_pos c62] at H
                                                have c62b0 : decide (0 < x18_3) = true := decide_eq_true c62
                                                clear c62
                                                (first | rw [c62b0] | (simp only [i64_w, i32_w]; rw [c62b0]) | skip)
                                                by_cases c63 : 0 ≤ x18_3
                                                · rw [if_pos c63] at H
                                                  have c63b0 : decide (0 ≤ x18_3) = true := decide_eq_true c63
                                                  clear c63
                                                  by_cases c64 : x18_3 < (t242.length : Int)
                                                  · rw [if_pos c64] at H
                                                    have c64b0 : decide (x18_3 < (t242.length : Int)) = true := decide_eq_true c64
                                                    clear c64
                                                    by_cases c65 : ((rd_T40 t242 x18_3).f1).toList = ([118] : List UInt8)
                                                    · rw [if_pos c65] at H
                                                      have c65b0 : (((rd_T40 t242 x18_3).f1).toList == ([118] : List UInt8)) = true := beq_iff_eq.mpr c65
                                                      have c65b1 : (((rd_T40 t242 x18_3).f1).toList != ([118] : List UInt8)) = false := bne_eq_false_iff_eq.mpr c65
                                                      clear c65
                                                      have H' := Aside0.mk H
                                                      clear H
                                                      have p265 : 0 ≤ (x18_3 : Int) := of_decide_eq_true (by first | (with_reducible assumption) | assumption)
                                                      have q265 : x18_3 < (t242.length : Int) := of_decide_eq_true (by first | (with_reducible assumption) | assumption)
                                                      obtain ⟨ad265, e265, hx265_0, hx265_1⟩ := at_T40 (Kd.R_reads' HO_9.out).2.2 x18_3 p265 q265
                                                      obtain rfl : ad246 = ad265 := (by injection e265)
                                                      replace p265 := eq_true p265
                                                      replace q265 := eq_true q265
                                                      go_wp2
                                                      go_meet
                                                      case rel => exact ⟨_, (x18_3), (by first | rfl | (simp; done) | (simp [*]; done)), H', ⟨by have := HJ14.out; have := HJ42.out; have := HK3.out; first | omega | exact Nat.le_refl _⟩, ⟨by (with_reducible repeat (first | apply Kd.R_alloc | apply Kd.R_drewN | apply Kd.R_drew)); exact HO_9.out⟩, ⟨by (with_reducible repeat (first | apply Kd.V_alloc | apply Kd.V_drewN | apply Kd.V_drew)); exact HO_265000.out⟩, ⟨by (with_reducible repeat (first | apply Kd.V_alloc | apply Kd.V_drewN | apply Kd.V_drew)); exact HO_265002.out⟩, ⟨by (with_reducible repeat (first | refine blk_drewN ?_ _ | refine blk_drew ?_ | refine blk_alloc ?_ _)); exact BK233.out⟩, ⟨by (with_reducible repeat (first | refine blk_drewN ?_ _ | refine blk_drew ?_ | refine blk_alloc ?_ _)); exact BK264.out⟩, ⟨by repeat (first | (with_reducible first | exact HB.out | apply below_alloc | apply pw_below_drewN | apply below_drew1 | refine below_set ?_ GE233.out | refine below_set ?_ GE264.out) | exact HB.out)⟩⟩
                                                    · rw [if_neg c65] at H
                                                      have c65b0 : (((rd_T40 t242 x18_3).f1).toList == ([118] : List UInt8)) = false := beq_eq_false_iff_ne.mpr c65
                                                      have c65b1 : (((rd_T40 t242 x18_3).f1).toList != ([118] : List UInt8)) = true := bne_iff_ne.mpr c65
                                                      by_cases c66 : ((rd_T40 t242 x18_3).f1).toList = ([102] : List UInt8)
                                                      · rw [if_pos c66] at H
                                                        have c66b0 : (((rd_T40 t242 x18_3).f1).toList == ([102] : List UInt8)) = true := beq_iff_eq.mpr c66
                                                        have c66b1 : (((rd_T40 t242 x18_3).f1).toList != ([102] : List UInt8)) = false := bne_eq_false_iff_eq.mpr c66
                                                        clear c66
                                                        have H' := Aside0.mk H
                                                        clear H
                                                        have p265 : 0 ≤ (x18_3 : Int) := of_decide_eq_true (by first | (with_reducible assumption) | assumption)
                                                        have q265 : x18_3 < (t242.length : Int) := of_decide_eq_true (by first | (with_reducible assumption) | assumption)
                                                        obtain ⟨ad265, e265, hx265_0, hx265_1⟩ := at_T40 (Kd.R_reads' HO_9.out).2.2 x18_3 p265 q265
                                                        obtain rfl : ad246 = ad265 := (by injection e265)
                                                        replace p265 := eq_true p265
                                                        replace q265 := eq_true q265
                                                        have p266 : 0 ≤ (x18_3 : Int) := of_decide_eq_true (by first | (with_reducible assumption) | assumption)
                                                        have q266 : x18_3 < (t242.length : Int) := of_decide_eq_true (by first | (with_reducible assumption) | assumption)
                                                        obtain ⟨ad266, e266, hx266_0, hx266_1⟩ := at_T40 (Kd.R_reads' HO_9.out).2.2 x18_3 p266 q266
                                                        obtain rfl : ad246 = ad266 := (by injection e266)
                                                        replace p266 := eq_true p266
                                                        replace q266 := eq_true q266
                                                        go_wp2
                                                        go_meet
                                                        case rel => exact ⟨_, (x18_3), (by first | rfl | (simp; done) | (simp [*]; done)), H', ⟨by have := HJ14.out; have := HJ42.out; have := HK3.out; first | omega | exact Nat.le_refl _⟩, ⟨by (with_reducible repeat (first | apply Kd.R_alloc | apply Kd.R_drewN | apply Kd.R_drew)); exact HO_9.out⟩, ⟨by (with_reducible repeat (first | apply Kd.V_alloc | apply Kd.V_drewN | apply Kd.V_drew)); exact HO_265000.out⟩, ⟨by (with_reducible repeat (first | apply Kd.V_alloc | apply Kd.V_drewN | apply Kd.V_drew)); exact HO_265002.out⟩, ⟨by (with_reducible repeat (first | refine blk_drewN ?_ _ | refine blk_drew ?_ | refine blk_alloc ?_ _)); exact BK233.out⟩, ⟨by (with_reducible repeat (first | refine blk_drewN ?_ _ | refine blk_drew ?_ | refine blk_alloc ?_ _)); exact BK264.out⟩, ⟨by repeat (first | (with_reducible first | exact HB.out | apply below_alloc | apply pw_below_drewN | apply below_drew1 | refine below_set ?_ GE233.out | refine below_set ?_ GE264.out) | exact HB.out)⟩⟩
                                                      · rw [if_neg c66] at H
                                                        have c66b0 : (((rd_T40 t242 x18_3).f1).toList == ([102] : List UInt8)) = false := beq_eq_false_iff_ne.mpr c66
                                                        have c66b1 : (((rd_T40 t242 x18_3).f1).toList != ([102] : List UInt8)) = true := bne_iff_ne.mpr c66
                                                        have H' := Aside0.mk H
                                                        clear H
                                                        have p265 : 0 ≤ (x18_3 : Int) := of_decide_eq_true (by first | (with_reducible assumption) | assumption)
                                                        have q265 : x18_3 < (t242.length : Int) := of_decide_eq_true (by first | (with_reducible assumption) | assumption)
                                                        obtain ⟨ad265, e265, hx265_0, hx265_1⟩ := at_T40 (Kd.R_reads' HO_9.out).2.2 x18_3 p265 q265
                                                        obtain rfl : ad246 = ad265 := (by injection e265)
                                                        replace p265 := eq_true p265
                                                        replace q265 := eq_true q265
                                                        have p266 : 0 ≤ (x18_3 : Int) := of_decide_eq_true (by first | (with_reducible assumption) | assumption)
                                                        have q266 : x18_3 < (t242.length : Int) := of_decide_eq_true (by first | (with_reducible assumption) | assumption)
                                                        obtain ⟨ad266, e266, hx266_0, hx266_1⟩ := at_T40 (Kd.R_reads' HO_9.out).2.2 x18_3 p266 q266
                                                        obtain rfl : ad246 = ad266 := (by injection e266)
                                                        replace p266 := eq_true p266
                                                        replace q266 := eq_true q266
                                                        go_wp2
                                                        go_roundg k3
                                                        case measure => have := HJ14.out; have := HJ42.out; have := HK3.out; omega
                                                        case rel => exact ⟨(wrap64 (x18_3 - 1)), (by first | rfl | (simp; done) | (simp [*]; done)), H', ⟨by have := HJ14.out; have := HJ42.out; have := HK3.out; omega⟩, ⟨by (with_reducible repeat (first | apply Kd.R_alloc | apply Kd.R_drewN | apply Kd.R_drew)); exact HO_9.out⟩, ⟨by (with_reducible repeat (first | apply Kd.V_alloc | apply Kd.V_drewN | apply Kd.V_drew)); exact HO_265000.out⟩, ⟨by (with_reducible repeat (first | apply Kd.V_alloc | apply Kd.V_drewN | apply Kd.V_drew)); exact HO_265002.out⟩, ⟨by (with_reducible repeat (first | refine blk_drewN ?_ _ | refine blk_drew ?_ | refine blk_alloc ?_ _)); exact BK233.out⟩, ⟨by (with_reducible repeat (first | refine blk_drewN ?_ _ | refine blk_drew ?_ | refine blk_alloc ?_ _)); exact BK264.out⟩, ⟨by repeat (first | (with_reducible first | exact HB.out | apply below_alloc | apply pw_below_drewN | apply below_drew1 | refine below_set ?_ GE233.out | refine below_set ?_ GE264.out) | exact HB.out)⟩⟩
                                                  · rw [if_neg c64] at H
                                                    exact absurd H (by simp)
                                                · rw [if_neg c63] at H
                                                  exact absurd H (by simp)
                                              · rw [if_neg c62] at H
                                                have c62b0 : decide (0 < x18_3) = false := decide_eq_false c62
                                                clear c62
                                                (first | rw [c62b0] | (simp only [i64_w, i32_w]; rw [c62b0]) | skip)
                                                have H' := Aside0.mk H
                                                clear H
                                                go_wp2
                                                go_meet
                                                case rel => exact ⟨_, (x18_3), (by first | rfl | (simp; done) | (simp [*]; done)), H', ⟨by have := HJ14.out; have := HJ42.out; have := HK3.out; first | omega | exact Nat.le_refl _⟩, ⟨by (with_reducible repeat (first | apply Kd.R_alloc | apply Kd.R_drewN | apply Kd.R_drew)); exact HO_9.out⟩, ⟨by (with_reducible repeat (first | apply Kd.V_alloc | apply Kd.V_drewN | apply Kd.V_drew)); exact HO_265000.out⟩, ⟨by (with_reducible repeat (first | apply Kd.V_alloc | apply Kd.V_drewN | apply Kd.V_drew)); exact HO_265002.out⟩, ⟨by (with_reducible repeat (first | refine blk_drewN ?_ _ | refine blk_drew ?_ | refine blk_alloc ?_ _)); exact BK233.out⟩, ⟨by (with_reducible repeat (first | refine blk_drewN ?_ _ | refine blk_drew ?_ | refine blk_alloc ?_ _)); exact BK264.out⟩, ⟨by repeat (first | (with_reducible first | exact HB.out | apply below_alloc | apply pw_below_drewN | apply below_drew1 | refine below_set ?_ GE233.out | refine below_set ?_ GE264.out) | exact HB.out)⟩⟩
                                        case rest =>
                                          clear HC61
                                          try clear c1
                                          try clear p2
                                          try clear q2
                                          try clear hx2
                                          try clear c5
                                          try clear c6
                                          try clear p6
                                          try clear c10
                                          try clear p26
                                          try clear q26
                                          try clear hx26
                                          try clear c59
                                          try clear c59b0
                                          try clear c59b1
                                          try clear c60
                                          try clear c62
                                          try clear c62b0
                                          try clear c63
                                          try clear c63b0
                                          try clear c64
                                          try clear c64b0
                                          try clear p64
                                          try clear c65
                                          try clear c65b0
                                          try clear c65b1
                                          try clear c66
                                          try clear c66b0
                                          try clear c66b1
                                          try clear hx265_0
                                          try clear hx265_1
                                          try clear hx266_0
                                          try clear hx266_1
                                          try clear p2
                                          try clear p265
                                          try clear p266
                                          try clear q265
                                          try clear q266
                                          obtain ⟨kq, x18_60, rfl, HA, HJ60, HO_9, HO_265000, HO_265002, BK233, BK264, HB⟩ := hcut
                                          cases kq with
                                          | zero => exact absurd HA.out (by simp [parquetlaw21_ObjectCut.j3])
                                          | succ kj60 =>
                                            have H := HA.out
                                            clear HA
                                            simp only [parquetlaw21_ObjectCut.j3] at H
                                            have HC67 := Aside0.mk H
                                            clear H
                                            go_upto_region 19 with (fail)
                                            go_cut [131] (fun v131 wc => ∃ (kq : Nat) (x131_66 : Bool), v131 = .bool x131_66 ∧ Aside0 (parquetlaw21_ObjectCut.j4 kq t236 ((rd_T40 t242 (ji28)).f0) x131_66 = some r) ∧ Aside0 (kq ≤ kj60) ∧ Aside0 (Kd.V k47 47 wc w.heap.size (fun k_ => k_ ≠ gb233 ∧ k_ ≠ gb264) (.slice Ao54 t255.length co54) t255) ∧ Aside0 (Kd.V (Kd.slice 3 (Kd.int .i64)) 48 wc w.heap.size (fun k_ => k_ ≠ gb233 ∧ k_ ≠ gb264) (.slice Ao57 t259.length co57) t259) ∧ Aside0 (wc.heap[gb233]? = some (.cells #[(.slice A0_0 l0_0.length c0_0), .int .i64 a0_1, (.slice A0_2 l0_2.length c0_2)] 25 (0, 0))) ∧ Aside0 (wc.heap[gb264]? = some (.cells #[(.slice Ao54 t255.length co54), .int .i64 t258, (.slice Ao57 t259.length co57)] 25 (0, 0))) ∧ Aside0 (Below w.heap.size w wc))
                                            case first =>
                                              have H := HC67.out
                                              clear HC67
                                              by_cases c68 : x18_60 = ji28
                                              · rw [if_pos c68] at H
                                                have c68b0 : (x18_60 == ji28) = true := beq_iff_eq.mpr c68
                                                have c68b1 : (x18_60 != ji28) = false := bne_eq_false_iff_eq.mpr c68
                                                clear c68
                                                (first | rw [c68b0] | (simp only [i64_w, i32_w]; rw [c68b0]) | skip)
                                                have H' := Aside0.mk H
                                                clear H
                                                go_wp2
                                                go_meet
                                                case rel => exact ⟨_, (true), (by first | rfl | (simp; done) | (simp [*]; done)), H', ⟨by have := HJ14.out; have := HJ42.out; have := HJ60.out; first | omega | exact Nat.le_refl _⟩, ⟨by (with_reducible repeat (first | apply Kd.V_alloc | apply Kd.V_drewN | apply Kd.V_drew)); exact Kd.V_mono HO_265000.out (fun _ hk => ⟨hk.2.1, hk.2.2⟩)⟩, ⟨by (with_reducible repeat (first | apply Kd.V_alloc | apply Kd.V_drewN | apply Kd.V_drew)); exact Kd.V_mono HO_265002.out (fun _ hk => ⟨hk.2.1, hk.2.2⟩)⟩, ⟨by (with_reducible repeat (first | refine blk_drewN ?_ _ | refine blk_drew ?_ | refine blk_alloc ?_ _)); exact BK233.out⟩, ⟨by (with_reducible repeat (first | refine blk_drewN ?_ _ | refine blk_drew ?_ | refine blk_alloc ?_ _)); exact BK264.out⟩, ⟨by repeat (first | (with_reducible first | exact HB.out | apply below_alloc | apply pw_below_drewN | apply below_drew1 | refine below_set ?_ GE233.out | refine below_set ?_ GE264.out) | exact HB.out)⟩⟩
                                              · rw [if_neg c68] at H
                                                have c68b0 : (x18_60 == ji28) = false := beq_eq_false_iff_ne.mpr c68
                                                have c68b1 : (x18_60 != ji28) = true := bne_iff_ne.mpr c68
                                                (first | rw [c68b0] | (simp only [i64_w, i32_w]; rw [c68b0]) | skip)
                                                by_cases c69 : (wrap64 (ji28 - x18_60)) = 4
                                                · rw [if_pos c69] at H
                                                  have c69b0 : ((wrap64 (ji28 - x18_60)) == 4) = true := beq_iff_eq.mpr c69
                                                  have c69b1 : ((wrap64 (ji28 - x18_60)) != 4) = false := bne_eq_false_iff_eq.mpr c69
                                                  clear c69
                                                  by_cases c70 : 0 ≤ x18_60
                                                  · rw [if_pos c70] at H
                                                    have c70b0 : decide (0 ≤ x18_60) = true := decide_eq_true c70
                                                    clear c70
                                                    by_cases c71 : x18_60 < (t242.length : Int)
                                                    · rw [if_pos c71] at H
                                                      have c71b0 : decide (x18_60 < (t242.length : Int)) = true := decide_eq_true c71
                                                      clear c71
                                                      have H' := Aside0.mk H
                                                      clear H
                                                      have p267 : 0 ≤ (x18_60 : Int) := of_decide_eq_true (by first | (with_reducible assumption) | assumption)
                                                      have q267 : x18_60 < (t242.length : Int) := of_decide_eq_true (by first | (with_reducible assumption) | assumption)
                                                      obtain ⟨ad267, e267, hx267_0, hx267_1⟩ := at_T40 (Kd.R_reads' HO_9.out).2.2 x18_60 p267 q267
                                                      obtain rfl : ad246 = ad267 := (by injection e267)
                                                      replace p267 := eq_true p267
                                                      replace q267 := eq_true q267
                                                      go_wp2
                                                      go_meet
                                                      case rel => exact ⟨_, ((((rd_T40 t242 x18_60).f1).toList == ([102] : List UInt8))), (by first | rfl | (simp; done) | (simp [*]; done)), H', ⟨by have := HJ14.out; have := HJ42.out; have := HJ60.out; first | omega | exact Nat.le_refl _⟩, ⟨by (with_reducible repeat (first | apply Kd.V_alloc | apply Kd.V_drewN | apply Kd.V_drew)); exact Kd.V_mono HO_265000.out (fun _ hk => ⟨hk.2.1, hk.2.2⟩)⟩, ⟨by (with_reducible repeat (first | apply Kd.V_alloc | apply Kd.V_drewN | apply Kd.V_drew)); exact Kd.V_mono HO_265002.out (fun _ hk => ⟨hk.2.1, hk.2.2⟩)⟩, ⟨by (with_reducible repeat (first | refine blk_drewN ?_ _ | refine blk_drew ?_ | refine blk_alloc ?_ _)); exact BK233.out⟩, ⟨by (with_reducible repeat (first | refine blk_drewN ?_ _ | refine blk_drew ?_ | refine blk_alloc ?_ _)); exact BK264.out⟩, ⟨by repeat (first | (with_reducible first | exact HB.out | apply below_alloc | apply pw_below_drewN | apply below_drew1 | refine below_set ?_ GE233.out | refine below_set ?_ GE264.out) | exact HB.out)⟩⟩
                                                    · rw [if_neg c71] at H
                                                      exact absurd H (by simp)
                                                  · rw [if_neg c70] at H
                                                    exact absurd H (by simp)
                                                · rw [if_neg c69] at H
                                                  have c69b0 : ((wrap64 (ji28 - x18_60)) == 4) = false := beq_eq_false_iff_ne.mpr c69
                                                  have c69b1 : ((wrap64 (ji28 - x18_60)) != 4) = true := bne_iff_ne.mpr c69
                                                  have H' := Aside0.mk H
                                                  clear H
                                                  go_wp2
                                                  go_meet
                                                  case rel => exact ⟨_, (false), (by first | rfl | (simp; done) | (simp [*]; done)), H', ⟨by have := HJ14.out; have := HJ42.out; have := HJ60.out; first | omega | exact Nat.le_refl _⟩, ⟨by (with_reducible repeat (first | apply Kd.V_alloc | apply Kd.V_drewN | apply Kd.V_drew)); exact Kd.V_mono HO_265000.out (fun _ hk => ⟨hk.2.1, hk.2.2⟩)⟩, ⟨by (with_reducible repeat (first | apply Kd.V_alloc | apply Kd.V_drewN | apply Kd.V_drew)); exact Kd.V_mono HO_265002.out (fun _ hk => ⟨hk.2.1, hk.2.2⟩)⟩, ⟨by (with_reducible repeat (first | refine blk_drewN ?_ _ | refine blk_drew ?_ | refine blk_alloc ?_ _)); exact BK233.out⟩, ⟨by (with_reducible repeat (first | refine blk_drewN ?_ _ | refine blk_drew ?_ | refine blk_alloc ?_ _)); exact BK264.out⟩, ⟨by repeat (first | (with_reducible first | exact HB.out | apply below_alloc | apply pw_below_drewN | apply below_drew1 | refine below_set ?_ GE233.out | refine below_set ?_ GE264.out) | exact HB.out)⟩⟩
                                            case rest =>
                                              clear HC67
                                              try clear c1
                                              try clear p2
                                              try clear q2
                                              try clear hx2
                                              try clear c5
                                              try clear c6
                                              try clear p6
                                              try clear c7
                                              try clear c10
                                              try clear p26
                                              try clear q26
                                              try clear hx26
                                              try clear c59
                                              try clear c59b0
                                              try clear c59b1
                                              try clear c60
                                              try clear c62
                                              try clear c62b0
                                              try clear c63
                                              try clear c63b0
                                              try clear c64
                                              try clear c64b0
                                              try clear p64
                                              try clear c65
                                              try clear c65b0
                                              try clear c65b1
                                              try clear c66
                                              try clear c66b0
                                              try clear c66b1
                                              try clear c68
                                              try clear c68b0
                                              try clear c68b1
                                              try clear c69
                                              try clear c69b0
                                              try clear c69b1
                                              try clear c70
                                              try clear c70b0
                                              try clear c71
                                              try clear c71b0
                                              try clear hx265_0
                                              try clear hx265_1
                                              try clear hx266_0
                                              try clear hx266_1
                                              try clear hx267_0
                                              try clear hx267_1
                                              try clear p2
                                              try clear p26
                                              try clear p265
                                              try clear p266
                                              try clear p267
                                              try clear p6
                                              try clear p64
                                              try clear q2
                                              try clear q26
                                              try clear q265
                                              try clear q266
                                              try clear q267
                                              obtain ⟨kq, x131_66, rfl, HA, HJ66, HO_265000, HO_265002, BK233, BK264, HB⟩ := hcut
                                              cases kq with
                                              | zero => exact absurd HA.out (by simp [parquetlaw21_ObjectCut.j4])
                                              | succ kj66 =>
                                                have H := HA.out
                                                clear HA
                                                simp only [parquetlaw21_ObjectCut.j4] at H
                                                by_cases c72 : x131_66 = true
                                                · subst c72
                                                  have H1 : ((parquetlaw21_known.f kj66).bind fun t268 => (some t268)) = some r := by rw [if_pos rfl] at H; exact H
                                                  clear H
                                                  have H := H1
                                                  clear H1
                                                  replace H := Option.bind_eq_some_iff.mp H
                                                  obtain ⟨t268, A730, H⟩ := H
                                                  replace H : (some t268) = some r := H
                                                  have A73 := Aside0.mk A730
                                                  clear A730
                                                  obtain rfl := Option.some.inj H
                                                  go_wp2_with (first | ((with_reducible refine gate_callee (f := 8) rfl ?_); refine goesL_ (some 132) rfl rfl Tryd.func8 (by kernel_rfl) rfl #[] rfl (by (try simp only [List.map_toArray, List.map_cons, List.map_nil]); first | done | rfl | (simp only [List.length_drop, List.length_take]; rfl)) ?_; (with_reducible refine (parquetlaw21_known.calls kj66  t268 _ ?sideT A73.out).mono ?_); (case sideT => exact Tabs.below HT.out (by repeat (first | (with_reducible first | exact HB.out | apply below_alloc | apply pw_below_drewN | apply below_drew1 | refine below_set ?_ GE233.out | refine below_set ?_ GE264.out) | exact HB.out))); rintro e w74 ⟨rfl, hb⟩; refine ⟨_, rfl, ?_⟩; have n0_ := Aside0.mk (Kd.V_below (by (with_reducible repeat (first | apply Kd.V_alloc | apply Kd.V_drewN | apply Kd.V_drew)); exact HO_265000.out) hb); have n1_ := Aside0.mk (Kd.V_below (by (with_reducible repeat (first | apply Kd.V_alloc | apply Kd.V_drewN | apply Kd.V_drew)); exact HO_265002.out) hb); have n2_ := Aside0.mk (blk_below (g := gb233) (o := .cells #[.slice A0_0 l0_0.length c0_0, .int .i64 a0_1, .slice A0_2 l0_2.length c0_2] 25 (0, 0)) (by (with_reducible repeat (first | refine blk_drewN ?_ _ | refine blk_drew ?_ | refine blk_alloc ?_ _)); exact BK233.out) hb); have n3_ := Aside0.mk (blk_below (g := gb264) (o := .cells #[.slice Ao54 t255.length co54, .int .i64 t258, .slice Ao57 t259.length co57] 25 (0, 0)) (by (with_reducible repeat (first | refine blk_drewN ?_ _ | refine blk_drew ?_ | refine blk_alloc ?_ _)); exact BK264.out) hb); have n4_ := Aside0.mk (below_step (by repeat (first | (with_reducible first | exact HB.out | apply below_alloc | apply pw_below_drewN | apply below_drew1 | refine below_set ?_ GE233.out | refine below_set ?_ GE264.out) | exact HB.out)) hb); clear HO_265000; clear HO_265002; clear BK233; clear BK264; clear HB; have HO_265000 := n0_; have HO_265002 := n1_; have BK233 := n2_; have BK264 := n3_; have HB := n4_; clear n0_ n1_ n2_ n3_ n4_; (try clear hb); (try clear hb2); (try clear hk); (try clear hi)))
                                                  go_ret
                                                  exact ⟨by first | rfl | (simp [errW_none, errW_some] <;> rfl) | (simp only [← hji28, ← hji31, ← hji37]; first | rfl | (simp [errW_none, errW_some] <;> rfl)) | (simp [*, errW_none, errW_some] <;> rfl), by repeat (first | (with_reducible first | exact HB.out | apply below_alloc | apply pw_below_drewN | apply below_drew1 | refine below_set ?_ GE233.out | refine below_set ?_ GE264.out) | exact HB.out)⟩
                                                · replace c72 := Bool.eq_false_iff.mpr c72
                                                  subst c72
                                                  have H1 : (if 0 ≤ ((rd_T40 t242 (ji28)).f0) then (if ((rd_T40 t242 (ji28)).f0) ≤ (t236.size : Int) then ((conv_bytes.f (t236.extract 0 (((rd_T40 t242 (ji28)).f0) : Int).toNat)).bind fun t269 => ((object_Read.f t269).bind fun bt272 => (if bt272.2.2.2.1 = ((rd_T40 t242 (ji28)).f0) then (if bt272.2.2.2.2 = 11 then ((parquetlaw21_known.f kj66).bind fun t282 => (some t282)) else (none)) else (none)))) else (none)) else (none)) = some r := by rw [if_neg (show ¬ (false = true) by decide)] at H; exact H
                                                  clear H
                                                  have H := H1
                                                  clear H1
                                                  by_cases c75 : 0 ≤ ((rd_T40 t242 (ji28)).f0)
                                                  · rw [if_pos c75] at H
                                                    have c75b0 := eq_true c75
                                                    have c75b1 : decide (0 ≤ ((rd_T40 t242 (ji28)).f0)) = true := decide_eq_true c75
                                                    clear c75
                                                    by_cases c76 : ((rd_T40 t242 (ji28)).f0) ≤ (t236.size : Int)
                                                    · rw [if_pos c76] at H
                                                      have c76b0 := eq_true c76
                                                      have c76b1 : decide (((rd_T40 t242 (ji28)).f0) ≤ (t236.size : Int)) = true := decide_eq_true c76
                                                      clear c76
                                                      replace H := Option.bind_eq_some_iff.mp H
                                                      obtain ⟨t269, A770, H⟩ := H
                                                      replace H : ((object_Read.f t269).bind fun bt272 => (if bt272.2.2.2.1 = ((rd_T40 t242 (ji28)).f0) then (if bt272.2.2.2.2 = 11 then ((parquetlaw21_known.f kj66).bind fun t282 => (some t282)) else (none)) else (none))) = some r := H
                                                      have A77 := Aside0.mk A770
                                                      clear A770
                                                      replace H := Option.bind_eq_some_iff.mp H
                                                      obtain ⟨⟨t272, t275, t276, t279, t280⟩, A780, H⟩ := H
                                                      replace H : (if t279 = ((rd_T40 t242 (ji28)).f0) then (if t280 = 11 then ((parquetlaw21_known.f kj66).bind fun t282 => (some t282)) else (none)) else (none)) = some r := H
                                                      have A78 := Aside0.mk A780
                                                      clear A780
                                                      by_cases c79 : t279 = ((rd_T40 t242 (ji28)).f0)
                                                      · rw [if_pos c79] at H
                                                        have c79b0 : (t279 == ((rd_T40 t242 (ji28)).f0)) = true := beq_iff_eq.mpr c79
                                                        have c79b1 : (t279 != ((rd_T40 t242 (ji28)).f0)) = false := bne_eq_false_iff_eq.mpr c79
                                                        clear c79
                                                        by_cases c80 : t280 = 11
                                                        · rw [if_pos c80] at H
                                                          have c80b0 : (t280 == 11) = true := beq_iff_eq.mpr c80
                                                          have c80b1 : (t280 != 11) = false := bne_eq_false_iff_eq.mpr c80
                                                          clear c80
                                                          replace H := Option.bind_eq_some_iff.mp H
                                                          obtain ⟨t282, A810, H⟩ := H
                                                          replace H : (some t282) = some r := H
                                                          have A81 := Aside0.mk A810
                                                          clear A810
                                                          obtain rfl := Option.some.inj H
                                                          go_wp2_with (first | ((with_reducible refine gate_conv rfl ?_); refine conv_event (some 137) rfl rfl rfl Tryd.underlying9 Tryd.underlying26 Tryd.underlying5 (t236.extract 0 (((rd_T40 t242 (ji28)).f0) : Int).toNat) A77.out (by first | rfl | (go_simp; done) | (go_simp; rfl)) ?_; intro v270 w82 ho0 hb; have n0_ := Aside0.mk (Kd.V_below (by (with_reducible repeat (first | apply Kd.V_alloc | apply Kd.V_drewN | apply Kd.V_drew)); exact HO_265000.out) hb); have n1_ := Aside0.mk (Kd.V_below (by (with_reducible repeat (first | apply Kd.V_alloc | apply Kd.V_drewN | apply Kd.V_drew)); exact HO_265002.out) hb); have n2_ := Aside0.mk (Kd.V_lower (Kd.V_mono (ok' := fun k_ => k_ ≠ gb233 ∧ k_ ≠ gb264) ho0 (fun k_ hk_ => ⟨(Kd.freshB (g := gb233) (o := .cells #[.slice A0_0 l0_0.length c0_0, .int .i64 a0_1, .slice A0_2 l0_2.length c0_2] 25 (0, 0)) (by (with_reducible repeat (first | refine blk_drewN ?_ _ | refine blk_drew ?_ | refine blk_alloc ?_ _)); exact BK233.out) k_ hk_), (Kd.freshB (g := gb264) (o := .cells #[.slice Ao54 t255.length co54, .int .i64 t258, .slice Ao57 t259.length co57] 25 (0, 0)) (by (with_reducible repeat (first | refine blk_drewN ?_ _ | refine blk_drew ?_ | refine blk_alloc ?_ _)); exact BK264.out) k_ hk_)⟩)) (below_size (by repeat (first | (with_reducible first | exact HB.out | apply below_alloc | apply pw_below_drewN | apply below_drew1 | refine below_set ?_ GE233.out | refine below_set ?_ GE264.out) | exact HB.out)))); have n3_ := Aside0.mk (blk_below (g := gb233) (o := .cells #[.slice A0_0 l0_0.length c0_0, .int .i64 a0_1, .slice A0_2 l0_2.length c0_2] 25 (0, 0)) (by (with_reducible repeat (first | refine blk_drewN ?_ _ | refine blk_drew ?_ | refine blk_alloc ?_ _)); exact BK233.out) hb); have n4_ := Aside0.mk (blk_below (g := gb264) (o := .cells #[.slice Ao54 t255.length co54, .int .i64 t258, .slice Ao57 t259.length co57] 25 (0, 0)) (by (with_reducible repeat (first | refine blk_drewN ?_ _ | refine blk_drew ?_ | refine blk_alloc ?_ _)); exact BK264.out) hb); have n5_ := Aside0.mk (below_step (by repeat (first | (with_reducible first | exact HB.out | apply below_alloc | apply pw_below_drewN | apply below_drew1 | refine below_set ?_ GE233.out | refine below_set ?_ GE264.out) | exact HB.out)) hb); clear HO_265000; clear HO_265002; clear BK233; clear BK264; clear HB; have HO_265000 := n0_; have HO_265002 := n1_; have HO271 := n2_; have BK233 := n3_; have BK264 := n4_; have HB := n5_; clear n0_ n1_ n2_ n3_ n4_ n5_; (try clear hb); (try clear hb2); (try clear hk); (try clear hi); (try clear ho0); obtain ⟨Ao83, co83, eo83⟩ := Kd.V_slice HO271.out; subst eo83) | ((with_reducible refine gate_callee (f := 10) rfl ?_); refine goesL_ (some 138) rfl rfl Tryd.func10 (by kernel_rfl) rfl #[.slice Ao83 t269.length co83] rfl (by (try simp only [List.map_toArray, List.map_cons, List.map_nil]); first | done | rfl | (simp only [List.length_drop, List.length_take]; rfl)) ?_; (with_reducible refine (object_Read.calls _ _ t269 t272 t275 t276 t279 t280 _ ?side1 ?side2 A78.out).mono ?_); (case side1 => repeat (first | exact (Kd.V_reads' HO271.out).2.2 | (with_reducible refine Kd.C_alloc ?_ _) | (with_reducible refine Kd.C_drewN ?_ _) | (with_reducible refine Kd.C_drew ?_))); (case side2 => exact (Kd.V_reads' HO271.out).2.1); rintro e w84 ⟨v273, v277, rfl, ho0, ho1, hb⟩; refine ⟨_, rfl, ?_⟩; have n0_ := Aside0.mk (Kd.V_below (by (with_reducible repeat (first | apply Kd.V_alloc | apply Kd.V_drewN | apply Kd.V_drew)); exact HO_265000.out) hb); have n1_ := Aside0.mk (Kd.V_below (by (with_reducible repeat (first | apply Kd.V_alloc | apply Kd.V_drewN | apply Kd.V_drew)); exact HO_265002.out) hb); have n2_ := Aside0.mk (Kd.V_below (by (with_reducible repeat (first | apply Kd.V_alloc | apply Kd.V_drewN | apply Kd.V_drew)); exact HO271.out) hb); have n3_ := Aside0.mk (Kd.V_lower (Kd.V_mono (ok' := fun k_ => k_ ≠ gb233 ∧ k_ ≠ gb264) ho0 (fun k_ hk_ => ⟨(Kd.freshB (g := gb233) (o := .cells #[.slice A0_0 l0_0.length c0_0, .int .i64 a0_1, .slice A0_2 l0_2.length c0_2] 25 (0, 0)) (by (with_reducible repeat (first | refine blk_drewN ?_ _ | refine blk_drew ?_ | refine blk_alloc ?_ _)); exact BK233.out) k_ hk_), (Kd.freshB (g := gb264) (o := .cells #[.slice Ao54 t255.length co54, .int .i64 t258, .slice Ao57 t259.length co57] 25 (0, 0)) (by (with_reducible repeat (first | refine blk_drewN ?_ _ | refine blk_drew ?_ | refine blk_alloc ?_ _)); exact BK264.out) k_ hk_)⟩)) (below_size (by repeat (first | (with_reducible first | exact HB.out | apply below_alloc | apply pw_below_drewN | apply below_drew1 | refine below_set ?_ GE233.out | refine below_set ?_ GE264.out) | exact HB.out)))); have n4_ := Aside0.mk (Kd.V_lower (Kd.V_mono (ok' := fun k_ => k_ ≠ gb233 ∧ k_ ≠ gb264) ho1 (fun k_ hk_ => ⟨(Kd.freshB (g := gb233) (o := .cells #[.slice A0_0 l0_0.length c0_0, .int .i64 a0_1, .slice A0_2 l0_2.length c0_2] 25 (0, 0)) (by (with_reducible repeat (first | refine blk_drewN ?_ _ | refine blk_drew ?_ | refine blk_alloc ?_ _)); exact BK233.out) k_ hk_), (Kd.freshB (g := gb264) (o := .cells #[.slice Ao54 t255.length co54, .int .i64 t258, .slice Ao57 t259.length co57] 25 (0, 0)) (by (with_reducible repeat (first | refine blk_drewN ?_ _ | refine blk_drew ?_ | refine blk_alloc ?_ _)); exact BK264.out) k_ hk_)⟩)) (below_size (by repeat (first | (with_reducible first | exact HB.out | apply below_alloc | apply pw_below_drewN | apply below_drew1 | refine below_set ?_ GE233.out | refine below_set ?_ GE264.out) | exact HB.out)))); have n5_ := Aside0.mk (blk_below (g := gb233) (o := .cells #[.slice A0_0 l0_0.length c0_0, .int .i64 a0_1, .slice A0_2 l0_2.length c0_2] 25 (0, 0)) (by (with_reducible repeat (first | refine blk_drewN ?_ _ | refine blk_drew ?_ | refine blk_alloc ?_ _)); exact BK233.out) hb); have n6_ := Aside0.mk (blk_below (g := gb264) (o := .cells #[.slice Ao54 t255.length co54, .int .i64 t258, .slice Ao57 t259.length co57] 25 (0, 0)) (by (with_reducible repeat (first | refine blk_drewN ?_ _ | refine blk_drew ?_ | refine blk_alloc ?_ _)); exact BK264.out) hb); have n7_ := Aside0.mk (below_step (by repeat (first | (with_reducible first | exact HB.out | apply below_alloc | apply pw_below_drewN | apply below_drew1 | refine below_set ?_ GE233.out | refine below_set ?_ GE264.out) | exact HB.out)) hb); clear HO_265000; clear HO_265002; clear HO271; clear BK233; clear BK264; clear HB; have HO_265000 := n0_; have HO_265002 := n1_; have HO271 := n2_; have HO274 := n3_; have HO278 := n4_; have BK233 := n5_; have BK264 := n6_; have HB := n7_; clear n0_ n1_ n2_ n3_ n4_ n5_ n6_ n7_; (try clear hb); (try clear hb2); (try clear hk); (try clear hi); (try clear ho0); (try clear ho1)) | ((with_reducible refine gate_dst (N := 19) rfl ?_); (try (refine gate_guard (by rfl) ?_; dsimp only)); refine box_event ?hg (N := 19) ?hd (cs := #[.slice none 0 0, .int .i64 0, .slice none 0 0]) (t := 25) ?hr ?_; (case hd => rfl); (case hg => rfl); (case hr => first | (go_simp; done) | (go_simp; rfl)); intro gb281 hg w85 hbox hb; have n0_ := Aside0.mk (Kd.V_below (Kd.V_elderB (by (with_reducible repeat (first | apply Kd.V_alloc | apply Kd.V_drewN | apply Kd.V_drew)); exact HO_265000.out) gb281 (Nat.le_of_eq hg.symm)) hb); have n1_ := Aside0.mk (Kd.V_below (Kd.V_elderB (by (with_reducible repeat (first | apply Kd.V_alloc | apply Kd.V_drewN | apply Kd.V_drew)); exact HO_265002.out) gb281 (Nat.le_of_eq hg.symm)) hb); have n2_ := Aside0.mk (Kd.V_below (Kd.V_elderB (by (with_reducible repeat (first | apply Kd.V_alloc | apply Kd.V_drewN | apply Kd.V_drew)); exact HO271.out) gb281 (Nat.le_of_eq hg.symm)) hb); have n3_ := Aside0.mk (Kd.V_below (Kd.V_elderB (by (with_reducible repeat (first | apply Kd.V_alloc | apply Kd.V_drewN | apply Kd.V_drew)); exact HO274.out) gb281 (Nat.le_of_eq hg.symm)) hb); have n4_ := Aside0.mk (Kd.V_below (Kd.V_elderB (by (with_reducible repeat (first | apply Kd.V_alloc | apply Kd.V_drewN | apply Kd.V_drew)); exact HO278.out) gb281 (Nat.le_of_eq hg.symm)) hb); have n5_ := Aside0.mk (blk_below (g := gb233) (o := .cells #[.slice A0_0 l0_0.length c0_0, .int .i64 a0_1, .slice A0_2 l0_2.length c0_2] 25 (0, 0)) (by (with_reducible repeat (first | refine blk_drewN ?_ _ | refine blk_drew ?_ | refine blk_alloc ?_ _)); exact BK233.out) hb); have n6_ := Aside0.mk (blk_below (g := gb264) (o := .cells #[.slice Ao54 t255.length co54, .int .i64 t258, .slice Ao57 t259.length co57] 25 (0, 0)) (by (with_reducible repeat (first | refine blk_drewN ?_ _ | refine blk_drew ?_ | refine blk_alloc ?_ _)); exact BK264.out) hb); have n7_ := Aside0.mk (below_step (by repeat (first | (with_reducible first | exact HB.out | apply below_alloc | apply pw_below_drewN | apply below_drew1 | refine below_set ?_ GE233.out | refine below_set ?_ GE264.out) | exact HB.out)) hb); have n8_ := Aside0.mk (hbox); have n9_ := Aside0.mk ((by rw [hg]; exact (below_size (by repeat (first | (with_reducible first | exact HB.out | apply below_alloc | apply pw_below_drewN | apply below_drew1 | refine below_set ?_ GE233.out | refine below_set ?_ GE264.out) | exact HB.out))) : w.heap.size ≤ gb281)); have n10_ := Aside0.mk ((by rw [hg]; exact (below_size (by repeat (first | (with_reducible first | exact HB.out | apply below_alloc | apply pw_below_drewN | apply below_drew1 | refine below_set ?_ GE233.out | refine below_set ?_ GE264.out) | exact HB.out))) : w.heap.size ≤ gb281)); have n11_ := Aside0.mk ((by rw [hg]; exact Nat.ne_of_lt (blk_lt (g := gb233) (o := .cells #[.slice A0_0 l0_0.length c0_0, .int .i64 a0_1, .slice A0_2 l0_2.length c0_2] 25 (0, 0)) (by (with_reducible repeat (first | refine blk_drewN ?_ _ | refine blk_drew ?_ | refine blk_alloc ?_ _)); exact BK233.out)) : gb233 ≠ gb281)); have n12_ := Aside0.mk ((by rw [hg]; exact Nat.ne_of_gt (blk_lt (g := gb233) (o := .cells #[.slice A0_0 l0_0.length c0_0, .int .i64 a0_1, .slice A0_2 l0_2.length c0_2] 25 (0, 0)) (by (with_reducible repeat (first | refine blk_drewN ?_ _ | refine blk_drew ?_ | refine blk_alloc ?_ _)); exact BK233.out)) : gb281 ≠ gb233)); have n13_ := Aside0.mk ((by rw [hg]; exact Nat.ne_of_lt (blk_lt (g := gb264) (o := .cells #[.slice Ao54 t255.length co54, .int .i64 t258, .slice Ao57 t259.length co57] 25 (0, 0)) (by (with_reducible repeat (first | refine blk_drewN ?_ _ | refine blk_drew ?_ | refine blk_alloc ?_ _)); exact BK264.out)) : gb264 ≠ gb281)); have n14_ := Aside0.mk ((by rw [hg]; exact Nat.ne_of_gt (blk_lt (g := gb264) (o := .cells #[.slice Ao54 t255.length co54, .int .i64 t258, .slice Ao57 t259.length co57] 25 (0, 0)) (by (with_reducible repeat (first | refine blk_drewN ?_ _ | refine blk_drew ?_ | refine blk_alloc ?_ _)); exact BK264.out)) : gb281 ≠ gb264)); clear HO_265000; clear HO_265002; clear HO271; clear HO274; clear HO278; clear BK233; clear BK264; clear HB; have HO_265000 := n0_; have HO_265002 := n1_; have HO271 := n2_; have HO274 := n3_; have HO278 := n4_; have BK233 := n5_; have BK264 := n6_; have HB := n7_; have BK281 := n8_; have GW281 := n9_; have GE281 := n10_; have NB233_281 := n11_; have NB281_233 := n12_; have NB264_281 := n13_; have NB281_264 := n14_; clear n0_ n1_ n2_ n3_ n4_ n5_ n6_ n7_ n8_ n9_ n10_ n11_ n12_ n13_ n14_; clear hb hbox hg; obtain ⟨Ao86, co86, eo86⟩ := Kd.V_slice HO274.out; subst eo86; have hnb87 := NB281_233.out; have hnc87 := NB233_281.out; have hnb88 := NB281_264.out; have hnc88 := NB264_281.out; have hcz89_0 : w85.cell? ⟨gb281, 0, none⟩ = some (.slice none 0 0) := (blk_cell BK281.out 0).trans rfl; have hcz89_1 : w85.cell? ⟨gb281, 1, none⟩ = some (.int .i64 0) := (blk_cell BK281.out 1).trans rfl; have hcz89_2 : w85.cell? ⟨gb281, 2, none⟩ = some (.slice none 0 0) := (blk_cell BK281.out 2).trans rfl; have hfz89_0 := blk_frozen BK281.out 0; have hfz89_1 := blk_frozen BK281.out 1; have hfz89_2 := blk_frozen BK281.out 2; obtain ⟨Ao90, co90, eo90⟩ := Kd.V_slice HO278.out; subst eo90) | (go_at_call 8; (with_reducible refine (parquetlaw21_known.calls kj66  t282 _ ?sideT A81.out).mono ?_); (case sideT => exact Tabs.below HT.out (by repeat (first | (with_reducible first | exact HB.out | apply below_alloc | apply pw_below_drewN | apply below_drew1 | refine below_set ?_ GE233.out | refine below_set ?_ GE264.out | refine below_set ?_ GE281.out) | exact HB.out))); rintro e w91 ⟨rfl, hb⟩; have n0_ := Aside0.mk (Kd.V_below (by (with_reducible repeat (first | apply Kd.V_alloc | apply Kd.V_drewN | apply Kd.V_drew)); exact (Kd.V_mono (Kd.V_far (p := ⟨gb281, 2, none⟩) (Kd.V_far (p := ⟨gb281, 1, none⟩) (Kd.V_far (p := ⟨gb281, 0, none⟩) (Kd.V_mono HO_265000.out (fun k_ hk => (⟨hk, hk.2⟩ : _ ∧ k_ ≠ gb281))) (fun _ hk => hk.2) (.slice Ao86 t272.length co86)) (fun _ hk => hk.2) (.int .i64 t275)) (fun _ hk => hk.2) (.slice Ao90 t276.length co90)) (fun _ h_ => h_.1))) hb); have n1_ := Aside0.mk (Kd.V_below (by (with_reducible repeat (first | apply Kd.V_alloc | apply Kd.V_drewN | apply Kd.V_drew)); exact (Kd.V_mono (Kd.V_far (p := ⟨gb281, 2, none⟩) (Kd.V_far (p := ⟨gb281, 1, none⟩) (Kd.V_far (p := ⟨gb281, 0, none⟩) (Kd.V_mono HO_265002.out (fun k_ hk => (⟨hk, hk.2⟩ : _ ∧ k_ ≠ gb281))) (fun _ hk => hk.2) (.slice Ao86 t272.length co86)) (fun _ hk => hk.2) (.int .i64 t275)) (fun _ hk => hk.2) (.slice Ao90 t276.length co90)) (fun _ h_ => h_.1))) hb); have n2_ := Aside0.mk (Kd.V_below (by (with_reducible repeat (first | apply Kd.V_alloc | apply Kd.V_drewN | apply Kd.V_drew)); exact (Kd.V_mono (Kd.V_far (p := ⟨gb281, 2, none⟩) (Kd.V_far (p := ⟨gb281, 1, none⟩) (Kd.V_far (p := ⟨gb281, 0, none⟩) (Kd.V_mono HO271.out (fun k_ hk => (⟨hk, hk.2⟩ : _ ∧ k_ ≠ gb281))) (fun _ hk => hk.2) (.slice Ao86 t272.length co86)) (fun _ hk => hk.2) (.int .i64 t275)) (fun _ hk => hk.2) (.slice Ao90 t276.length co90)) (fun _ h_ => h_.1))) hb); have n3_ := Aside0.mk (Kd.V_below (by (with_reducible repeat (first | apply Kd.V_alloc | apply Kd.V_drewN | apply Kd.V_drew)); exact (Kd.V_mono (Kd.V_far (p := ⟨gb281, 2, none⟩) (Kd.V_far (p := ⟨gb281, 1, none⟩) (Kd.V_far (p := ⟨gb281, 0, none⟩) (Kd.V_mono HO274.out (fun k_ hk => (⟨hk, hk.2⟩ : _ ∧ k_ ≠ gb281))) (fun _ hk => hk.2) (.slice Ao86 t272.length co86)) (fun _ hk => hk.2) (.int .i64 t275)) (fun _ hk => hk.2) (.slice Ao90 t276.length co90)) (fun _ h_ => h_.1))) hb); have n4_ := Aside0.mk (Kd.V_below (by (with_reducible repeat (first | apply Kd.V_alloc | apply Kd.V_drewN | apply Kd.V_drew)); exact (Kd.V_mono (Kd.V_far (p := ⟨gb281, 2, none⟩) (Kd.V_far (p := ⟨gb281, 1, none⟩) (Kd.V_far (p := ⟨gb281, 0, none⟩) (Kd.V_mono HO278.out (fun k_ hk => (⟨hk, hk.2⟩ : _ ∧ k_ ≠ gb281))) (fun _ hk => hk.2) (.slice Ao86 t272.length co86)) (fun _ hk => hk.2) (.int .i64 t275)) (fun _ hk => hk.2) (.slice Ao90 t276.length co90)) (fun _ h_ => h_.1))) hb); have n5_ := Aside0.mk (blk_below (g := gb233) (o := .cells #[.slice A0_0 l0_0.length c0_0, .int .i64 a0_1, .slice A0_2 l0_2.length c0_2] 25 (0, 0)) (by (with_reducible repeat (first | refine blk_drewN ?_ _ | refine blk_drew ?_ | refine blk_alloc ?_ _)); refine blk_far ?_ NB233_281.out _; (with_reducible repeat (first | refine blk_drewN ?_ _ | refine blk_drew ?_ | refine blk_alloc ?_ _)); refine blk_far ?_ NB233_281.out _; (with_reducible repeat (first | refine blk_drewN ?_ _ | refine blk_drew ?_ | refine blk_alloc ?_ _)); refine blk_far ?_ NB233_281.out _; (with_reducible repeat (first | refine blk_drewN ?_ _ | refine blk_drew ?_ | refine blk_alloc ?_ _)); exact BK233.out) hb); have n6_ := Aside0.mk (blk_below (g := gb264) (o := .cells #[.slice Ao54 t255.length co54, .int .i64 t258, .slice Ao57 t259.length co57] 25 (0, 0)) (by (with_reducible repeat (first | refine blk_drewN ?_ _ | refine blk_drew ?_ | refine blk_alloc ?_ _)); refine blk_far ?_ NB264_281.out _; (with_reducible repeat (first | refine blk_drewN ?_ _ | refine blk_drew ?_ | refine blk_alloc ?_ _)); refine blk_far ?_ NB264_281.out _; (with_reducible repeat (first | refine blk_drewN ?_ _ | refine blk_drew ?_ | refine blk_alloc ?_ _)); refine blk_far ?_ NB264_281.out _; (with_reducible repeat (first | refine blk_drewN ?_ _ | refine blk_drew ?_ | refine blk_alloc ?_ _)); exact BK264.out) hb); have n7_ := Aside0.mk (blk_below (g := gb281) (o := .cells #[.slice Ao86 t272.length co86, .int .i64 t275, .slice Ao90 t276.length co90] 25 (0, 0)) (by (with_reducible repeat (first | refine blk_drewN ?_ _ | refine blk_drew ?_ | refine blk_alloc ?_ _)); refine blk_put (cs := #[.slice Ao86 t272.length co86, .int .i64 t275, .slice none 0 0]) ?_ 2 _ rfl; (with_reducible repeat (first | refine blk_drewN ?_ _ | refine blk_drew ?_ | refine blk_alloc ?_ _)); refine blk_put (cs := #[.slice Ao86 t272.length co86, .int .i64 0, .slice none 0 0]) ?_ 1 _ rfl; (with_reducible repeat (first | refine blk_drewN ?_ _ | refine blk_drew ?_ | refine blk_alloc ?_ _)); refine blk_put (cs := #[.slice none 0 0, .int .i64 0, .slice none 0 0]) ?_ 0 _ rfl; (with_reducible repeat (first | refine blk_drewN ?_ _ | refine blk_drew ?_ | refine blk_alloc ?_ _)); exact BK281.out) hb); have n8_ := Aside0.mk (below_step (by repeat (first | (with_reducible first | exact HB.out | apply below_alloc | apply pw_below_drewN | apply below_drew1 | refine below_set ?_ GE233.out | refine below_set ?_ GE264.out | refine below_set ?_ GE281.out) | exact HB.out)) hb); clear HO_265000; clear HO_265002; clear HO271; clear HO274; clear HO278; clear BK233; clear BK264; clear BK281; clear HB; have HO_265000 := n0_; have HO_265002 := n1_; have HO271 := n2_; have HO274 := n3_; have HO278 := n4_; have BK233 := n5_; have BK264 := n6_; have BK281 := n7_; have HB := n8_; clear n0_ n1_ n2_ n3_ n4_ n5_ n6_ n7_ n8_; (try clear hb); (try clear hb2); (try clear hk); (try clear hi)))
                                                          go_ret
                                                          exact ⟨by first | rfl | (simp [errW_none, errW_some] <;> rfl) | (simp only [← hji28, ← hji31, ← hji37]; first | rfl | (simp [errW_none, errW_some] <;> rfl)) | (simp [*, errW_none, errW_some] <;> rfl), by repeat (first | (with_reducible first | exact HB.out | apply below_alloc | apply pw_below_drewN | apply below_drew1 | refine below_set ?_ GE233.out | refine below_set ?_ GE264.out | refine below_set ?_ GE281.out) | exact HB.out)⟩
                                                        · rw [if_neg c80] at H
                                                          exact absurd H (by simp)
                                                      · rw [if_neg c79] at H
                                                        exact absurd H (by simp)
                                                    · rw [if_neg c76] at H
                                                      exact absurd H (by simp)
                                                  · rw [if_neg c75] at H
                                                    exact absurd H (by simp)
                                · rw [if_neg c40] at H
                                  exact absurd H (by simp)
                              · rw [if_neg c39] at H
                                exact absurd H (by simp)
                            · rw [if_neg c38] at H
                              exact absurd H (by simp)
                          · rw [if_neg c36] at H
                            exact absurd H (by simp)
                        · rw [if_neg c35] at H
                          exact absurd H (by simp)
                      · rw [if_neg c34] at H
                        exact absurd H (by simp)
                    · rw [if_neg c33] at H
                      exact absurd H (by simp)
                  · rw [if_neg c32] at H
                    exact absurd H (by simp)
                · rw [if_neg c30] at H
                  exact absurd H (by simp)
              · rw [if_neg c29] at H
                exact absurd H (by simp)
    · rw [if_neg c12] at H
      have c12b0 : (t237 == 0) = false := beq_eq_false_iff_ne.mpr c12
      have c12b1 : (t237 != 0) = true := bne_iff_ne.mpr c12
      replace H := Option.bind_eq_some_iff.mp H
      obtain ⟨t238, A920, H⟩ := H
      replace H : (some t238) = some r := H
      have A92 := Aside0.mk A920
      clear A920
      obtain rfl := Option.some.inj H
      go_enter Tryd.func4, Tryd.ntmps4
      go_wp2_with (first | ((with_reducible refine gate_dst (N := 3) rfl ?_); (try (refine gate_guard (by rfl) ?_; dsimp only)); refine box_event ?hg (N := 3) ?hd (cs := #[.slice A0_0 l0_0.length c0_0, .int .i64 a0_1, .slice A0_2 l0_2.length c0_2]) (t := 25) ?hr ?_; (case hd => rfl); (case hg => rfl); (case hr => first | (go_simp; done) | (go_simp; rfl)); intro gb233 hg w93 hbox hb; have n0_ := Aside0.mk (below_step (by repeat (first | (with_reducible first | exact HB.out | apply below_alloc | apply pw_below_drewN | apply below_drew1) | exact HB.out)) hb); have n1_ := Aside0.mk (hbox); have n2_ := Aside0.mk ((by rw [hg]; exact (below_size (by repeat (first | (with_reducible first | exact HB.out | apply below_alloc | apply pw_below_drewN | apply below_drew1) | exact HB.out))) : w.heap.size ≤ gb233)); have n3_ := Aside0.mk ((by rw [hg]; exact (below_size (by repeat (first | (with_reducible first | exact HB.out | apply below_alloc | apply pw_below_drewN | apply below_drew1) | exact HB.out))) : w.heap.size ≤ gb233)); clear HB; have HB := n0_; have BK233 := n1_; have GW233 := n2_; have GE233 := n3_; clear n0_ n1_ n2_ n3_; clear hb hbox hg; have hcz94_0 : w93.cell? ⟨gb233, 0, none⟩ = some (.slice A0_0 l0_0.length c0_0) := (blk_cell BK233.out 0).trans rfl; have hcz94_1 : w93.cell? ⟨gb233, 1, none⟩ = some (.int .i64 a0_1) := (blk_cell BK233.out 1).trans rfl; have hcz94_2 : w93.cell? ⟨gb233, 2, none⟩ = some (.slice A0_2 l0_2.length c0_2) := (blk_cell BK233.out 2).trans rfl; have hfz94_0 := blk_frozen BK233.out 0; have hfz94_1 := blk_frozen BK233.out 1; have hfz94_2 := blk_frozen BK233.out 2) | ((with_reducible refine gate_callee (f := 7) rfl ?_); refine goesL_ (some 23) rfl rfl Tryd.func7 (by kernel_rfl) rfl #[.agg #[.slice A0_0 l0_0.length c0_0, .int .i64 a0_1, .slice A0_2 l0_2.length c0_2]] rfl (by (try simp only [List.map_toArray, List.map_cons, List.map_nil]); first | done | rfl | (simp only [List.length_drop, List.length_take]; rfl)) ?_; (with_reducible refine (parquetlaw21_many.calls k _ _ l0_0 a0_1 _ _ l0_2 false _ ?side1 ?side2 ?side3 ?side4 A4.out).mono ?_); (case side1 => repeat (first | exact (Kd.C_below HR0_0.out HB.out) | (with_reducible refine Kd.C_alloc ?_ _) | (with_reducible refine Kd.C_drewN ?_ _) | (with_reducible refine Kd.C_drew ?_))); (case side2 => exact HC0_0.out); (case side3 => repeat (first | exact (Kd.C_below HR0_2.out HB.out) | (with_reducible refine Kd.C_alloc ?_ _) | (with_reducible refine Kd.C_drewN ?_ _) | (with_reducible refine Kd.C_drew ?_))); (case side4 => exact HC0_2.out); rintro e w95 ⟨rfl, hb⟩; refine ⟨_, rfl, ?_⟩; have n0_ := Aside0.mk (blk_below (g := gb233) (o := .cells #[.slice A0_0 l0_0.length c0_0, .int .i64 a0_1, .slice A0_2 l0_2.length c0_2] 25 (0, 0)) (by (with_reducible repeat (first | refine blk_drewN ?_ _ | refine blk_drew ?_ | refine blk_alloc ?_ _)); exact BK233.out) hb); have n1_ := Aside0.mk (below_step (by repeat (first | (with_reducible first | exact HB.out | apply below_alloc | apply pw_below_drewN | apply below_drew1 | refine below_set ?_ GE233.out) | exact HB.out)) hb); clear BK233; clear HB; have BK233 := n0_; have HB := n1_; clear n0_ n1_; (try clear hb); (try clear hb2); (try clear hk); (try clear hi); have hcz96_0 : w95.cell? ⟨gb233, 0, none⟩ = some (.slice A0_0 l0_0.length c0_0) := (blk_cell BK233.out 0).trans rfl; have hcz96_1 : w95.cell? ⟨gb233, 1, none⟩ = some (.int .i64 a0_1) := (blk_cell BK233.out 1).trans rfl; have hcz96_2 : w95.cell? ⟨gb233, 2, none⟩ = some (.slice A0_2 l0_2.length c0_2) := (blk_cell BK233.out 2).trans rfl; have hfz96_0 := blk_frozen BK233.out 0; have hfz96_1 := blk_frozen BK233.out 1; have hfz96_2 := blk_frozen BK233.out 2) | ((with_reducible refine gate_callee (f := 9) rfl ?_); refine goesL_ (some 27) rfl rfl Tryd.func9 (by kernel_rfl) rfl #[.agg #[.slice A0_0 l0_0.length c0_0, .int .i64 a0_1, .slice A0_2 l0_2.length c0_2]] rfl (by (try simp only [List.map_toArray, List.map_cons, List.map_nil]); first | done | rfl | (simp only [List.length_drop, List.length_take]; rfl)) ?_; (with_reducible refine (object_Write.calls _ _ l0_0 a0_1 _ _ l0_2 t236 t237 _ ?side1 ?side2 ?side3 ?side4 ?sideT A11.out).mono ?_); (case sideT => exact Tabs.below HT.out (by repeat (first | (with_reducible first | exact HB.out | apply below_alloc | apply pw_below_drewN | apply below_drew1 | refine below_set ?_ GE233.out) | exact HB.out))); (case side1 => repeat (first | exact (Kd.C_below HR0_0.out HB.out) | (with_reducible refine Kd.C_alloc ?_ _) | (with_reducible refine Kd.C_drewN ?_ _) | (with_reducible refine Kd.C_drew ?_))); (case side2 => exact HC0_0.out); (case side3 => repeat (first | exact (Kd.C_below HR0_2.out HB.out) | (with_reducible refine Kd.C_alloc ?_ _) | (with_reducible refine Kd.C_drewN ?_ _) | (with_reducible refine Kd.C_drew ?_))); (case side4 => exact HC0_2.out); rintro e w97 ⟨rfl, hb⟩; refine ⟨_, rfl, ?_⟩; have n0_ := Aside0.mk (blk_below (g := gb233) (o := .cells #[.slice A0_0 l0_0.length c0_0, .int .i64 a0_1, .slice A0_2 l0_2.length c0_2] 25 (0, 0)) (by (with_reducible repeat (first | refine blk_drewN ?_ _ | refine blk_drew ?_ | refine blk_alloc ?_ _)); exact BK233.out) hb); have n1_ := Aside0.mk (below_step (by repeat (first | (with_reducible first | exact HB.out | apply below_alloc | apply pw_below_drewN | apply below_drew1 | refine below_set ?_ GE233.out) | exact HB.out)) hb); clear BK233; clear HB; have BK233 := n0_; have HB := n1_; clear n0_ n1_; (try clear hb); (try clear hb2); (try clear hk); (try clear hi)) | ((with_reducible refine gate_callee (f := 8) rfl ?_); refine goesL_ (some 32) rfl rfl Tryd.func8 (by kernel_rfl) rfl #[] rfl (by (try simp only [List.map_toArray, List.map_cons, List.map_nil]); first | done | rfl | (simp only [List.length_drop, List.length_take]; rfl)) ?_; (with_reducible refine (parquetlaw21_known.calls k  t238 _ ?sideT A92.out).mono ?_); (case sideT => exact Tabs.below HT.out (by repeat (first | (with_reducible first | exact HB.out | apply below_alloc | apply pw_below_drewN | apply below_drew1 | refine below_set ?_ GE233.out) | exact HB.out))); rintro e w98 ⟨rfl, hb⟩; refine ⟨_, rfl, ?_⟩; have n0_ := Aside0.mk (blk_below (g := gb233) (o := .cells #[.slice A0_0 l0_0.length c0_0, .int .i64 a0_1, .slice A0_2 l0_2.length c0_2] 25 (0, 0)) (by (with_reducible repeat (first | refine blk_drewN ?_ _ | refine blk_drew ?_ | refine blk_alloc ?_ _)); exact BK233.out) hb); have n1_ := Aside0.mk (below_step (by repeat (first | (with_reducible first | exact HB.out | apply below_alloc | apply pw_below_drewN | apply below_drew1 | refine below_set ?_ GE233.out) | exact HB.out)) hb); clear BK233; clear HB; have BK233 := n0_; have HB := n1_; clear n0_ n1_; (try clear hb); (try clear hb2); (try clear hk); (try clear hi)))
      go_ret
      exact ⟨by first | rfl | (simp [errW_none, errW_some] <;> rfl) | (simp [*, errW_none, errW_some] <;> rfl), by repeat (first | (with_reducible first | exact HB.out | apply below_alloc | apply pw_below_drewN | apply below_drew1 | refine below_set ?_ GE233.out) | exact HB.out)⟩

end Go.Proofs.YtbmgajddhfjchaaDoor.Obj
