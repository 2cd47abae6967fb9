/- ObjectCut: the law's Go code returns true for every mesh and every other argument that can be read, and leaves them as they were; the tables that it reads are tied to the program's text. -/
import Derived.Test.YtbmgajddhfjchaaDoorCards
import Derived.Test.YtbmgajddhfjchaaDoorTie
import Derived.Test.YtbmgajddhfjchaaDoorCtG6
import Derived.Test.YtbmgajddhfjchaaDoorCtPCut
import Derived.WalkKit
import Derived.ProofKit
import Derived.OpenShut
import Derived.ShutString
import Derived.ChangeOld
import Derived.Below
import Derived.SizedLaws
import Derived.LaidMore
import Derived.Stop.Joined
import Derived.Stop.LaidErr
import Derived.SevenTiedAt
import Derived.Lib.LaidTab
namespace Go.Proofs.YtbmgajddhfjchaaDoor.objectCut
open Go.ChangeShapes Go.WideShapes Go.ChangeAt Go.RowKit Go.Proofs.YtbmgajddhfjchaaDoor.Obj Go.Proofs.YtbmgajddhfjchaaDoorW.PrintWords
open Go.ChangeMaps (open_string shut_string)
set_option linter.unusedVariables false
def laid3 : List (String × DataW Unit) := [("math/bits.deBruijn32tab", Rows.laid_math_bits_deBruijn32tab), ("math/bits.deBruijn64tab", Rows.laid_math_bits_deBruijn64tab), ("internal/strconv.uint64pow10", Rows.laid_internal_strconv_uint64pow10)]
theorem own : ownKnob Tryd.prog.godebug = none := by kernel_rfl
theorem laidOut : laidOutB Tryd.prog = true := by kernel_rfl
theorem door_met (os : Os) (args : Array Value) : laidMetH Tryd.prog laid3 ((World.doorLaid Tryd.prog 4000 os).forCall (fun _ _ => 0) ⟨#[], args, []⟩).memory :=
  laidMetH_of_parts3 (fuel := 80) (laidMet_of_run' 80 (by kernel_rfl) (by kernel_rfl)) (by kernel_rfl) (by kernel_rfl)
theorem tabs_of {W : World} (h : laidMetH Tryd.prog laid3 W) : Tabs W := by
  rw [MakeChecks.laidMetH_plain _ _ _ (by kernel_rfl)] at h
  exact Lib.tabIs_of_head (t := 120) (n := 20) (e := 113) (k := .u64) (zs := Lib.pow10Tab) (g := (Tryd.prog.globalNamed "internal/strconv.uint64pow10").getD 0) (by kernel_rfl) (by kernel_rfl) (by kernel_rfl) (by kernel_rfl) (by kernel_rfl) (by kernel_rfl) (laidMet.tail (laidMet.tail h))
section
variable {H : Type} {enc : TypeId × Value → H} {w : World} {base : Nat} {spare : Nat → Bool} {held : Bool}
theorem opens_pt : Opens enc Tryd.prog w base spare held 47 k47 (fun x => (Lit.int .i64 x.f0).wf = true ∧ (Lit.int .i64 x.f1).wf = true) :=
  opens_struct2 (d0 := Kd.int .i64) (d1 := Kd.int .i64) (f := fun x : S47 => (x.f0, x.f1)) (g := fun p => ⟨p.1, p.2⟩) (fun _ => rfl) Tryd.underlying47 (by kernel_rfl) ⟨rfl, by kernel_rfl⟩ ⟨rfl, by kernel_rfl⟩ (opens_int Tryd.underlying3) (opens_int Tryd.underlying3)
theorem opens_obj : Opens enc Tryd.prog w base spare held 25 k25 (fun x => (∀ p ∈ x.f0, (Lit.int .i64 p.f0).wf = true ∧ (Lit.int .i64 p.f1).wf = true) ∧ (Lit.int .i64 x.f1).wf = true ∧ ∀ f ∈ x.f2, ∀ i ∈ f, (Lit.int .i64 i).wf = true) :=
  opens_struct3 (d0 := Kd.slice 47 k47) (d1 := Kd.int .i64) (d2 := Kd.slice 48 (Kd.slice 3 (Kd.int .i64))) (f := fun x : S25 => (x.f0, x.f1, x.f2)) (g := fun p => ⟨p.1, p.2.1, p.2.2⟩) (fun _ => rfl) Tryd.underlying25 (by kernel_rfl) ⟨rfl, by kernel_rfl⟩ ⟨rfl, by kernel_rfl⟩ ⟨rfl, by kernel_rfl⟩ (opens_slice Tryd.underlying22 (by kernel_rfl) opens_pt) (opens_int Tryd.underlying3) (opens_slice Tryd.underlying23 (by kernel_rfl) (opens_slice Tryd.underlying48 (by kernel_rfl) (opens_int Tryd.underlying3)))
end
set_option maxRecDepth 100000 in
theorem lifted (os : Os) (started : os.Started) (H : Type) (enc : TypeId × Value → H) :
    ReturnsInHanded {} Tryd.checked os 4 .any (fun w args => (Rows.objectCutSpec.pre enc Tryd.prog Tryd.f4 [] false w args ∧ laidMetH Tryd.prog laid3 w) ∧ sizedMet enc Tryd.prog Tryd.f4 (OpenSpec.ofChange Rows.objectCutSpec) false w args) (Rows.objectCutSpec.post enc Tryd.prog Tryd.f4 false true false false) := by
  refine returnsInHanded_of_change_and (C := Tryd.checked) (X := fun w _ => laidMetH Tryd.prog laid3 w) (fun _ _ _ hh h => h.of_heap hh) own started (by kernel_rfl) Tryd.func4
    (ChangeSpec.witness_shaped (enc := enc) (C := Tryd.checked) (os := os) (X := fun w _ => laidMetH Tryd.prog laid3 w) false (World.doorLaid Tryd.prog 4000 os) #[.agg #[.slice none 0 0, .int .i64 0, .slice none 0 0], .int .i64 0, .int .u8 0] 8 rfl (World.shaped_of_RefB (by kernel_rfl) (by kernel_rfl)) (by kernel_rfl) (by kernel_rfl) (by kernel_rfl) (door_met os _)) ?_
  intro W base args ds gs before hval0 hW _ hsz0 hL _
  have hsz : (DataW.weightsEach Tryd.prog (Tryd.f4.params.toList ++ Rows.objectCutSpec.plain.varTypes Tryd.prog) (ds ++ gs)).all (· ≤ reachBytes) = true := hsz0
  have hval : ∀ (j : Nat) t v, Tryd.f4.params[j]? = some t → args[j]? = some v → Value.okWide Tryd.prog W .any base t v := hval0
  have hW' := hW
  obtain ⟨p, q, hA0, hV, rfl, hfz, hnd⟩ := hW
  have hA : DataW.TrodAll enc Tryd.prog W 0 (fun _ => true) true Tryd.f4.params.toList args.toList ds p := hA0
  rw [show Tryd.f4.params = #[25, 3, 5] by kernel_rfl] at hA hval hsz
  obtain ⟨v0, vs0, d0, ds0, p0, q0, hargs, rfl, rfl, h0, r0⟩ := trodAll_cons hA
  obtain ⟨v1, vs1, d1, ds1, p1, q1, rfl, rfl, rfl, h1, r1⟩ := trodAll_cons r0
  obtain ⟨v2, vs2, d2, ds2, p2, q2, rfl, rfl, rfl, h2, r2⟩ := trodAll_cons r1
  obtain ⟨rfl, rfl, rfl⟩ := trodAll_nil r2
  obtain rfl : args = #[v0, v1, v2] := by cases args; simp_all
  obtain ⟨rfl, rfl⟩ := trodVars_none hV
  have k0 := h0
  have lt0 : ∀ x ∈ p0, x.block < W.heap.size := by obtain ⟨m, hm⟩ := k0; exact DataW.trod_lt m _ _ _ hm
  obtain ⟨cs0, rfl, hcs0⟩ := okWide_struct Tryd.underlying25 (hval 0 25 v0 rfl rfl)
  obtain ⟨o, A0, c0, A2, c2, hcs, l0, g0, l2, g2, hq⟩ : ∃ (o : S25) (A0 : Option Addr) (c0 : Nat) (A2 : Option Addr) (c2 : Nat), cs0 = #[.slice A0 o.f0.length c0, .int .i64 o.f1, .slice A2 o.f2.length c2] ∧ o.f0.length ≤ c0 ∧ k47.C W A0 o.f0.length o.f0 ∧ o.f2.length ≤ c2 ∧ (Kd.slice 3 (Kd.int .i64)).C W A2 o.f2.length o.f2 ∧ ((∀ p ∈ o.f0, (Lit.int .i64 p.f0).wf = true ∧ (Lit.int .i64 p.f1).wf = true) ∧ (Lit.int .i64 o.f1).wf = true ∧ ∀ f ∈ o.f2, ∀ i ∈ f, (Lit.int .i64 i).wf = true) := by
    obtain ⟨fuel, hf⟩ := h0
    obtain ⟨o, ho, hq⟩ := opens_obj fuel _ _ hf
    obtain ⟨A0, c0, A2, c2, hcs, l0, g0, l2, g2⟩ := k25_open ho
    exact ⟨o, A0, c0, A2, c2, Array.toList_inj.1 (by simpa [Value.cells] using hcs), l0, g0, l2, g2, hq⟩
  subst hcs
  obtain ⟨a1, rfl, rfl, rfl, w1⟩ := open_int Tryd.underlying3 (hval 1 3 v1 rfl rfl) h1
  obtain ⟨a2, rfl, rfl, rfl, w2⟩ := open_int Tryd.underlying5 (hval 2 5 v2 rfl rfl) h2
  obtain ⟨k, hk⟩ := cut_pure o.f0 o.f1 o.f2 a1 a2 w1 w2
  clear hA0 hval0 hsz0 hsz
  refine (parquetlaw21_ObjectCut.calls k A0 c0 o.f0 o.f1 A2 c2 o.f2 a1 a2 true W g0 l0 g2 l2 (tabs_of hL) hk).mono fun e W' ⟨he, bel⟩ => ?_
  subst he
  exact ⟨_, rfl, _, _, _, [], _, [], hW', trodAll_mk1 (shut_bool Tryd.underlying4 _), (trodAll_cons_mk (Below.trod laidOut (by kernel_rfl) (of_decide_eq_true (by kernel_rfl)) k0 bel lt0) (trodAll_cons_mk (shut_int Tryd.underlying3 w1) (trodAll_cons_mk (shut_int Tryd.underlying5 w2) trodAll_mk0))), rfl, bel.frame _, fun h => by cases h⟩
theorem row_holds : Rows.ObjectCutSaid :=
  OpenClaim.holds_of_wide 4 Tryd.f4 rfl rfl rfl rfl rfl rfl rfl ⟨rfl, rfl, rfl, rfl, rfl⟩ rfl rfl rfl rfl rfl (by kernel_rfl) Tryd.func4 (by kernel_rfl)
    (of_decide_eq_true (by kernel_rfl)) (by unfold Func.isWrapper; first | (rw [if_pos (by decide +kernel)]; kernel_rfl) | (rw [if_neg (by decide +kernel)]; exact ⟨rfl, rfl⟩))
    (fun os started H enc _ => lifted os started H enc)
theorem card_holds : Claim7.holds Tryd.pinned (.plain (OpenSpec.ofChange Rows.objectCutSpec)) Rows.objectCutCard :=
  Claim7.holds_tied_plain_at .later [] [.data, .data, .data] true (true, Rows.objectCutCard.stood.harness.2) false
    row_holds (fun _ h => by cases h) (by kernel_rfl) (fun _ h => by cases h) objectCut_row_tie rfl ⟨rfl, rfl⟩ (by kernel_rfl) rfl
    (fun f fn hf hfn => by
      obtain rfl : f = 4 := Option.some.inj ((show Tryd.prog.funcNamed "parquet/parquetlaw21.ObjectCut" = some 4 by kernel_rfl).symm.trans hf) |>.symm
      obtain rfl : fn = Tryd.f4 := (Option.some.inj (Tryd.func4.symm.trans hfn)).symm
      exact ⟨by kernel_rfl, fun j t ht => by
        rw [show Tryd.f4.params = #[25, 3, 5] by kernel_rfl] at ht
        have hm : t ∈ [25, 3, 5] := by simpa using Array.mem_of_getElem? ht
        have hall : ([25, 3, 5].all fun u => !Tryd.prog.wantsStandIn u) = true := by kernel_rfl
        exact (show Tryd.prog.wantsStandIn t = false by simpa using List.all_eq_true.1 hall t hm)⟩)
    (by kernel_rfl)
end Go.Proofs.YtbmgajddhfjchaaDoor.objectCut
namespace Go.Proofs.YtbmgajddhfjchaaDoor
/-- ObjectCut, the tied card. -/
theorem objectCut_card : Rows.ObjectCutCardSaid := objectCut.card_holds
#print axioms objectCut_card
end Go.Proofs.YtbmgajddhfjchaaDoor
