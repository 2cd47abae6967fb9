-- written by this session's gprint.py (patches over the kit's print): not a print of print.sh
import Derived.Test.YtbmgajddhfjchaaDoorProg
import Derived.Below
import Derived.Deep.Draws
import Derived.Deep.AppendLies
import Derived.Maps.AppendAt
import Derived.OwnWalk
import Derived.Laws.BytesArg
import Derived.Laws.MakeOwn
import Derived.Laws.OwnMore
import Derived.Deep.OwnRows
import Derived.Tactics
import Derived.Lib.ConvBytes
import Derived.Laws.Slices
import Derived.WalkKit
import Derived.KernelRfl
import Derived.RowKit3
import Derived.Deep.LoopGhost
import Derived.Deep.QuietTactic
import Derived.BigQuiet
import Derived.WideLaws
import Derived.Deep.DeepCutAuto
import Derived.Deep.CutBlock
import Derived.Deep.RegionHeld3
import Derived.Laws.Rows
import Derived.Lib.AppendStr
import Derived.ArgAppend
import Derived.Laws.IdiomCopy
import Derived.OrdersHeld
import Derived.Laws.BitsLemmas
import Derived.RowKit
import Derived.Test.YtbmgajddhfjchaaDoorCtWWords
import Derived.Test.YtbmgajddhfjchaaDoorCtWLast
import Derived.Test.YtbmgajddhfjchaaDoorCtWTab
import Derived.Test.YtbmgajddhfjchaaDoorCtWFour
import Derived.Test.YtbmgajddhfjchaaDoorCtWQPut
import Derived.Test.YtbmgajddhfjchaaDoorCtWApart
import Derived.Test.YtbmgajddhfjchaaDoorCtWArr
import Derived.Test.YtbmgajddhfjchaaDoorCtWZeros
import Derived.Test.YtbmgajddhfjchaaDoorCtWFoot
import Derived.Test.YtbmgajddhfjchaaDoorCtWKept
import Derived.Test.YtbmgajddhfjchaaDoorCtWShare
import Derived.Test.YtbmgajddhfjchaaDoorCtWN
import Derived.Test.YtbmgajddhfjchaaDoorCtWFootNe
import Derived.Test.YtbmgajddhfjchaaDoorCtWAt
import Derived.Test.YtbmgajddhfjchaaDoorCtWEqStruct
import Derived.Test.YtbmgajddhfjchaaDoorCtWRepsOne
import Derived.Test.YtbmgajddhfjchaaDoorCtWInv
import Derived.Test.YtbmgajddhfjchaaDoorCtWInvWords
import Derived.Test.YtbmgajddhfjchaaDoorCtWGuard
import Derived.Test.YtbmgajddhfjchaaDoorCtWNEv
import Derived.Test.YtbmgajddhfjchaaDoorCtWMore
namespace Go.Proofs.YtbmgajddhfjchaaDoor.Obj
open Go.RowKit Go.Proofs.YtbmgajddhfjchaaDoorW.PrintWords Go.Proofs.YtbmgajddhfjchaaDoorW.PrintLast Go.Proofs.YtbmgajddhfjchaaDoorW.PrintMore
attribute [local go_sem] max2_int min2_int max_two min_two max_three min_three max_four min_four   -- for this text's walks alone
set_option linter.unusedVariables false
set_option linter.unusedSimpArgs false



def errW : Option Int → Value
  | none => .nilIface
  | some c => .iface 0 (.int .i64 c)
theorem errW_none : errW none = .nilIface := rfl
theorem errW_some (c : Int) : errW (some c) = .iface 0 (.int .i64 c) := rfl

theorem info5 : (Tryd.prog.info? 5).map (fun i => (i.zero, i.size, i.bytes)) = some (some (.int .u8 0), 1, 1) := by kernel_rfl
theorem info40 : (Tryd.prog.info? 40).map (fun i => (i.zero, i.size, i.bytes)) = some (some (.agg #[(.int .i64 0), (.string ⟨#[]⟩)]), 2, 24) := by kernel_rfl
theorem info98 : (Tryd.prog.info? 98).map (fun i => (i.zero, i.size, i.bytes)) = some (some (.agg #[(.int .i64 0), (.int .i64 0)]), 2, 16) := by kernel_rfl
-- the values' own types
/-! #### struct type 7 -/
/-! #### struct type 8 -/
/-! #### struct type 13 -/
/-! #### struct type 14 -/
/-! #### struct type 47 -/
structure S47 where
  f0 : Int
  f1 : Int
def z47 : S47 := ⟨(0 : Int), (0 : Int)⟩
def k47 : Kd S47 := Kd.iso (Kd.pair (Kd.int .i64) (Kd.int .i64)) (fun x : S47 => (x.f0, x.f1))
theorem k47_open {w : World} {x : S47} {cs : List Value} (h : k47.K w x cs) : cs = [.int .i64 x.f0, .int .i64 x.f1] := by
  obtain ⟨_, _, rfl, rfl, rfl⟩ := h
  exact rfl
theorem k47_mkM (w : World) (base : Nat) (ok : Nat → Prop) (x : S47)  : k47.M w base ok x [.int .i64 x.f0, .int .i64 x.f1] := ⟨[.int .i64 x.f0], [.int .i64 x.f1], rfl, rfl, rfl⟩
def rd_T47 (xs : List S47) (i : Int) : S47 := xs.getD i.toNat z47
theorem at_T47 {w : World} {A : Option Addr} {n : Nat} {xs : List S47} (h : Kd.C k47 w A n xs) (i : Int) (h0 : 0 ≤ i) (h1 : i < n) : ∃ ad , A = some ad ∧ w.cell? (ad.add (i.toNat * 2)) = some (.int .i64 (rd_T47 xs i).f0) ∧ w.cell? ⟨(ad.add (i.toNat * 2)).block, (ad.add (i.toNat * 2)).off + 1, none⟩ = some (.int .i64 (rd_T47 xs i).f1) := by
  obtain ⟨ad, c, e, _, hK, hc0⟩ := Kd.C_get h z47 i h0 h1
  have hc : ∀ j u, c[j]? = some u → w.cell? (ad.add (i.toNat * 2 + j)) = some u := hc0
  obtain rfl := k47_open hK
  exact ⟨ad, e, hc 0 _ rfl, by rw [← add_field _ _ 1 (by omega)]; exact hc 1 _ rfl⟩

def rd_L13 (xs : List (List Int)) (i : Int) : (List Int) := xs.getD i.toNat ([] : List Int)
theorem at_L13 {w : World} {A : Option Addr} {n : Nat} {xs : List (List Int)} (h : Kd.C (Kd.slice 3 (Kd.int .i64)) w A n xs) (i : Int) (h0 : 0 ≤ i) (h1 : i < n) : ∃ ad A0 c0, A = some ad ∧ w.cell? (ad.add i.toNat) = some (.slice A0 (rd_L13 xs i).length c0) ∧ (rd_L13 xs i).length ≤ c0 ∧ (Kd.int .i64).C w A0 (rd_L13 xs i).length (rd_L13 xs i) := by
  obtain ⟨ad, c, e, _, hK, hc0⟩ := Kd.C_get h ([] : List Int) i h0 h1
  have hc : ∀ j u, c[j]? = some u → w.cell? (ad.add (i.toNat * 1 + j)) = some u := hc0
  obtain ⟨A0, c0, rfl, l0, g0⟩ := hK
  exact ⟨ad, A0, c0, e, by have hq := hc 0 _ rfl; rwa [Nat.mul_one, Nat.add_zero] at hq, l0, g0⟩

/-! #### struct type 24 -/
/-! #### struct type 25 -/
structure S25 where
  f0 : (List S47)
  f1 : Int
  f2 : (List (List Int))
def k25 : Kd S25 := Kd.iso (Kd.pair (Kd.slice 47 k47) (Kd.pair (Kd.int .i64) (Kd.slice 48 (Kd.slice 3 (Kd.int .i64))))) (fun x : S25 => (x.f0, x.f1, x.f2))
theorem k25_open {w : World} {x : S25} {cs : List Value} (h : k25.K w x cs) : ∃ A0 c0 A2 c2, cs = [.slice A0 x.f0.length c0, .int .i64 x.f1, .slice A2 x.f2.length c2] ∧ x.f0.length ≤ c0 ∧ k47.C w A0 x.f0.length x.f0 ∧ x.f2.length ≤ c2 ∧ (Kd.slice 3 (Kd.int .i64)).C w A2 x.f2.length x.f2 := by
  obtain ⟨_, _, rfl, ⟨A0, c0, rfl, l0, g0⟩, ⟨_, _, rfl, rfl, ⟨A2, c2, rfl, l2, g2⟩⟩⟩ := h
  exact ⟨A0, c0, A2, c2, rfl, l0, g0, l2, g2⟩
/-! #### struct type 40 -/
structure S40 where
  f0 : Int
  f1 : ByteArray
def z40 : S40 := ⟨(0 : Int), (⟨#[]⟩ : ByteArray)⟩
def k40 : Kd S40 := Kd.iso (Kd.pair (Kd.int .i64) Kd.string) (fun x : S40 => (x.f0, x.f1))
theorem k40_open {w : World} {x : S40} {cs : List Value} (h : k40.K w x cs) : cs = [.int .i64 x.f0, .string x.f1] := by
  obtain ⟨_, _, rfl, rfl, rfl⟩ := h
  exact rfl
theorem k40_mkM (w : World) (base : Nat) (ok : Nat → Prop) (x : S40)  : k40.M w base ok x [.int .i64 x.f0, .string x.f1] := ⟨[.int .i64 x.f0], [.string x.f1], rfl, rfl, rfl⟩
def rd_T40 (xs : List S40) (i : Int) : S40 := xs.getD i.toNat z40
theorem at_T40 {w : World} {A : Option Addr} {n : Nat} {xs : List S40} (h : Kd.C k40 w A n xs) (i : Int) (h0 : 0 ≤ i) (h1 : i < n) : ∃ ad , A = some ad ∧ w.cell? (ad.add (i.toNat * 2)) = some (.int .i64 (rd_T40 xs i).f0) ∧ w.cell? ⟨(ad.add (i.toNat * 2)).block, (ad.add (i.toNat * 2)).off + 1, none⟩ = some (.string (rd_T40 xs i).f1) := by
  obtain ⟨ad, c, e, _, hK, hc0⟩ := Kd.C_get h z40 i h0 h1
  have hc : ∀ j u, c[j]? = some u → w.cell? (ad.add (i.toNat * 2 + j)) = some u := hc0
  obtain rfl := k40_open hK
  exact ⟨ad, e, hc 0 _ rfl, by rw [← add_field _ _ 1 (by omega)]; exact hc 1 _ rfl⟩

/-! #### struct type 39 -/
/-! #### struct type 46 -/
structure S46 where
  f0 : Int
  f1 : Int
def z46 : S46 := ⟨(0 : Int), (0 : Int)⟩
/-! #### struct type 59 -/
/-! #### struct type 60 -/
/-! #### struct type 98 -/
structure S98 where
  f0 : Int
  f1 : Int
def k98 : Kd S98 := Kd.iso (Kd.pair (Kd.int .i64) (Kd.int .i64)) (fun x : S98 => (x.f0, x.f1))
theorem k98_mkM (w : World) (base : Nat) (ok : Nat → Prop) (x : S98)  : k98.M w base ok x [.int .i64 x.f0, .int .i64 x.f1] := ⟨[.int .i64 x.f0], [.int .i64 x.f1], rfl, rfl, rfl⟩
/-! #### struct type 97 -/
end Go.Proofs.YtbmgajddhfjchaaDoor.Obj
