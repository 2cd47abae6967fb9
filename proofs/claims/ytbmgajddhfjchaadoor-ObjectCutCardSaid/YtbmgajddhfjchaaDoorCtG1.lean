/- A map told by the list of what was stored into it, in order: what a look-up and the comma-ok answer. No condition but that different keys read differently. What the reader and the writer of meshes compute, as plain functions on lists: words, numbers, rows. No program in sight. []byte(s) as one step of the walk, for the printed texts of this seat: what the conversion of a string, or of a constant, leaves behind. No condition. faces.Check comes to what the chapter says: the kind of what is wrong, or nothing. Conditions: at most 2000 faces of at most 2000 places. faces.Check comes to what the chapter says: the kind of what is wrong, or nothing. Conditions: at most 2000 faces of at most 2000 places. sorts.Twice comes to what it is: places in their order by merging, then neighbours that are alike. Condition: at most 1048576 places. sorts.Twice's own contract, over XHOrder. -/
import Derived.Maps.Own
import Derived.Maps.OwnOps
import Derived.Maps.OwnSet
import Derived.Maps.Views
import Derived.Test.YtbmgajddhfjchaaDoorCtObjBx0
import Derived.Lib.ItoaNum
import Derived.Lib.SlBytesConst
import Derived.DeepKeys4
import Derived.MapViews
import Derived.WideKeyArgs
import Derived.WideKeyEntry
import Derived.Outline
import Derived.Lib.Hide
import Derived.Deep.RegionHeld3
import Derived.Deep.Heap
import Derived.Deep.QuietTactic
import Derived.BigQuiet
import Derived.Test.YtbmgajddhfjchaaDoorCtObjBx3
import Derived.Test.YtbmgajddhfjchaaDoorCtObjBx4
import Derived.Test.YtbmgajddhfjchaaDoorCtObjBx3
set_option linter.unusedVariables false
set_option linter.unusedSimpArgs false
namespace Go.Proofs.YtbmgajddhfjchaaDoor.MapGhost
open Go.Maps

theorem snocRec {α : Type} {P : List α → Prop} (h0 : P []) (h1 : ∀ l a, P l → P (l ++ [a])) (l : List α) : P l := by
  have key : ∀ r : List α, P r.reverse := by
    intro r
    induction r with
    | nil => exact h0
    | cons a r ih => rw [List.reverse_cons]; exact h1 _ _ ih
  have := key l.reverse
  rwa [List.reverse_reverse] at this

section
variable {α β : Type} (kl : α → Lit) (d : β → DataW Unit)
def mapD (m : List (α × β)) : DataW Unit := m.foldl (fun D p => D.put (kl p.1) (d p.2)) (.map [])
def getM [DecidableEq α] (m : List (α × β)) (a : α) : Option β := (m.reverse.find? (fun p => decide (p.1 = a))).map (·.2)

theorem mapD_snoc (m : List (α × β)) (p : α × β) : mapD kl d (m ++ [p]) = (mapD kl d m).put (kl p.1) (d p.2) := by simp [mapD, List.foldl_append]
theorem isMap_mapD (m : List (α × β)) : IsMap (mapD kl d m) := by
  have : ∀ (m : List (α × β)) (D : DataW Unit), IsMap D → IsMap (m.foldl (fun D p => D.put (kl p.1) (d p.2)) D) := by
    intro m
    induction m with
    | nil => intro D h; exact h
    | cons p m ih => intro D h; exact ih _ (h.put _ _)
  exact this m _ isMap_empty
theorem getM_snoc [DecidableEq α] (m : List (α × β)) (p : α × β) (a : α) : getM (m ++ [p]) a = if p.1 = a then some p.2 else getM m a := by
  simp only [getM, List.reverse_append, List.reverse_cons, List.reverse_nil, List.nil_append, List.singleton_append, List.find?_cons]
  by_cases h : p.1 = a <;> simp [h]
theorem getM_none [DecidableEq α] {m : List (α × β)} {a : α} : getM m a = none ↔ ∀ p ∈ m, p.1 ≠ a := by
  simp [getM]

variable [DecidableEq α] {kl d} {S : α → Prop} (hinj : ∀ a b, S a → S b → kl a = kl b → a = b) (hk : ∀ a, S a → WideAt.IsKeyLit (kl a))
include hinj hk
theorem has_mapD : ∀ (m : List (α × β)), (∀ p ∈ m, S p.1) → ∀ a, S a → Maps.has (mapD kl d m) (kl a) = (getM m a).isSome := by
  refine snocRec ?_ ?_
  · intro _ a _; rfl
  · intro m p ih hS a ha
    have hp : S p.1 := hS p (by simp)
    rw [mapD_snoc, getM_snoc]
    by_cases h : p.1 = a
    · subst h
      rw [if_pos rfl, has_put_same (isMap_mapD kl d m) (hk _ hp)]; rfl
    · rw [if_neg h, has_put_other (fun e => h (hinj _ _ hp ha e.symm))]
      exact ih (fun q hq => hS q (by simp [hq])) a ha
theorem at_mapD : ∀ (m : List (α × β)), (∀ p ∈ m, S p.1) → ∀ a, S a → ∀ z, (mapD kl d m).atKey (kl a) z = ((getM m a).map d).getD z := by
  refine snocRec ?_ ?_
  · intro _ a _ z; rfl
  · intro m p ih hS a ha z
    have hp : S p.1 := hS p (by simp)
    rw [mapD_snoc, getM_snoc]
    by_cases h : p.1 = a
    · subst h
      rw [if_pos rfl, atKey_put_same (isMap_mapD kl d m) (hk _ hp)]; rfl
    · rw [if_neg h, atKey_put_other (fun e => h (hinj _ _ hp ha e.symm))]
      exact ih (fun q hq => hS q (by simp [hq])) a ha z
end
end Go.Proofs.YtbmgajddhfjchaaDoor.MapGhost
namespace Go.Proofs.YtbmgajddhfjchaaDoor.Obj
open Go.RowKit Go.Proofs.YtbmgajddhfjchaaDoorW.PrintWords Go.Proofs.YtbmgajddhfjchaaDoorW.PrintLast Go.Proofs.YtbmgajddhfjchaaDoorW.PrintMore

abbrev Pt := S47
abbrev Tok := S40

/-! ### words -/
def isBlank (c : Int) : Bool := c == 32 || c == 9 || c == 13 || c == 10
inductive TM where
  | out | com | word (at_ : Int) (acc : List Int)
def tok : List Int → Int → TM → List (Int × List Int)
  | [], _, .word f a => [(f, a)]
  | [], _, .out => []
  | [], _, .com => []
  | c :: r, p, .com => tok r (p + 1) (if c = 10 then .out else .com)
  | c :: r, p, .word f a => if isBlank c then (f, a) :: tok r (p + 1) .out else tok r (p + 1) (.word f (a ++ [c]))
  | c :: r, p, .out => if isBlank c then tok r (p + 1) .out else if c = 35 then tok r (p + 1) .com else tok r (p + 1) (.word p [c])
def toTok (p : Int × List Int) : Tok := ⟨p.1, strOfNums p.2⟩
def toks (b : List Int) : List Tok := (tok b 0 .out).map toTok

/-! ### numbers -/
def numLoop (most : Int) : List Int → Int → Bool → Option (Int × Bool)
  | [], n, far => some (n, far)
  | c :: r, n, far => if c < 48 ∨ 57 < c then none else
      let d := c - 48
      let far' := far || decide (n > Int.tdiv (most - d) 10) || decide (d > most)
      numLoop most r (if far' then n else 10 * n + d) far'
def tokNum (s : List Int) (most : Int) : Int × Int :=
  let minus := decide (s.head? = some 45)
  let digits := if minus then s.tail else s
  if digits = [] ∨ (digits.head? = some 48 ∧ s ≠ [48]) then (0, 11) else
    match numLoop most digits 0 (decide (most < 0)) with
    | none => (0, 11)
    | some (n, far) => if far then (0, 10) else if minus then (-n, 0) else (n, 0)

/-! ### the reader -/
structure RS where
  l : List Tok
  at_ : Int
  e : Int
def RS.peek (r : RS) (end_ : Int) : Tok := r.l.headD ⟨end_, ⟨#[]⟩⟩
def RS.next (r : RS) : RS := { r with l := r.l.tail }
def RS.wrong (r : RS) (t : Tok) (e : Int) : RS := if r.e = 0 then { r with at_ := t.f0, e := e } else r
def RS.number (r : RS) (end_ low high : Int) : Int × RS :=
  let t := r.peek end_
  let ne := tokNum (bytesOf t.f1) (mx high (-low))
  let e := if ne.2 = 0 ∧ (ne.1 < low ∨ high < ne.1) then 10 else ne.2
  if e ≠ 0 then (low, (r.next).wrong t e) else (ne.1, r.next)
structure RO where
  P : List Pt
  W : Int
  F : List (List Int)
def RS.zero (r : RS) (end_ : Int) : RS :=
  let t := r.peek end_
  let ne := tokNum (bytesOf t.f1) 0
  (if ne.1 ≠ 0 ∨ ne.2 ≠ 0 then r.wrong t 11 else r).next
def rplace (end_ : Int) (r : RS) (o : RO) : RS × RO :=
  let x := r.number end_ (-4294967296) 4294967296
  let y := x.2.number end_ (-4294967296) 4294967296
  let z := y.2.zero end_
  let w := z.number end_ 1 1048576
  let r' := if o.P ≠ [] ∧ w.1 ≠ o.W then w.2.wrong (z.peek end_) 11 else w.2
  (r', { P := o.P ++ [⟨x.1, y.1⟩], W := w.1, F := o.F })
def rface (end_ : Int) (r : RS) (o : RO) : RS × RO :=
  let n : Int := o.P.length
  let a := r.number end_ 1 n
  let b := a.2.number end_ 1 n
  let c := b.2.number end_ 1 n
  if (tokNum (bytesOf (c.2.peek end_).f1) n).2 ≠ 11 then
    let d := c.2.number end_ 1 n
    (d.2, { o with F := o.F ++ [[a.1 - 1, b.1 - 1, c.1 - 1, d.1 - 1]] })
  else (c.2, { o with F := o.F ++ [[a.1 - 1, b.1 - 1, c.1 - 1]] })
def wordV : ByteArray := ⟨#[118]⟩
def wordF : ByteArray := ⟨#[102]⟩
/-- Row by row, while there are words and none was wrong. -/
def rloop (end_ : Int) : Nat → RS → RO → RS × RO
  | 0, r, o => (r, o)
  | k + 1, r, o =>
    if r.l = [] ∨ r.e ≠ 0 then (r, o) else
      let t := r.peek end_
      if t.f1 = wordV ∧ o.F = [] then rloop end_ k (rplace end_ r.next o).1 (rplace end_ r.next o).2
      else if t.f1 = wordF then rloop end_ k (rface end_ r.next o).1 (rface end_ r.next o).2
      else (r.next.wrong t 11, o)

/-! ### faces, and meshes that may be -/
def faceOk (n : Int) (f : List Int) : Prop := 3 ≤ f.length ∧ (∀ x ∈ f, 0 ≤ x ∧ x < n) ∧ f.Nodup
instance (n : Int) (f : List Int) : Decidable (faceOk n f) := by unfold faceOk; exact inferInstance
def nextOf (f : List Int) (k : Nat) : Int := f.getD ((k + 1) % f.length) 0
def edgesOf (f : List Int) : List (Int × Int) := (List.range f.length).map fun k => (f.getD k 0, nextOf f k)
def sidesFrom (i : Nat) : List (List Int) → List ((Int × Int) × Int)
  | [] => []
  | f :: r => (edgesOf f).map (fun e => (e, (i : Int))) ++ sidesFrom (i + 1) r
def known_kind (n : Int) (l : List (List Int)) : Int :=
  if n < 0 ∨ 1048576 < n then 2 else if ¬ (∀ f ∈ l, faceOk n f) then 2 else if ((sidesFrom 0 l).map (·.1)).Nodup then 0 else 80
def small_rows (l : List (List Int)) : Prop := l.length ≤ 2000000 ∧ ∀ f ∈ l, f.length ≤ 2000000
instance (l : List (List Int)) : Decidable (small_rows l) := by unfold small_rows; exact inferInstance
def faces_Check.f (a0 : Int) (l1 : List (List Int)) : Option Int := if small_rows l1 then some (known_kind a0 l1) else none

def ptPair (p : Pt) : Int × Int := (p.f0, p.f1)
def fitsP (p : Pt) : Prop := -4294967296 ≤ p.f0 ∧ p.f0 ≤ 4294967296 ∧ -4294967296 ≤ p.f1 ∧ p.f1 ≤ 4294967296
instance (p : Pt) : Decidable (fitsP p) := by unfold fitsP; exact inferInstance
def objOk (P : List Pt) (W : Int) (F : List (List Int)) : Prop :=
  F ≠ [] ∧ 1 ≤ W ∧ W ≤ 1048576 ∧ (∀ p ∈ P, fitsP p) ∧ known_kind P.length F = 0 ∧ (P.map ptPair).Nodup ∧ (∀ f ∈ F, f.length ≤ 4) ∧ ∀ i ∈ List.range P.length, ∃ f ∈ F, (i : Int) ∈ f
instance (P : List Pt) (W : Int) (F : List (List Int)) : Decidable (objOk P W F) := by unfold objOk; exact inferInstance

/-! ### the writer -/
def rowText : List (List UInt8) → List UInt8
  | [] => []
  | w :: r => (w ++ r.flatMap (fun x => 32 :: x)) ++ [10]
def rowsOf (P : List Pt) (W : Int) (F : List (List Int)) : List (List (List UInt8)) :=
  P.map (fun p => [[118], Lib.itoa p.f0, Lib.itoa p.f1, Lib.itoa 0, Lib.itoa W]) ++ F.map (fun f => [102] :: f.map (fun i => Lib.itoa (i + 1)))
def textOf (P : List Pt) (W : Int) (F : List (List Int)) : List UInt8 := (rowsOf P W F).flatMap rowText

def small_obj (P : List Pt) (F : List (List Int)) : Prop := P.length ≤ 1048576 ∧ small_rows F
instance (P : List Pt) (F : List (List Int)) : Decidable (small_obj P F) := by unfold small_obj; exact inferInstance
def object_Write.f (l0_0 : List Pt) (a0_1 : Int) (l0_2 : List (List Int)) : Option (ByteArray × Int) :=
  if small_obj l0_0 l0_2 then (if objOk l0_0 a0_1 l0_2 then some (⟨(textOf l0_0 a0_1 l0_2).toArray⟩, 0) else some (⟨#[]⟩, 2)) else none
def object_Read.f (l0 : List Int) : Option (List Pt × Int × List (List Int) × Int × Int) :=
  if l0.length ≤ 1048576 then
    let z := rloop l0.length (toks l0).length ⟨toks l0, 0, 0⟩ ⟨[], 0, []⟩
    if z.1.e ≠ 0 then some ([], 0, [], z.1.at_, z.1.e) else if objOk z.2.P z.2.W z.2.F then some (z.2.P, z.2.W, z.2.F, 0, 0) else some ([], 0, [], 0, 2)
  else none
/-! ### two at one place -/
def mergeL (lt : Int → Int → Bool) : List Int → List Int → List Int
  | [], b => b
  | x :: a, [] => x :: a
  | x :: a, y :: b => if lt y x then y :: mergeL lt (x :: a) b else x :: mergeL lt a (y :: b)
termination_by a b => a.length + b.length
def sortL (lt : Int → Int → Bool) (l : List Int) : List Int :=
  if h : l.length < 2 then l else mergeL lt (sortL lt (l.take (l.length / 2))) (sortL lt (l.drop (l.length / 2)))
termination_by l.length
decreasing_by
  · rw [List.length_take]; omega
  · rw [List.length_drop]; omega
def ptAt (P : List Pt) (i : Int) : Pt := P.getD i.toNat ⟨0, 0⟩
def lessP (p q : Pt) : Bool := decide (p.f0 < q.f0) || (decide (p.f0 = q.f0) && decide (p.f1 < q.f1))
def orderL (P : List Pt) : List Int := sortL (fun a b => lessP (ptAt P a) (ptAt P b)) ((List.range P.length).map fun i : Nat => (i : Int))
def twStep (P : List Pt) (a b : Int) (s : Int × Int × Bool) : Int × Int × Bool :=
  if ptPair (ptAt P a) = ptPair (ptAt P b) ∧ (s.2.2 = false ∨ a < s.1) then (a, b, true) else s
def twScan (P : List Pt) : List Int → Int × Int × Bool → Int × Int × Bool
  | a :: b :: r, s => twScan P (b :: r) (twStep P a b s)
  | _, s => s
def sorts_Twice.f (l0 : List Pt) : Option (Int × Int × Bool) := if l0.length ≤ 1048576 then some (twScan l0 (orderL l0) (0, 0, false)) else none
end Go.Proofs.YtbmgajddhfjchaaDoor.Obj
namespace Go.Proofs.YtbmgajddhfjchaaDoor.Obj
open Go.RowKit Go.Proofs.YtbmgajddhfjchaaDoorW.PrintWords Go.Proofs.YtbmgajddhfjchaaDoorW.PrintLast Go.Proofs.YtbmgajddhfjchaaDoorW.PrintMore

def conv_bytes.f (s : ByteArray) : Option (List Int) := if s.size ≤ 140737488355328 then some (bytesOf s) else none

def conv_const.f (s : ByteArray) : Option (List Int) := conv_bytes.f s

theorem ext_size0 (s : ByteArray) (i : Int) (h : i ≤ (s.size : Int)) : (s.extract 0 i.toNat).size = i.toNat := by
  rw [ByteArray.size_extract]
  omega
theorem ext_size1 (s : ByteArray) (i : Int) : (s.extract i.toNat s.size).size = s.size - i.toNat := by
  rw [ByteArray.size_extract]
  omega
theorem mid_len {α : Type} (xs : List α) (a b : Int) (h0 : 0 ≤ a) (h1 : a ≤ b) (hm : b ≤ xs.length) : ((xs.take b.toNat).drop a.toNat).length = b.toNat - a.toNat := by
  rw [List.length_drop, List.length_take]
  omega

/-- A row that lies in one block is told by that block. -/
theorem F_of_block {W : World} {g n : Nat} {xs : List Int} {o : Obj} (hb : W.heap[g]? = some o) (h : ReadsInt W .u8 (some ⟨g, 0, none⟩) n xs) :
    Kd.F (Kd.int .u8) W (fun k => k = g) (some ⟨g, 0, none⟩) n xs := by
  intro W' hW
  have h1 := hW g rfl (Array.getElem?_eq_some_iff.1 hb).1
  refine Kd.C_of_reads (d := (0 : Int)) (h1 := fun _ => rfl) ⟨h.1, h.2.1, fun hn => ?_⟩
  obtain ⟨ad, e, hc⟩ := h.2.2 hn
  cases e
  refine ⟨_, rfl, fun j hj => ?_⟩
  have h2 := hc j hj
  rw [add_plain] at h2 ⊢
  rw [← h2]
  simp only [World.cell?, h1]

section
variable {P : Program} {ops : Array Oper} {o : Oper} {rest : List Oper} {a : Act} {Q : Exit → Act → World → Prop}
theorem gate_conv {src dst : TypeId} {x : Operand} (_ho : o.op = .convert src dst x) {W : World} (h : wpList P ops Q (o :: rest) a W) : wpList P ops Q (o :: rest) a W := h

theorem conv_event {W : World} (N : Option Tmp) (hd : o.dst = N) (hgd : o.guard = none) {src dst e : TypeId} {u : TypeDesc} {x : Operand} (ho : o.op = .convert src dst x)
    (hs : P.underlying src = some u) (hdst : P.underlying dst = some (.slice e)) (he : P.underlying e = some (.int .u8)) (s : ByteArray) {r : List Int} (hf : conv_bytes.f s = some r) (hx : a.eval x = .string s)
    (h : ∀ v w1, Kd.V (Kd.int .u8) e w1 W.heap.size (fun k => W.heap.size ≤ k) v r → Below W.heap.size W w1 → wpList P ops Q rest (a.put N v) w1) : wpList P ops Q (o :: rest) a W := by
  subst hd
  unfold conv_bytes.f at hf
  split at hf
  · rename_i hsz
    cases hf
    refine Kd.event_run (v := .slice (some ⟨W.heap.size, 0, none⟩) s.size (grownCap W s.size 0 e)) (w1 := Lib.bytesWorld W e s) hgd ?_ (h _ _ ?_ (bytes_below (Below.refl _ _) (Nat.le_refl _) e s))
    · unfold execOp
      simp [ho, hx, print_bytes src dst e hs hdst he s W]
    · have hl := bytesOf_length s
      rw [← hl]
      refine Kd.V_mk (by rw [hl]; exact grownCap_ge _ _ _ _) ?_
      rw [hl]
      exact Kd.F_mono (F_of_block (Lib.bytesWorld_at_new W e s) (bytes_reads W e s (by omega))) (fun k hk => by omega)
  · cases hf

/-- The same, as a step of a region that draws its order. -/
theorem conv_step {W : World} {K : Act → World → Prop} {N : Option Tmp} {src dst e : TypeId} {u : TypeDesc} {x : Operand}
    (hs : P.underlying src = some u) (hdst : P.underlying dst = some (.slice e)) (he : P.underlying e = some (.int .u8)) (s : ByteArray) {r : List Int} (hf : conv_bytes.f s = some r)
    (hw : Region.wanted o (yielded ops a.tmps) = true) (hN : o.dst = N) (ho : o.op = .convert src dst x) (hx : #[x].map a.eval = #[Value.string s])
    (h : ∀ v w1, Kd.V (Kd.int .u8) e w1 W.heap.size (fun k => W.heap.size ≤ k) v r → Below W.heap.size W w1 → K (a.put N v) w1) : if Region.wanted o (yielded ops a.tmps) = true then Oper.wp P o a W K Q else K (a.put N undef) W := by
  subst hN
  have hx' : a.eval x = .string s := by simpa using hx
  unfold conv_bytes.f at hf
  split at hf
  · rename_i hsz
    cases hf
    refine event_step (v := .slice (some ⟨W.heap.size, 0, none⟩) s.size (grownCap W s.size 0 e)) (w1 := Lib.bytesWorld W e s) hw ?_ (h _ _ ?_ (bytes_below (Below.refl _ _) (Nat.le_refl _) e s))
    · unfold execOp
      simp [ho, hx', print_bytes src dst e hs hdst he s W]
    · have hl := bytesOf_length s
      rw [← hl]
      refine Kd.V_mk (by rw [hl]; exact grownCap_ge _ _ _ _) ?_
      rw [hl]
      exact Kd.F_mono (F_of_block (Lib.bytesWorld_at_new W e s) (bytes_reads W e s (by omega))) (fun k hk => by omega)
  · cases hf

/-- The same of a constant: its row has just been laid. -/
theorem conv_event_const {W : World} (N : Option Tmp) (hd : o.dst = N) (hgd : o.guard = none) {dst e : TypeId} {x : Operand} (ho : o.op = .convert dst dst x)
    (hdst : P.underlying dst = some (.slice e)) (he : P.underlying e = some (.int .u8)) (s : ByteArray) {r : List Int} (hf : conv_bytes.f s = some r) {C : Array Value} (hC : C.toList = nums .u8 (bytesOf s)) {g n c : Nat} (hx : a.eval x = .slice (some ⟨g, 0, none⟩) n c) (hgW : g = W.heap.size) (hn : n = s.size) (hc : n ≤ c)
    (h : ∀ v w1, Kd.V (Kd.int .u8) e w1 W.heap.size (fun k => W.heap.size ≤ k) v r → Below W.heap.size W w1 → wpList P ops Q rest (a.put N v) w1) : wpList P ops Q (o :: rest) a (W.alloc (.cells C e)) := by
  subst hd hgW
  unfold conv_bytes.f at hf
  split at hf
  · rename_i hsz
    cases hf
    have hl := bytesOf_length s
    refine Kd.event_run (v := .slice (some ⟨W.heap.size, 0, none⟩) n c) (w1 := W.alloc (.cells C e (C.size, C.size + 1))) hgd ?_ (h _ _ ?_ (below_alloc (Below.refl _ _) _))
    · unfold execOp
      simp [ho, hx, Lib.run_convert_bytes_const W dst e C n c hdst he]
    · subst hn
      rw [← hl] at hc ⊢
      refine Kd.V_mk hc ?_
      refine Kd.F_mono (F_of_block (heap_alloc_new W (.cells C e (C.size, C.size + 1))) ⟨rfl, by omega, fun _ => ⟨_, rfl, fun j hj => ?_⟩⟩) (fun k hk => by omega)
      rw [add_plain]
      have h1 : C[j]? = some (.int .u8 ((bytesOf s).getD j 0)) := by
        rw [← Array.getElem?_toList, hC]
        simp [nums, List.getD_eq_getElem?_getD, List.getElem?_eq_getElem hj]
      simp only [World.cell?, heap_alloc_new W (.cells C e (C.size, C.size + 1))]
      simpa using h1
  · cases hf
end
end Go.Proofs.YtbmgajddhfjchaaDoor.Obj
namespace Go.Proofs.YtbmgajddhfjchaaDoor.Obj
open Go.RowKit Go.Proofs.YtbmgajddhfjchaaDoorW.PrintWords Go.Proofs.YtbmgajddhfjchaaDoorW.PrintLast Go.Proofs.YtbmgajddhfjchaaDoorW.PrintMore
open Go.Proofs.YtbmgajddhfjchaaDoor.MapGhost Go.Maps

/-! ### maps keyed by segments -/
theorem laidSeg : laidOutB Tryd.prog = true := by kernel_rfl
theorem rowSeg : (98 : TypeId) < Tryd.prog.types.size := of_decide_eq_true (by kernel_rfl)
theorem wideSeg : (match Tryd.prog.underlying 98 with | some (.array _ _) | some (.struct _) => true | _ => false) = true := by rw [Tryd.underlying98]
set_option maxRecDepth 100000 in
theorem lawSeg : Keyed Tryd.prog 98 := Keyed.of_law (deep_law_laid laidSeg (m := 2) (by omega) rowSeg (by kernel_rfl) wideSeg)
def wfi (x : Int) : Prop := (Lit.int .i64 x).wf = true
def segV (p : Int × Int) : Value := .agg #[.int .i64 p.1, .int .i64 p.2]
def segL (p : Int × Int) : Lit := .string (keyBytes [.int .i64 p.1, .int .i64 p.2])
theorem cellsSeg : Tryd.prog.cellsOf 98 = 2 := by kernel_rfl
set_option maxRecDepth 100000 in
theorem keySeg {p : Int × Int} (h : wfi p.1 ∧ wfi p.2) : keyOf Tryd.prog 98 (segV p) = some (segL p) := by
  have hk : Tryd.prog.keyType 98 = true := by kernel_rfl
  obtain ⟨x, y⟩ := p
  obtain ⟨hx, hy⟩ := h
  have hf : (segV (x, y)).formed Tryd.prog 98 = true := by simp [Value.formed, segV, Tryd.underlying98, cellsSeg]
  obtain ⟨n, hn⟩ : ∃ n, Tryd.prog.types.size = n + 1 := ⟨Tryd.prog.types.size - 1, by kernel_rfl⟩
  unfold keyOf
  rw [Tryd.underlying98]
  simp only [hk, hf]
  rw [hn]
  clear hn
  have hx' : (Lit.int .i64 x).wf = true := hx
  have hy' : (Lit.int .i64 y).wf = true := hy
  have c3 : Tryd.prog.cellsOf 3 = 1 := by kernel_rfl
  simp [Program.keyLits, Tryd.underlying98, Tryd.underlying3, cellsSeg, segV, segL, Value.cells, List.mapM_cons, hx', hy', c3]
theorem segL_inj {p q : Int × Int} (hp : wfi p.1 ∧ wfi p.2) (hq : wfi q.1 ∧ wfi q.2) (h : segL p = segL q) : p = q := by
  have := lawSeg.inj (keySeg hp) (h ▸ keySeg hq)
  obtain ⟨a, b⟩ := p
  obtain ⟨c, d⟩ := q
  simpa [segV] using this
theorem segL_key {p : Int × Int} (hp : wfi p.1 ∧ wfi p.2) : WideAt.IsKeyLit (segL p) := lawSeg.key (keySeg hp)
theorem zeroInt (w : World) : (zeroValue 3).run Tryd.prog w = .ok (.int .i64 0) w := by kernel_rfl

/-- Block b is a map that was made of what m tells, in order. -/
def EM (w : World) (b : Nat) (m : List ((Int × Int) × Int)) : Prop :=
  w.ownsMap Tryd.prog 98 (plainElem Tryd.prog 3) b m.length (mapD segL (fun v : Int => (.lit (.int .i64 v) : DataW Unit)) m) ∧ ∀ p ∈ m, wfi p.1.1 ∧ wfi p.1.2
theorem EM.kept {w w' : World} {b : Nat} {m : List ((Int × Int) × Int)} (h : EM w b m) (hb : Below w.heap.size w w') : EM w' b m := ⟨h.1.kept (grown_of_below hb none) (by simp), h.2⟩
theorem EM.grown {w w' : World} {b : Nat} {m : List ((Int × Int) × Int)} (h : EM w b m) {row : Option Nat} (hg : w.grownBy w' row) (hne : some b ≠ row) : EM w' b m := ⟨h.1.kept hg hne, h.2⟩
theorem EM.made (w : World) : EM (w.alloc (.map #[] 0)) w.heap.size [] := ⟨World.ownsMap_made _ _ _ _, by simp⟩
theorem EM.lt {w : World} {b : Nat} {m : List ((Int × Int) × Int)} (h : EM w b m) : b < w.heap.size := h.1.lt
section
variable {w : World} {ops : Array Oper} {rest : List Oper} {o : Oper} {a : Act} {Q : Exit → Act → World → Prop}
theorem EM_look {b : Nat} {m : List ((Int × Int) × Int)} (hg : o.guard = none) {x y : Operand} (hop : o.op = Op.lookup 87 x y true) (k : Int × Int) (r : Option Int)
    (hm : a.eval x = .map (some b)) (h : EM w b m) (hk : wfi k.1 ∧ wfi k.2) (hx : a.eval y = segV k) (hr : getM m k = r)
    (hK : wpList Tryd.prog ops Q rest (a.put o.dst (.tuple #[.int .i64 (r.getD 0), .bool r.isSome])) w) : wpList Tryd.prog ops Q (o :: rest) a w := by
  refine wpList_lookup_own_ok_int w hg x y 87 hop 98 3 .i64 lawSeg Tryd.underlying87 Tryd.underlying3 (zeroInt w) b m.length _ hm h.1 _ _ hx (keySeg hk) ?_
  intro c hat _
  have h1 := at_mapD (d := fun v : Int => (.lit (.int .i64 v) : DataW Unit)) (fun _ _ => segL_inj) (fun _ => segL_key) m (fun p hp => h.2 p hp) k hk (.lit (.int .i64 0))
  have h2 := has_mapD (d := fun v : Int => (.lit (.int .i64 v) : DataW Unit)) (fun _ _ => segL_inj) (fun _ => segL_key) m (fun p hp => h.2 p hp) k hk
  rw [h1, hr] at hat
  rw [h2, hr]
  cases r with
  | none => simp at hat; subst hat; exact hK
  | some v => simp at hat; subst hat; exact hK
theorem EM_store {b : Nat} {m : List ((Int × Int) × Int)} (hg : o.guard = none) {x y z : Operand} (hop : o.op = Op.mapUpdate 87 x y z) (k : Int × Int) (v : Int)
    (hm : a.eval x = .map (some b)) (h : EM w b m) (hl : m.length < maxLen) (hk : wfi k.1 ∧ wfi k.2) (hv : wfi v) (hx : a.eval y = segV k) (hz : a.eval z = .int .i64 v)
    (hK : ∀ w', EM w' b (m ++ [(k, v)]) → w.grownBy w' (some b) → wpList Tryd.prog ops Q rest (a.put o.dst undef) w') : wpList Tryd.prog ops Q (o :: rest) a w := by
  refine wpList_mapUpdate_own w hg x y z 87 hop 98 3 lawSeg Tryd.underlying87 _ b m.length _ hm h.1 hl _ _ _ hx hz (keySeg hk) _ [] (plainElem_int Tryd.underlying3 hv) ?_
  intro w' h1 h2
  refine hK w' ⟨?_, ?_⟩ h2
  · rw [mapD_snoc, List.length_append]
    exact h1
  · intro p hp
    rcases List.mem_append.1 hp with hp | hp
    · exact h.2 p hp
    · simp at hp; subst hp; exact hk
end

set_option maxHeartbeats 400000 in
theorem left_calls {b : Nat} {m : List ((Int × Int) × Int)} (x y : Int) (w : World) (h : EM w b m) (hx : wfi x) (hy : wfi y) :
    Calls Tryd.prog 45 #[.agg #[.map (some b)], .int .i64 x, .int .i64 y] w fun e w' => e = .returned (.int .i64 ((getM m (x, y)).getD (-1))) ∧ Below w.heap.size w w' := by
  have h' := h.kept (below_alloc (Below.refl _ _) (.cells #[.map (some b)] 89))
  cases hr : getM m (x, y) with
  | none =>
    go_enter Tryd.func45, Tryd.ntmps45
    go_wp2_with (at_lookup; refine EM_look rfl rfl (x, y) none rfl h' ⟨hx, hy⟩ rfl hr ?_)
    go_ret
    exact ⟨rfl, below_alloc (Below.refl _ _) _⟩
  | some v =>
    go_enter Tryd.func45, Tryd.ntmps45
    go_wp2_with (at_lookup; refine EM_look rfl rfl (x, y) (some v) rfl h' ⟨hx, hy⟩ rfl hr ?_)
    go_ret
    exact ⟨rfl, below_alloc (Below.refl _ _) _⟩
end Go.Proofs.YtbmgajddhfjchaaDoor.Obj
namespace Go.Proofs.YtbmgajddhfjchaaDoor.Obj
open Go.RowKit Go.Proofs.YtbmgajddhfjchaaDoorW.PrintWords Go.Proofs.YtbmgajddhfjchaaDoorW.PrintLast Go.Proofs.YtbmgajddhfjchaaDoorW.PrintMore
open Go.Proofs.YtbmgajddhfjchaaDoor.MapGhost Go.Maps

theorem at_rows {w : World} {A : Option Addr} {n : Nat} {xs : List (List Int)} (h : Kd.C (Kd.slice 3 (Kd.int .i64)) w A n xs) (i : Nat) (h1 : i < n) : ∃ ad A0 c0, A = some ad ∧ w.cell? (ad.add i) = some (.slice A0 (xs.getD i []).length c0) ∧ (xs.getD i []).length ≤ c0 ∧ (Kd.int .i64).C w A0 (xs.getD i []).length (xs.getD i []) := by
  obtain ⟨ad, c, e, _, hK, hc0⟩ := Kd.C_get h ([] : List Int) (i : Int) (by omega) (by omega)
  have hc : ∀ j u, c[j]? = some u → w.cell? (ad.add (((i : Int).toNat) * 1 + j)) = some u := hc0
  obtain ⟨A0, c0, rfl, l0, g0⟩ := hK
  refine ⟨ad, A0, c0, e, ?_, l0, g0⟩
  have hq := hc 0 _ rfl
  simpa using hq

def KnownPost (n : Int) (A : Option Addr) (c : Nat) (l : List (List Int)) (w : World) (e : Ending) (w' : World) : Prop :=
  ∃ mv sv, e = .returned (.tuple #[.agg #[mv, sv], .int .i64 (known_kind n l)]) ∧ Below w.heap.size w w' ∧
    (known_kind n l = 0 → ∃ b, mv = .map (some b) ∧ sv = .slice A l.length c ∧ EM w' b (sidesFrom 0 l)) ∧ (known_kind n l ≠ 0 → mv = .map none ∧ sv = .slice none 0 0)

/-! ### what is asked of the callee -/
theorem index_from (l : List Int) (a : Int) (hl : l.length ≤ 9223372036854775806) : ∀ (d i k : Nat), i ≤ l.length → l.length - i = d → d < k →
    ∃ r, slices_Index_int_int.l0 k l a (l.length : Int) (i : Int) = some r ∧ (0 ≤ r ↔ a ∈ l.drop i) := by
  intro d
  induction d with
  | zero =>
    intro i k hi hd hk
    obtain ⟨k, rfl⟩ : ∃ m, k = m + 1 := ⟨k - 1, by omega⟩
    simp only [slices_Index_int_int.l0]
    rw [if_neg (by omega), List.drop_eq_nil_of_le (by omega)]
    exact ⟨-1, rfl, by simp⟩
  | succ d ih =>
    intro i k hi hd hk
    obtain ⟨k, rfl⟩ : ∃ m, k = m + 1 := ⟨k - 1, by omega⟩
    have hlt : i < l.length := by omega
    simp only [slices_Index_int_int.l0]
    rw [if_pos (by omega), if_pos (by omega), if_pos (by omega)]
    have hr : rd l (i : Int) = l[i] := by simp [rd, List.getD_eq_getElem?_getD, hlt]
    rw [hr, List.drop_eq_getElem_cons hlt]
    by_cases h : a = l[i]
    · rw [if_pos h]
      exact ⟨i, rfl, ⟨fun _ => by rw [h]; exact List.mem_cons_self, fun _ => by omega⟩⟩
    · rw [if_neg h]
      have hw : wrap64 ((i : Int) + 1) = ((i + 1 : Nat) : Int) := by unfold wrap64; omega
      obtain ⟨r, h1, h2⟩ := ih (i + 1) k (by omega) (by omega) (by omega)
      rw [hw]
      exact ⟨r, h1, h2.trans ⟨fun hm => List.mem_cons_of_mem _ hm, fun hm => (List.mem_cons.1 hm).resolve_left h⟩⟩
theorem contains_f (l : List Int) (a : Int) (hl : l.length ≤ 9223372036854775806) : slices_Contains_int_int.f (l.length + 1) l a = some (decide (a ∈ l)) := by
  obtain ⟨r, h1, h2⟩ := index_from l a hl l.length 0 (l.length + 1) (by omega) (by omega) (by omega)
  unfold slices_Contains_int_int.f slices_Index_int_int.f
  have h1' : slices_Index_int_int.l0 (l.length + 1) l a (l.length : Int) 0 = some r := h1
  rw [h1']
  simp only [Option.bind_some, Option.some.injEq]
  rw [List.drop_zero] at h2
  by_cases h : a ∈ l
  · rw [decide_eq_true h, decide_eq_true (h2.2 h)]
  · rw [decide_eq_false h, decide_eq_false (fun hr => h (h2.1 hr))]

set_option maxHeartbeats 400000 in
theorem known_range (n : Int) (A : Option Addr) (c : Nat) (l : List (List Int)) (w : World) (hn : n < 0 ∨ 1048576 < n) :
    Calls Tryd.prog 36 #[.int .i64 n, .slice A l.length c] w (KnownPost n A c l w) := by
  have hk : known_kind n l = 2 := if_pos hn
  have H : ∀ w', Below w.heap.size w w' → KnownPost n A c l w (.returned (.tuple #[.agg #[.map none, .slice none 0 0], .int .i64 2])) w' := fun w' hb => ⟨.map none, .slice none 0 0, by rw [hk], hb, by rw [hk]; omega, fun _ => ⟨rfl, rfl⟩⟩
  have HH := Lib.hid H
  clear H hk
  rcases hn with h | h
  · have h1 : decide (n < 0) = true := decide_eq_true h
    go_enter Tryd.func36, Tryd.ntmps36
    go_wp2
    exact bodyPost_ret (v := .tuple #[.agg #[.map none, .slice none 0 0], .int .i64 2]) (by simp [results, Tryd.results36, go_sem]) rfl (HH.out _ (below_alloc (Below.refl _ _) _))
  · have h1 : decide (n < 0) = false := decide_eq_false (by omega)
    have h2 : decide (1048576 < n) = true := decide_eq_true h
    go_enter Tryd.func36, Tryd.ntmps36
    go_wp2
    exact bodyPost_ret (v := .tuple #[.agg #[.map none, .slice none 0 0], .int .i64 2]) (by simp [results, Tryd.results36, go_sem]) rfl (HH.out _ (below_alloc (Below.refl _ _) _))

/-- What holds of the world while the faces are looked at. -/
structure Looks (w wr : World) : Prop where
  below : Below w.heap.size w wr
  res : wr.heap[w.heap.size]? = some (.cells #[.map none, .slice none 0 0] 91 (0, 0))
theorem Looks.start (w : World) : Looks w (w.alloc (.cells #[.map none, .slice none 0 0] 91)) := ⟨below_alloc (Below.refl _ _) _, heap_alloc_new w _⟩
theorem Looks.drewN {w wr : World} (h : Looks w wr) (m : Nat) : Looks w (wr.drewN m) := ⟨pw_below_drewN h.below m, h.res⟩

theorem getD_of_lt {l : List (List Int)} {i : Nat} (h : i < l.length) : ∃ f, l.getD i [] = f ∧ l[i]? = some f := ⟨_, rfl, by simp [List.getD_eq_getElem?_getD, h]⟩
theorem take_succ_of {α : Type} {l : List α} {i : Nat} {a : α} (h : l[i]? = some a) : l.take (i + 1) = l.take i ++ [a] := by rw [List.take_add_one, h]; rfl
theorem places_step {n : Int} {f : List Int} {j : Nat} {x : Int} (h : f[j]? = some x) (hp : (∀ y ∈ f.take j, 0 ≤ y ∧ y < n) ∧ (f.take j).Nodup) (h0 : 0 ≤ x) (h1 : x < n) (hm : x ∉ f.take j) :
    (∀ y ∈ f.take (j + 1), 0 ≤ y ∧ y < n) ∧ (f.take (j + 1)).Nodup := by
  rw [take_succ_of h]
  refine ⟨fun y hy => ?_, ?_⟩
  · rcases List.mem_append.1 hy with hy | hy
    · exact hp.1 y hy
    · simp at hy; subst hy; exact ⟨h0, h1⟩
  · rw [List.nodup_append]
    refine ⟨hp.2, by simp, fun a ha b hb => ?_⟩
    simp at hb; subst hb
    intro e
    exact hm (e ▸ ha)
theorem mem_of_get {α : Type} {l : List α} {i : Nat} {a : α} (h : l[i]? = some a) : a ∈ l := List.mem_of_getElem? h
theorem not_face {n : Int} {l : List (List Int)} {f : List Int} (hn0 : 0 ≤ n) (hn1 : n ≤ 1048576) (hf : f ∈ l) (h : ¬ faceOk n f) : known_kind n l = 2 := by
  unfold known_kind
  rw [if_neg (by omega), if_pos (fun h' => h (h' f hf))]
theorem not_places {n : Int} {f : List Int} {j : Nat} {x : Int} (h : f[j]? = some x) (hx : x < 0 ∨ n ≤ x ∨ x ∈ f.take j) : ¬ faceOk n f := by
  rintro ⟨_, h1, h2⟩
  have := h1 x (mem_of_get h)
  rcases hx with hx | hx | hx
  · omega
  · omega
  · obtain ⟨hj, e⟩ := List.getElem?_eq_some_iff.1 h
    rw [← List.take_append_drop j f, List.nodup_append] at h2
    refine h2.2.2 x hx x ?_ rfl
    rw [List.drop_eq_getElem_cons hj, e]
    exact List.mem_cons_self

theorem end_arg {n : Int} {A : Option Addr} {c : Nat} {l : List (List Int)} {w w' : World} (hk : known_kind n l = 2) (hb : Below w.heap.size w w') :
    KnownPost n A c l w (.returned (.tuple #[.agg #[.map none, .slice none 0 0], .int .i64 2])) w' := ⟨.map none, .slice none 0 0, by rw [hk], hb, by rw [hk]; omega, fun _ => ⟨rfl, rfl⟩⟩

theorem Looks.cells {w wr : World} (h : Looks w wr) : wr.cell? ⟨w.heap.size, 0, none⟩ = some (.map none) ∧ wr.cell? ⟨w.heap.size, 1, none⟩ = some (.slice none 0 0) ∧ wr.frozen? ⟨w.heap.size, 0, none⟩ = false ∧ wr.frozen? ⟨w.heap.size, 1, none⟩ = false :=
  ⟨(blk_cell h.res 0).trans rfl, (blk_cell h.res 1).trans rfl, blk_frozen h.res 0, blk_frozen h.res 1⟩

/-! ### the edges, one by one -/
theorem sidesFrom_append (s : Nat) (a b : List (List Int)) : sidesFrom s (a ++ b) = sidesFrom s a ++ sidesFrom (s + a.length) b := by
  induction a generalizing s with
  | nil => simp [sidesFrom]
  | cons f r ih => simp only [List.cons_append, sidesFrom, ih, List.append_assoc, List.length_cons]; rw [show s + 1 + r.length = s + (r.length + 1) from by omega]
def doneTo (l : List (List Int)) (i : Nat) (f : List Int) (j : Nat) : List ((Int × Int) × Int) := sidesFrom 0 (l.take i) ++ ((edgesOf f).take j).map (fun e => (e, (i : Int)))
theorem edgesOf_length (f : List Int) : (edgesOf f).length = f.length := by simp [edgesOf]
theorem edgesOf_get {f : List Int} {j : Nat} (h : j < f.length) : (edgesOf f)[j]? = some (f.getD j 0, nextOf f j) := by simp [edgesOf, h]
theorem doneTo_zero (l : List (List Int)) (i : Nat) (f : List Int) : doneTo l i f 0 = sidesFrom 0 (l.take i) := by simp [doneTo]
theorem doneTo_succ {l : List (List Int)} {i : Nat} {f : List Int} {j : Nat} (h : j < f.length) : doneTo l i f (j + 1) = doneTo l i f j ++ [((f.getD j 0, nextOf f j), (i : Int))] := by
  unfold doneTo
  rw [take_succ_of (edgesOf_get h), List.map_append, List.append_assoc]
  rfl
theorem doneTo_full {l : List (List Int)} {i : Nat} {f : List Int} (h : l[i]? = some f) : doneTo l i f f.length = sidesFrom 0 (l.take (i + 1)) := by
  have hi : i < l.length := (List.getElem?_eq_some_iff.1 h).1
  unfold doneTo
  rw [take_succ_of h, sidesFrom_append, List.take_of_length_le (l := edgesOf f) (by rw [edgesOf_length]; omega)]
  have : (l.take i).length = i := by rw [List.length_take]; omega
  simp [sidesFrom, this]
theorem doneTo_prefix {l : List (List Int)} {i : Nat} {f : List Int} (h : l[i]? = some f) (j : Nat) : ∃ r, sidesFrom 0 l = doneTo l i f j ++ r := by
  have hi : i < l.length := (List.getElem?_eq_some_iff.1 h).1
  have h1 : sidesFrom 0 l = sidesFrom 0 (l.take (i + 1)) ++ sidesFrom (0 + (l.take (i + 1)).length) (l.drop (i + 1)) := by rw [← sidesFrom_append, List.take_append_drop]
  rw [h1, ← doneTo_full h]
  refine ⟨(((edgesOf f).take f.length).drop j).map (fun e => (e, (i : Int))) ++ sidesFrom (0 + (l.take (i + 1)).length) (l.drop (i + 1)), ?_⟩
  unfold doneTo
  simp only [List.append_assoc]
  congr 1
  rw [← List.append_assoc, ← List.map_append]
  congr 2
  by_cases hj : j ≤ f.length
  · rw [show (edgesOf f).take j = ((edgesOf f).take f.length).take j from by rw [List.take_take, Nat.min_eq_left hj], List.take_append_drop]
  · rw [List.take_of_length_le (i := j) (by rw [edgesOf_length]; omega), List.take_of_length_le (i := f.length) (by rw [edgesOf_length]; omega), List.drop_eq_nil_of_le (by rw [edgesOf_length]; omega), List.append_nil]
theorem sidesFrom_length {l : List (List Int)} (h : ∀ f ∈ l, f.length ≤ 2000000) (s : Nat) : (sidesFrom s l).length ≤ l.length * 2000000 := by
  induction l generalizing s with
  | nil => simp [sidesFrom]
  | cons f r ih =>
    have := ih (fun g hg => h g (by simp [hg])) (s + 1)
    have := h f (by simp)
    simp only [sidesFrom, List.length_append, List.length_map, edgesOf_length, List.length_cons]
    omega
theorem doneTo_length {l : List (List Int)} {i : Nat} {f : List Int} {j : Nat} (hl : l.length ≤ 2000000) (h : ∀ f ∈ l, f.length ≤ 2000000) (hf : f.length ≤ 2000000) : (doneTo l i f j).length < maxLen := by
  have h1 := sidesFrom_length (l := l.take i) (fun g hg => h g (List.mem_of_mem_take hg)) 0
  have h2 : (l.take i).length ≤ 2000000 := by rw [List.length_take]; omega
  have h3 : (l.take i).length * 2000000 ≤ 2000000 * 2000000 := Nat.mul_le_mul_right _ h2
  have h4 : ((edgesOf f).take j).length ≤ 2000000 := by rw [List.length_take, edgesOf_length]; omega
  unfold doneTo maxLen
  rw [List.length_append, List.length_map]
  omega
theorem kind_ok {n : Int} {l : List (List Int)} (hn0 : 0 ≤ n) (hn1 : n ≤ 1048576) (hok : ∀ f ∈ l, faceOk n f) : known_kind n l = if ((sidesFrom 0 l).map (·.1)).Nodup then 0 else 80 := by
  unfold known_kind
  rw [if_neg (by omega), if_neg (by simpa using hok)]
theorem kind_twice {n : Int} {l : List (List Int)} (hn0 : 0 ≤ n) (hn1 : n ≤ 1048576) (hok : ∀ f ∈ l, faceOk n f) {i j : Nat} {f : List Int} (h : l[i]? = some f) (hj : j < f.length) (hm : getM (doneTo l i f j) (f.getD j 0, nextOf f j) ≠ none) : known_kind n l = 80 := by
  rw [kind_ok hn0 hn1 hok, if_neg]
  intro hnd
  obtain ⟨r, hr⟩ := doneTo_prefix h (j + 1)
  rw [hr, doneTo_succ hj, List.map_append, List.map_append, List.nodup_append, List.nodup_append] at hnd
  apply hm
  rw [getM_none]
  intro p hp e
  exact hnd.1.2.2 p.1 (List.mem_map_of_mem hp) (f.getD j 0, nextOf f j) (by simp) e
theorem next_in {n : Int} {f : List Int} (h : faceOk n f) {j : Nat} (hj : j < f.length) : (0 ≤ f.getD j 0 ∧ f.getD j 0 < n) ∧ (0 ≤ nextOf f j ∧ nextOf f j < n) := by
  have h1 : ∀ k, k < f.length → 0 ≤ f.getD k 0 ∧ f.getD k 0 < n := fun k hk => by
    rw [List.getD_eq_getElem?_getD, List.getElem?_eq_getElem hk]
    exact h.2.1 _ (List.getElem_mem hk)
  exact ⟨h1 j hj, h1 _ (Nat.mod_lt _ (by omega))⟩
theorem edge_f {f : List Int} {j : Nat} (hj : j < f.length) (hf : f.length ≤ 2000000) : faces_edge.f f (j : Int) = some (f.getD j 0, nextOf f j) := by
  have hw : wrap64 ((j : Int) + 1) = ((j + 1 : Nat) : Int) := by unfold wrap64; omega
  have hm : Int.tmod ((j + 1 : Nat) : Int) (f.length : Int) = (((j + 1) % f.length : Nat) : Int) := by
    rw [Int.tmod_eq_emod_of_nonneg (by omega)]
    omega
  have hlt : (j + 1) % f.length < f.length := Nat.mod_lt _ (by omega)
  unfold faces_edge.f
  rw [if_pos (by omega), if_pos (by omega), if_neg (by omega), hw, hm, if_pos (by omega), if_pos (by omega)]
  unfold rd nextOf
  rw [Int.toNat_natCast, Int.toNat_natCast]
theorem wfi_of {n x : Int} (hn1 : n ≤ 1048576) (h : 0 ≤ x ∧ x < n) : wfi x := WalkArith.wf_i64 (by omega)

/-- What holds of the world while the edges are stored: the map at block b, the mesh that holds it behind it. -/
structure Maps2 (w wr : World) (b : Nat) (sv : Value) (m : List ((Int × Int) × Int)) : Prop where
  looks : Looks w wr
  em : EM wr b m
  new : w.heap.size < b
  mesh : wr.heap[b + 1]? = some (.cells #[.map (some b), sv] 91 (0, 0))
  nd : (m.map (·.1)).Nodup
theorem Looks.next {w wr wr' : World} (h : Looks w wr) (hb : Below wr.heap.size wr wr') : Looks w wr' := ⟨below_step h.below hb, blk_below h.res hb⟩
theorem Maps2.start {w wr : World} (h : Looks w wr) (sv : Value) : Maps2 w ((wr.alloc (.map #[] 0)).alloc (.cells #[.map (some wr.heap.size), sv] 91)) wr.heap.size sv [] :=
  have hb := below_alloc (below_alloc (Below.refl wr.heap.size wr) (.map #[] 0)) (.cells #[.map (some wr.heap.size), sv] 91)
  ⟨h.next hb, (EM.made wr).kept (below_alloc (Below.refl _ _) _), blk_lt h.res, by
    have := heap_alloc_new (wr.alloc (.map #[] 0)) (.cells #[.map (some wr.heap.size), sv] 91)
    simpa using this, by simp⟩
theorem Maps2.next {w wr wr' : World} {b : Nat} {sv : Value} {m : List ((Int × Int) × Int)} (h : Maps2 w wr b sv m) (hb : Below wr.heap.size wr wr') : Maps2 w wr' b sv m :=
  ⟨h.looks.next hb, h.em.kept hb, h.new, blk_below h.mesh hb, h.nd⟩
theorem Maps2.store {w wr wr' : World} {b : Nat} {sv : Value} {m m' : List ((Int × Int) × Int)} (h : Maps2 w wr b sv m) (he : EM wr' b m') (hg : wr.grownBy wr' (some b)) (hnd : (m'.map (·.1)).Nodup) : Maps2 w wr' b sv m' :=
  ⟨⟨h.looks.below.grown hg h.looks.below.size (fun k e => by cases e; exact Nat.le_of_lt h.new), (hg.block _ (blk_lt h.looks.res) (fun e => by injection e with e; have := h.new; omega)).trans h.looks.res⟩, he, h.new,
    (hg.block _ (blk_lt h.mesh) (fun e => by injection e with e; omega)).trans h.mesh, hnd⟩

theorem doneTo_nonneg {l : List (List Int)} {i : Nat} {f : List Int} {j : Nat} {k : Int × Int} {v : Int} (h : getM (doneTo l i f j) k = some v) : 0 ≤ v := by
  have hs : ∀ (l : List (List Int)) (s : Nat), ∀ p ∈ sidesFrom s l, 0 ≤ p.2 := by
    intro l
    induction l with
    | nil => intro s p hp; simp [sidesFrom] at hp
    | cons f r ih =>
      intro s p hp
      simp only [sidesFrom, List.mem_append, List.mem_map] at hp
      rcases hp with ⟨e, _, rfl⟩ | hp
      · exact Int.natCast_nonneg _
      · exact ih _ p hp
  unfold getM at h
  obtain ⟨p, hp, rfl⟩ := Option.map_eq_some_iff.1 h
  have hp' := List.mem_of_find?_eq_some hp
  rw [List.mem_reverse] at hp'
  unfold doneTo at hp'
  rcases List.mem_append.1 hp' with hp' | hp'
  · exact hs _ _ p hp'
  · obtain ⟨e, _, rfl⟩ := List.mem_map.1 hp'
    exact Int.natCast_nonneg _
theorem end_twice {n : Int} {A : Option Addr} {c : Nat} {l : List (List Int)} {w w' : World} (hk : known_kind n l = 80) (hb : Below w.heap.size w w') :
    KnownPost n A c l w (.returned (.tuple #[.agg #[.map none, .slice none 0 0], .int .i64 80])) w' := ⟨.map none, .slice none 0 0, by rw [hk], hb, by rw [hk]; omega, fun _ => ⟨rfl, rfl⟩⟩
theorem end_ok {n : Int} {A : Option Addr} {c : Nat} {l : List (List Int)} {w wr : World} {b : Nat} (hn0 : 0 ≤ n) (hn1 : n ≤ 1048576) (hok : ∀ f ∈ l, faceOk n f) (h : Maps2 w wr b (.slice A l.length c) (sidesFrom 0 l)) :
    KnownPost n A c l w (.returned (.tuple #[.agg #[.map (some b), .slice A l.length c], .int .i64 0])) ((wr.setCell ⟨w.heap.size, 0, none⟩ (.map (some b))).setCell ⟨w.heap.size, 1, none⟩ (.slice A l.length c)) := by
  have hk : known_kind n l = 0 := by rw [kind_ok hn0 hn1 hok, if_pos h.nd]
  refine ⟨_, _, by rw [hk], below_set (below_set h.looks.below (Nat.le_refl _)) (Nat.le_refl _), fun _ => ⟨b, rfl, rfl, ?_⟩, fun hc => absurd hk hc⟩
  have hb : b ≠ w.heap.size := by have := h.new; omega
  exact ⟨(h.em.1.setCell (a := ⟨w.heap.size, 0, none⟩) hb _).setCell (a := ⟨w.heap.size, 1, none⟩) hb _, h.em.2⟩
theorem nodup_snoc {m : List ((Int × Int) × Int)} {k : Int × Int} {v : Int} (h : (m.map (·.1)).Nodup) (hg : getM m k = none) : ((m ++ [(k, v)]).map (·.1)).Nodup := by
  rw [List.map_append, List.nodup_append]
  refine ⟨h, by simp, fun a ha b hb => ?_⟩
  obtain ⟨p, hp, rfl⟩ := List.mem_map.1 ha
  simp at hb
  subst hb
  exact getM_none.1 hg p hp

set_option maxHeartbeats 1000000 in
set_option maxRecDepth 100000 in
theorem known_in (n : Int) (A : Option Addr) (c : Nat) (l : List (List Int)) (w : World) (hn0 : 0 ≤ n) (hn1 : n ≤ 1048576) (hr : Kd.C (Kd.slice 3 (Kd.int .i64)) w A l.length l) (hs : small_rows l) :
    Calls Tryd.prog 36 #[.int .i64 n, .slice A l.length c] w (KnownPost n A c l w) := by
  have h1 : decide (n < 0) = false := decide_eq_false (by omega)
  have h2 : decide (1048576 < n) = false := decide_eq_false (by omega)
  have hs1 : l.length ≤ 2000000 := hs.1
  have HS := Lib.hid hs.2
  clear hs
  go_enter Tryd.func36, Tryd.ntmps36
  go_wp2
  have HL := Lib.hid (Looks.start w)
  go_loopw [24] (fun v wr => ∃ i : Nat, i ≤ l.length ∧ v = .int .i64 i ∧ Hid (∀ f ∈ l.take i, faceOk n f) ∧ Hid (Looks w wr)) (fun v _ => l.length - (intOf v).toNat)
  case atStart => exact ⟨0, Nat.zero_le _, rfl, Lib.hid (by simp), HL⟩
  case round =>
    clear HL
    obtain ⟨i, hi, rfl, hok, hl⟩ := hrel
    by_cases hlt : i < l.length
    · obtain ⟨ad, A0, c0, hA, hx, hl0, hi0⟩ := at_rows hr i hlt
      obtain ⟨f, hf, hf'⟩ := getD_of_lt hlt
      rw [hf] at hx hl0 hi0
      clear hf
      have hfl : f.length ≤ 2000000 := HS.out f (mem_of_get hf')
      have Hf := Lib.hid hf'
      clear hf'
      subst hA
      have hx' := (hl.out.below.cell (World.block_lt_of_cell? w _ hx)).trans hx
      clear hx
      go_wp2
      go_loopw [30] (fun v wr' => ∃ j : Nat, j ≤ f.length ∧ v = .int .i64 j ∧ Hid ((∀ y ∈ f.take j, 0 ≤ y ∧ y < n) ∧ (f.take j).Nodup) ∧ Hid (Looks w wr')) (fun v _ => f.length - (intOf v).toNat)
      case atStart => exact ⟨0, Nat.zero_le _, rfl, Lib.hid (by simp), hl⟩
      case round =>
        clear hl hx'
        obtain ⟨j, hj, rfl, hpl, hl⟩ := hrel
        by_cases hjt : j < f.length
        · obtain ⟨x, hxe⟩ : ∃ x, f[j]? = some x := ⟨_, List.getElem?_eq_getElem hjt⟩
          obtain ⟨ad1, hA1, hx1⟩ := Kd.at_int hi0 (j : Int) (by omega) (by omega)
          subst hA1
          have hrd : rd f (j : Int) = x := by simp [rd, List.getD_eq_getElem?_getD, hxe]
          rw [hrd] at hx1
          have hx2 := (hl.out.below.cell (World.block_lt_of_cell? w _ hx1)).trans hx1
          rw [Int.toNat_natCast] at hx2
          clear hx1 hrd
          have Hx := Lib.hid hxe
          clear hxe
          by_cases hx0 : x < 0
          · have b0 : decide (x < 0) = true := decide_eq_true hx0
            have HK := Lib.hid (not_face hn0 hn1 (mem_of_get Hf.out) (not_places Hx.out (.inl hx0)))
            obtain ⟨r0, r1, f0, f1⟩ := hl.out.cells
            go_wp2
            refine bodyPost_ret (v := .tuple #[.agg #[.map none, .slice none 0 0], .int .i64 2]) (by simp [results, Tryd.results36, go_sem, r0, r1]) rfl (end_arg HK.out ?_)
            exact below_set (below_set hl.out.below (Nat.le_refl _)) (Nat.le_refl _)
          · have b0 : decide (x < 0) = false := decide_eq_false hx0
            by_cases hxn : n ≤ x
            · have b1 : decide (n ≤ x) = true := decide_eq_true hxn
              have HK := Lib.hid (not_face hn0 hn1 (mem_of_get Hf.out) (not_places Hx.out (.inr (.inl hxn))))
              obtain ⟨r0, r1, f0, f1⟩ := hl.out.cells
              go_wp2
              refine bodyPost_ret (v := .tuple #[.agg #[.map none, .slice none 0 0], .int .i64 2]) (by simp [results, Tryd.results36, go_sem, r0, r1]) rfl (end_arg HK.out ?_)
              exact below_set (below_set hl.out.below (Nat.le_refl _)) (Nat.le_refl _)
            · have b1 : decide (n ≤ x) = false := decide_eq_false hxn
              have hC := Kd.C_below (Kd.C_take hi0 hj) hl.out.below
              have hT : (f.take j).length = j := by rw [List.length_take]; omega
              have cc := slices_Contains_int_int.calls _ _ c0 (f.take j) x _ wr hC (by omega) (contains_f (f.take j) x (by omega))
              rw [hT] at cc
              have CC := Lib.hid cc
              clear cc hT hC
              by_cases hm : x ∈ f.take j
              · rw [decide_eq_true hm] at CC
                have HK := Lib.hid (not_face hn0 hn1 (mem_of_get Hf.out) (not_places Hx.out (.inr (.inr hm))))
                clear hm
                go_wp2_with fail
                refine CC.out.mono ?_
                rintro e w1 ⟨rfl, ⟨m, rfl⟩⟩
                have hl1 := Lib.hid (hl.out.drewN m)
                obtain ⟨r0, r1, f0, f1⟩ := hl1.out.cells
                go_wp2
                refine bodyPost_ret (v := .tuple #[.agg #[.map none, .slice none 0 0], .int .i64 2]) (by simp [results, Tryd.results36, go_sem, r0, r1]) rfl (end_arg HK.out ?_)
                exact below_set (below_set hl1.out.below (Nat.le_refl _)) (Nat.le_refl _)
              · rw [decide_eq_false hm] at CC
                have HP := Lib.hid (places_step Hx.out hpl.out (by omega) (by omega) hm)
                clear hm
                go_wp2_with fail
                refine CC.out.mono ?_
                rintro e w1 ⟨rfl, ⟨m, rfl⟩⟩
                have hl1 := Lib.hid (hl.out.drewN m)
                go_wp2
                go_roundw
                case rel => exact ⟨j + 1, by omega, by go_num, HP, hl1⟩
                case measure => simp [intOf]; omega
        · have hj' : j = f.length := by omega
          have HP := hpl.out
          rw [hj', List.take_length] at HP
          by_cases h3 : f.length < 3
          · have HK := Lib.hid (not_face hn0 hn1 (mem_of_get Hf.out) (n := n) (f := f) (fun h => by have := h.1; omega))
            clear HP hj'
            obtain ⟨r0, r1, f0, f1⟩ := hl.out.cells
            go_wp2
            refine bodyPost_ret (v := .tuple #[.agg #[.map none, .slice none 0 0], .int .i64 2]) (by simp [results, Tryd.results36, go_sem, r0, r1]) rfl (end_arg HK.out ?_)
            exact below_set (below_set hl.out.below (Nat.le_refl _)) (Nat.le_refl _)
          · have hok' : Hid (∀ g ∈ l.take (i + 1), faceOk n g) := Lib.hid (by
              rw [take_succ_of Hf.out]
              intro g hg
              rcases List.mem_append.1 hg with hg | hg
              · exact hok.out g hg
              · simp at hg; subst hg; exact ⟨by omega, HP.1, HP.2⟩)
            clear HP hj'
            go_wp2
            go_roundw
            case rel => exact ⟨i + 1, by omega, by go_num, hok', hl⟩
            case measure => simp [intOf]; omega
    · have hi' : i = l.length := by omega
      have HO : Hid (∀ f ∈ l, faceOk n f) := Lib.hid (by have := hok.out; rwa [hi', List.take_length] at this)
      clear hi' hok
      have hu1 := Tryd.underlying89
      have hu2 := Tryd.underlying91
      have hu3 := Tryd.underlying98
      have hmm := @run_makeMap Tryd.prog
      go_wp2
      have HM : Hid (Maps2 w ((wr.alloc (.map #[] 0)).alloc (.cells #[.map (some wr.heap.size), .slice A l.length c] 91)) wr.heap.size (.slice A l.length c) []) := Lib.hid (Maps2.start hl.out _)
      have hl2 := Lib.hid True.intro
      clear hl hmm hlt hl2
      obtain ⟨wo, rfl⟩ : ∃ wo : World, wo = wr := ⟨_, rfl⟩
      go_loopw [62] (fun v wr => ∃ i : Nat, i ≤ l.length ∧ v = .int .i64 i ∧ Hid (Maps2 w wr wo.heap.size (.slice A l.length c) (sidesFrom 0 (l.take i)))) (fun v _ => l.length - (intOf v).toNat)
      case atStart => exact ⟨0, Nat.zero_le _, rfl, HM⟩
      case round =>
        clear HM
        obtain ⟨i, hi, rfl, hl⟩ := hrel
        by_cases hlt : i < l.length
        · obtain ⟨ad, A0, c0, hA, hx, hl0, hi0⟩ := at_rows hr i hlt
          obtain ⟨f, hf, hf'⟩ := getD_of_lt hlt
          rw [hf] at hx hl0 hi0
          clear hf
          have hfl : f.length ≤ 2000000 := HS.out f (mem_of_get hf')
          have Hf := Lib.hid hf'
          clear hf'
          subst hA
          have hx' := (hl.out.looks.below.cell (World.block_lt_of_cell? w _ hx)).trans hx
          clear hx
          have hl' : Hid (Maps2 w wr wo.heap.size (.slice (some ad) l.length c) (doneTo l i f 0)) := Lib.hid (by rw [doneTo_zero]; exact hl.out)
          go_wp2
          go_loopw [69] (fun v wr' => ∃ j : Nat, j ≤ f.length ∧ v = .int .i64 j ∧ Hid (Maps2 w wr' wo.heap.size (.slice (some ad) l.length c) (doneTo l i f j))) (fun v _ => f.length - (intOf v).toNat)
          case atStart => exact ⟨0, Nat.zero_le _, rfl, hl'⟩
          case round =>
            clear hl hl' hx'
            obtain ⟨j, hj, rfl, hl⟩ := hrel
            by_cases hjt : j < f.length
            · have hfo := HO.out f (mem_of_get Hf.out)
              have hin := next_in hfo hjt
              have hE := edge_f hjt hfl
              have HT := Lib.hid (fun hm => kind_twice hn0 hn1 HO.out Hf.out hjt hm)
              have HD := Lib.hid (doneTo_succ (l := l) (i := i) (f := f) hjt)
              obtain ⟨a, ha⟩ : ∃ a, f.getD j 0 = a := ⟨_, rfl⟩
              obtain ⟨b', hb'⟩ : ∃ b', nextOf f j = b' := ⟨_, rfl⟩
              rw [ha, hb'] at hin hE HT HD
              have hwa := wfi_of hn1 hin.1
              have hwb := wfi_of hn1 hin.2
              clear ha hb' hin hfo
              have CE := True.intro
              have hCf := Kd.C_below hi0 hl.out.looks.below
              have CE' := Lib.hid (faces_edge.calls A0 c0 f (j : Int) a b' wr hCf hl0 hE)
              clear CE hE hCf
              go_wp2_with fail
              refine CE'.out.mono ?_
              clear CE'
              rintro e w1 ⟨rfl, hb1⟩
              have hl1 := Lib.hid (hl.out.next hb1)
              clear hl hb1
              have m0 : w1.cell? ⟨wo.heap.size + 1, 0, none⟩ = some (.map (some wo.heap.size)) := (blk_cell hl1.out.mesh 0).trans rfl
              have hlt1 : wo.heap.size + 1 < w1.heap.size := blk_lt hl1.out.mesh
              have hne1 : ¬ (wo.heap.size + 1 = w1.heap.size) := by omega
              have hne2 : ¬ (w1.heap.size = wo.heap.size + 1) := by omega
              by_cases hg : getM (doneTo l i f j) (a, b') = none
              · have CL := left_calls a b' _ (hl1.out.em.kept (below_alloc (Below.refl _ _) (.cells #[.int .i64 a, .int .i64 b'] 98))) hwa hwb
                rw [hg] at CL
                have CL' := Lib.hid CL
                clear CL
                go_wp2_with fail
                refine CL'.out.mono ?_
                rintro e w2 ⟨rfl, hb2⟩
                have hb2' := below_step (below_alloc (Below.refl w1.heap.size w1) (.cells #[.int .i64 a, .int .i64 b'] 98)) (by simpa using hb2)
                have hl2 := Lib.hid (hl1.out.next hb2')
                have e2 : w2.heap[w1.heap.size]? = some (.cells #[.int .i64 a, .int .i64 b'] 98 (0, 0)) := blk_below (heap_alloc_new w1 _) hb2
                have q0 : w2.cell? ⟨w1.heap.size, 0, none⟩ = some (.int .i64 a) := (blk_cell e2 0).trans rfl
                have q1 : w2.cell? ⟨w1.heap.size, 1, none⟩ = some (.int .i64 b') := (blk_cell e2 1).trans rfl
                have m2 : w2.cell? ⟨wo.heap.size + 1, 0, none⟩ = some (.map (some wo.heap.size)) := (blk_cell hl2.out.mesh 0).trans rfl
                have hm2 := Lib.hid (doneTo_length (l := l) (i := i) (f := f) (j := j) hs1 HS.out hfl)
                have hwi : wfi (i : Int) := WalkArith.wf_i64 (by omega)
                have HG := Lib.hid hg
                clear hb2 hb2' e2 hg
                go_wp2_with (at_mapUpdate; refine EM_store rfl rfl (a, b') (i : Int) rfl hl2.out.em hm2.out ⟨hwa, hwb⟩ hwi rfl rfl ?_; intro w3 hem3 hg3)
                have hl3 : Hid (Maps2 w w3 wo.heap.size (.slice (some ad) l.length c) (doneTo l i f (j + 1))) := Lib.hid (by rw [HD.out]; exact hl2.out.store hem3 hg3 (nodup_snoc hl2.out.nd HG.out))
                go_roundw
                case rel => exact ⟨j + 1, by omega, by go_num, hl3⟩
                case measure => simp [intOf]; omega
              · have CL := left_calls a b' _ (hl1.out.em.kept (below_alloc (Below.refl _ _) (.cells #[.int .i64 a, .int .i64 b'] 98))) hwa hwb
                have HK := Lib.hid (HT.out hg)
                obtain ⟨v, hv⟩ : ∃ v, getM (doneTo l i f j) (a, b') = some v := Option.ne_none_iff_exists'.1 hg
                have hv0 : 0 ≤ v := doneTo_nonneg hv
                rw [hv] at CL
                have CL' := Lib.hid CL
                clear CL hg hv
                go_wp2_with fail
                refine CL'.out.mono ?_
                rintro e w2 ⟨rfl, hb2⟩
                have hb2' := below_step (below_alloc (Below.refl w1.heap.size w1) (.cells #[.int .i64 a, .int .i64 b'] 98)) (by simpa using hb2)
                have hl2 := Lib.hid (hl1.out.next hb2')
                clear hb2 hb2'
                obtain ⟨r0, r1, f0, f1⟩ := hl2.out.looks.cells
                go_wp2
                refine bodyPost_ret (v := .tuple #[.agg #[.map none, .slice none 0 0], .int .i64 80]) (by simp [results, Tryd.results36, go_sem, r0, r1]) rfl (end_twice HK.out ?_)
                exact below_set (below_set hl2.out.looks.below (Nat.le_refl _)) (Nat.le_refl _)
            · have hj' : j = f.length := by omega
              have hl' : Hid (Maps2 w wr wo.heap.size (.slice (some ad) l.length c) (sidesFrom 0 (l.take (i + 1)))) := Lib.hid (by rw [← doneTo_full Hf.out, ← hj']; exact hl.out)
              clear hl hj'
              go_wp2
              go_roundw
              case rel => exact ⟨i + 1, by omega, by go_num, hl'⟩
              case measure => simp [intOf]; omega
        · have hi' : i = l.length := by omega
          have hl' : Hid (Maps2 w wr wo.heap.size (.slice A l.length c) (sidesFrom 0 l)) := Lib.hid (by have := hl.out; rwa [hi', List.take_length] at this)
          clear hl hi'
          obtain ⟨r0, r1, f0, f1⟩ := hl'.out.looks.cells
          have m0 : wr.cell? ⟨wo.heap.size + 1, 0, none⟩ = some (.map (some wo.heap.size)) := (blk_cell hl'.out.mesh 0).trans rfl
          have m1 : wr.cell? ⟨wo.heap.size + 1, 1, none⟩ = some (.slice A l.length c) := (blk_cell hl'.out.mesh 1).trans rfl
          go_wp2
          refine bodyPost_ret (v := .tuple #[.agg #[.map (some wo.heap.size), .slice A l.length c], .int .i64 0]) (by simp [results, Tryd.results36, go_sem, r0, r1]) rfl ?_
          exact end_ok hn0 hn1 HO.out hl'.out

theorem known_calls (n : Int) (A : Option Addr) (c : Nat) (l : List (List Int)) (w : World) (hr : Kd.C (Kd.slice 3 (Kd.int .i64)) w A l.length l) (hs : small_rows l) :
    Calls Tryd.prog 36 #[.int .i64 n, .slice A l.length c] w (KnownPost n A c l w) := by
  by_cases h : n < 0 ∨ 1048576 < n
  · exact known_range n A c l w h
  · exact known_in n A c l w (by omega) (by omega) hr hs

set_option maxRecDepth 100000 in
theorem faces_Check.calls (a0 : Int) (A1 : Option Addr) (c1 : Nat) (l1 : List (List Int)) (r : Int) (w : World) (hr1 : Kd.C (Kd.slice 3 (Kd.int .i64)) w A1 l1.length l1) (hc1 : l1.length ≤ c1) (h : faces_Check.f a0 l1 = some r) :
    Calls Tryd.prog 25 #[.int .i64 a0, .slice A1 l1.length c1] w fun e w' => e = .returned (.int .i64 r) ∧ Below w.heap.size w w' := by
  unfold faces_Check.f at h
  split at h
  · rename_i hs
    injection h with h
    subst h
    have hu2 := Tryd.underlying91
    have CK := Lib.hid (known_calls a0 A1 c1 l1 w hr1 hs)
    clear hr1 hs
    go_enter Tryd.func25, Tryd.ntmps25
    go_wp2_with fail
    refine CK.out.mono ?_
    rintro e w1 ⟨mv, sv, rfl, hb, h0, h1⟩
    have HB := Lib.hid hb
    have hmv : (∃ b, mv = .map b) ∧ (∃ A n c, sv = .slice A n c) := by
      by_cases hk : known_kind a0 l1 = 0
      · obtain ⟨b, e1, e2, _⟩ := h0 hk
        exact ⟨⟨_, e1⟩, ⟨_, _, _, e2⟩⟩
      · obtain ⟨e1, e2⟩ := h1 hk
        exact ⟨⟨_, e1⟩, ⟨_, _, _, e2⟩⟩
    clear h0 h1 hb
    obtain ⟨⟨b, rfl⟩, ⟨A', n', c', rfl⟩⟩ := hmv
    go_wp2
    go_ret
    exact ⟨rfl, below_alloc HB.out _⟩
  · cases h
end Go.Proofs.YtbmgajddhfjchaaDoor.Obj
namespace Go.Proofs.YtbmgajddhfjchaaDoor.Obj
open Go.RowKit Go.Proofs.YtbmgajddhfjchaaDoorW.PrintWords Go.Proofs.YtbmgajddhfjchaaDoorW.PrintLast Go.Proofs.YtbmgajddhfjchaaDoorW.PrintMore

/-- What the comparison has captured: the variable that holds the places, at block g. -/
structure Ctx (P : List Pt) (A : Option Addr) (c g : Nat) (W : World) : Prop where
  box : W.heap[g]? = some (.cells #[.slice A P.length c] 22 (0, 0))
  reads : Kd.C k47 W A P.length P
theorem Ctx.below {P : List Pt} {A : Option Addr} {c g : Nat} {W W' : World} (h : Ctx P A c g W) (hb : Below W.heap.size W W') : Ctx P A c g W' := ⟨blk_below h.box hb, Kd.C_below h.reads hb⟩
theorem less_f (p q : Pt) : sorts_Less.f p.f0 p.f1 q.f0 q.f1 = some (lessP p q) := by
  unfold sorts_Less.f lessP
  by_cases h : p.f0 < q.f0
  · simp [h]
  · by_cases h2 : p.f0 = q.f0 <;> simp [h, h2]

set_option maxHeartbeats 1000000 in
set_option maxRecDepth 100000 in
theorem lessAt_calls {P : List Pt} {A : Option Addr} {c g : Nat} {W : World} (h : Ctx P A c g W) (a b : Int) (ha0 : 0 ≤ a) (ha1 : a < P.length) (hb0 : 0 ≤ b) (hb1 : b < P.length) :
    Calls Tryd.prog 47 #[.int .i64 a, .int .i64 b, .pointer (some ⟨g, 0, none⟩)] W fun e w' => e = .returned (.bool (lessP (ptAt P a) (ptAt P b))) ∧ Below W.heap.size W w' := by
  obtain ⟨ad, hA, hx0, hx1⟩ := at_T47 h.reads a ha0 ha1
  obtain ⟨ad', hA', hy0, hy1⟩ := at_T47 h.reads b hb0 hb1
  subst hA
  cases hA'
  have hg : W.cell? ⟨g, 0, none⟩ = some (.slice (some ad) P.length c) := (blk_cell h.box 0).trans rfl
  have hu := Tryd.underlying47
  have e1 : rd_T47 P a = ptAt P a := rfl
  have e2 : rd_T47 P b = ptAt P b := rfl
  rw [e1] at hx0 hx1
  rw [e2] at hy0 hy1
  clear e1 e2 h
  obtain ⟨p, hp⟩ : ∃ p, ptAt P a = p := ⟨_, rfl⟩
  obtain ⟨q, hq⟩ : ∃ q, ptAt P b = q := ⟨_, rfl⟩
  rw [hp] at hx0 hx1 ⊢
  rw [hq] at hy0 hy1 ⊢
  clear hp hq
  have CL := Lib.hid (fun W => sorts_Less.calls p.f0 p.f1 q.f0 q.f1 _ W (less_f p q))
  go_enter Tryd.func47, Tryd.ntmps47
  go_wp2_with fail
  go_region_held3 (fun w' => w'.cell? ⟨g, 0, none⟩ = some (.slice (some ad) P.length c) ∧ w'.cell? (ad.add (a.toNat * 2)) = some (.int .i64 p.f0) ∧ w'.cell? ⟨(ad.add (a.toNat * 2)).block, (ad.add (a.toNat * 2)).off + 1, none⟩ = some (.int .i64 p.f1) ∧
      w'.cell? (ad.add (b.toNat * 2)) = some (.int .i64 q.f0) ∧ w'.cell? ⟨(ad.add (b.toNat * 2)).block, (ad.add (b.toNat * 2)).off + 1, none⟩ = some (.int .i64 q.f1))
    (first | go_keep | (go_split_ands; refine ⟨?_, ?_, ?_, ?_, ?_⟩ <;> (apply pw_cell_below hb3; first | assumption | simpa using ‹_›)))
    (first | (go_at_call 48; refine (CL.out _).mono ?_; rintro e w3 ⟨rfl, hb3⟩))
  go_wp2
  go_ret
  exact ⟨rfl, below_step (below_drew (Below.refl _ _)) hb3⟩

def ltAt (P : List Pt) (a b : Int) : Bool := lessP (ptAt P a) (ptAt P b)
def lessV (g : Nat) : Value := .func (.func 47) #[] #[.pointer (some ⟨g, 0, none⟩)]
def InR (P : List Pt) (l : List Int) : Prop := ∀ x ∈ l, 0 ≤ x ∧ x < (P.length : Int)

structure MRel (P : List Pt) (a b a' b' o : List Int) (Aa Ab : Option Addr) (ca cb : Nat) (vo : Value) (w wr : World) : Prop where
  eq : mergeL (ltAt P) a b = o ++ mergeL (ltAt P) a' b'
  ra : Kd.C (Kd.int .i64) w Aa a'.length a'
  rb : Kd.C (Kd.int .i64) w Ab b'.length b'
  la : a'.length ≤ ca
  lb : b'.length ≤ cb
  ia : InR P a'
  ib : InR P b'
  own : Kd.R (Kd.int .i64) 3 wr w.heap.size (fun _ => True) vo o
  below : Below w.heap.size w wr
  len : o.length + a'.length + b'.length ≤ 2097152
theorem infoInt : (Tryd.prog.info? 3).map (fun i => (i.zero, i.size, i.bytes)) = some (some (.int .i64 0), 1, 8) := by kernel_rfl
theorem C_tail {w : World} {A A' : Option Addr} {x : Int} {l : List Int} {c : Nat} (hc : (x :: l).length ≤ c) (hA : ∀ (w : World) (k : IntKind) (xs : List Int), (x :: l).length ≤ c → ReadsInt w k A (x :: l).length xs → ReadsInt w k A' ((x :: l).length - 1) (xs.drop 1)) (h : Kd.C (Kd.int .i64) w A (x :: l).length (x :: l)) : Kd.C (Kd.int .i64) w A' l.length l := by
  have := hA w .i64 _ hc (Kd.reads_of_C (d := (0 : Int)) h)
  rw [List.length_cons, Nat.add_sub_cancel, List.drop_one, List.tail_cons] at this
  exact Kd.C_of_reads (d := (0 : Int)) (h1 := fun _ => rfl) this

theorem MRel.takeB {P : List Pt} {a b a'' b'' o : List Int} {x y : Int} {Aa Ab Ab2 : Option Addr} {ca cb : Nat} {vo v1 : Value} {w wr w4 : World} (h : MRel P a b (x :: a'') (y :: b'') o Aa Ab ca cb vo w wr) (hlt : ltAt P y x = true)
    (hrd : ∀ (w : World) (k : IntKind) (xs : List Int), (y :: b'').length ≤ cb → ReadsInt w k Ab (y :: b'').length xs → ReadsInt w k Ab2 ((y :: b'').length - 1) (xs.drop 1))
    (ho : Kd.R (Kd.int .i64) 3 w4 w.heap.size (fun _ => True) v1 (o ++ [y])) (hb : Below w.heap.size w w4) : MRel P a b (x :: a'') b'' (o ++ [y]) Aa Ab2 ca (cb - 1) v1 w w4 where
  eq := by rw [h.eq, mergeL]; simp [hlt]
  ra := h.ra
  rb := C_tail h.lb hrd h.rb
  la := h.la
  lb := by have := h.lb; simp at this; omega
  ia := h.ia
  ib := fun z hz => h.ib z (by simp [hz])
  own := ho
  below := hb
  len := by have := h.len; simp at this ⊢; omega
theorem MRel.takeA {P : List Pt} {a b a'' b'' o : List Int} {x y : Int} {Aa Ab Aa2 : Option Addr} {ca cb : Nat} {vo v1 : Value} {w wr w4 : World} (h : MRel P a b (x :: a'') (y :: b'') o Aa Ab ca cb vo w wr) (hlt : ltAt P y x = false)
    (hrd : ∀ (w : World) (k : IntKind) (xs : List Int), (x :: a'').length ≤ ca → ReadsInt w k Aa (x :: a'').length xs → ReadsInt w k Aa2 ((x :: a'').length - 1) (xs.drop 1))
    (ho : Kd.R (Kd.int .i64) 3 w4 w.heap.size (fun _ => True) v1 (o ++ [x])) (hb : Below w.heap.size w w4) : MRel P a b a'' (y :: b'') (o ++ [x]) Aa2 Ab (ca - 1) cb v1 w w4 where
  eq := by rw [h.eq, mergeL]; simp [hlt]
  ra := C_tail h.la hrd h.ra
  rb := h.rb
  la := by have := h.la; simp at this; omega
  lb := h.lb
  ia := fun z hz => h.ia z (by simp [hz])
  ib := h.ib
  own := ho
  below := hb
  len := by have := h.len; simp at this ⊢; omega
theorem mergeL_end {lt : Int → Int → Bool} {a b : List Int} (h : a = [] ∨ b = []) : mergeL lt a b = a ++ b := by
  rcases h with rfl | rfl
  · rw [mergeL]; rfl
  · cases a <;> simp [mergeL]

set_option maxHeartbeats 1000000 in
set_option maxRecDepth 100000 in
theorem merge_calls {P : List Pt} {A : Option Addr} {c g : Nat} (a b : List Int) (Aa Ab : Option Addr) (ca cb : Nat) (w : World) (hx : Ctx P A c g w) (ha : InR P a) (hb : InR P b) (hra : Kd.C (Kd.int .i64) w Aa a.length a) (hca : a.length ≤ ca) (hrb : Kd.C (Kd.int .i64) w Ab b.length b) (hcb : b.length ≤ cb) (hl : a.length + b.length ≤ 2097152) :
    Calls Tryd.prog 52 #[.slice Aa a.length ca, .slice Ab b.length cb, lessV g] w fun e w' => ∃ v, e = .returned v ∧ Kd.R (Kd.int .i64) 3 w' w.heap.size (fun _ => True) v (mergeL (ltAt P) a b) ∧ Below w.heap.size w w' := by
  have HX := Lib.hid hx
  have H0 : Hid (MRel P a b a b [] Aa Ab ca cb (.slice none 0 0) w w) := Lib.hid ⟨rfl, hra, hrb, hca, hcb, ha, hb, Kd.R_nil _ _ _ _ _, Below.refl _ _, by simpa using hl⟩
  clear hra hrb hca hcb ha hb hl hx
  unfold lessV
  go_enter Tryd.func52, Tryd.ntmps52
  go_wp2_with fail
  go_loopw [0, 1, 7] (fun v0 v1 v7 wr => ∃ (a' b' o : List Int) (Aa Ab : Option Addr) (ca cb : Nat) (vo : Value), v0 = .slice Aa a'.length ca ∧ v1 = .slice Ab b'.length cb ∧ vo = v7 ∧ Hid (MRel P a b a' b' o Aa Ab ca cb vo w wr))
    (fun v0 v1 _ _ => (match v0 with | .slice _ n _ => n | _ => 0) + (match v1 with | .slice _ n _ => n | _ => 0))
  case atStart => exact ⟨a, b, [], Aa, Ab, ca, cb, _, rfl, rfl, rfl, H0⟩
  case round =>
    clear H0
    obtain ⟨a', b', o, Aa', Ab', ca', cb', vo, rfl, rfl, rfl, hr⟩ := hrel
    by_cases hne : a' = [] ∨ b' = []
    · have HE := Lib.hid (mergeL_end (lt := ltAt P) hne)
      have hrb := Kd.C_below hr.out.rb hr.out.below
      have hra := Kd.C_below hr.out.ra hr.out.below
      have hln := hr.out.len
      have htest : (decide (0 < a'.length) = false) ∨ (decide (0 < a'.length) = true ∧ decide (0 < b'.length) = false) := by
        rcases hne with rfl | rfl
        · exact .inl rfl
        · cases a' with
          | nil => exact .inl rfl
          | cons x a'' => exact .inr ⟨by simp, rfl⟩
      clear hne
      rcases htest with h1 | ⟨h1, h2⟩
      all_goals
        go_wp2_with (first | ((with_reducible refine gate_builtin (b := .append) (xs := #[.tmp 40, .tmp 41]) rfl ?_); at_builtin; refine Kd.R_append_row (Value.int .i64) (0 : Int) (w0 := w) w.heap.size rfl (.tmp 40) (.tmp 41) 48 3 (.int .i64 0) 8 rfl Tryd.underlying48 infoInt rfl (by omega) vo o a' Aa' a'.length ca' (fun _ => True) rfl rfl (fun _ _ => trivial) hr.out.own hra hr.out.below hr.out.below.size (by omega) ?_; intro v1 w3 ho3 hb3 hg3 hat3; have hrb3 := Kd.C_below hr.out.rb hb3) | ((with_reducible refine gate_builtin (b := .append) (xs := #[.tmp 42, .tmp 43]) rfl ?_); at_builtin; refine Kd.R_append_row (Value.int .i64) (0 : Int) (w0 := w) w.heap.size rfl (.tmp 42) (.tmp 43) 48 3 (.int .i64 0) 8 rfl Tryd.underlying48 infoInt rfl (by omega) v1 (o ++ a') b' Ab' b'.length cb' (fun _ => True) rfl rfl (fun _ _ => trivial) ho3 hrb3 hb3 hb3.size (by rw [List.length_append]; omega) ?_; intro v2 w4 ho4 hb4 hg4 hat4))
        go_ret
        exact ⟨v2, rfl, by rw [hr.out.eq, HE.out, ← List.append_assoc]; exact ho4, hb4⟩
    · cases a' with
      | nil => simp at hne
      | cons x a'' =>
      cases b' with
      | nil => simp at hne
      | cons y b'' =>
        clear hne
        obtain ⟨ada, hA, hxa⟩ := Kd.at_int (Kd.C_below hr.out.ra hr.out.below) 0 (by omega) (by simp)
        obtain ⟨adb, hB, hxb⟩ := Kd.at_int (Kd.C_below hr.out.rb hr.out.below) 0 (by omega) (by simp)
        have hby : adb.block < w.heap.size := by
          obtain ⟨adb', hB', hxb0⟩ := Kd.at_int hr.out.rb 0 (by omega) (by simp)
          have e : adb = adb' := by rw [hB'] at hB; injection hB with hB; exact hB.symm
          have := World.block_lt_of_cell? _ _ hxb0
          rw [e]; simpa [Addr.add_zero'] using this
        have hbo : Hid (some adb.block ≠ vo.ownBlock) := Lib.hid (fun e => by have := Kd.R_base hr.out.own adb.block e.symm; omega)
        have hay : ada.block < w.heap.size := by
          obtain ⟨ada', hA', hxa0⟩ := Kd.at_int hr.out.ra 0 (by omega) (by simp)
          have e : ada = ada' := by rw [hA'] at hA; injection hA with hA; exact hA.symm
          have := World.block_lt_of_cell? _ _ hxa0
          rw [e]; simpa [Addr.add_zero'] using this
        have hao : Hid (some ada.block ≠ vo.ownBlock) := Lib.hid (fun e => by have := Kd.R_base hr.out.own ada.block e.symm; omega)
        subst hA
        subst hB
        have hxa' : wr.cell? ada = some (.int .i64 x) := by simpa [rd, Addr.add_zero'] using hxa
        have hxb' : wr.cell? adb = some (.int .i64 y) := by simpa [rd, Addr.add_zero'] using hxb
        clear hxa hxb
        have hix := hr.out.ia x (by simp)
        have hiy := hr.out.ib y (by simp)
        have CL : Hid (∀ W, Below w.heap.size w W → Calls Tryd.prog 47 #[.int .i64 y, .int .i64 x, .pointer (some ⟨g, 0, none⟩)] W fun e w' => e = .returned (.bool (ltAt P y x)) ∧ Below W.heap.size W w') := Lib.hid (fun W hB => lessAt_calls (HX.out.below hB) y x hiy.1 hiy.2 hix.1 hix.2)
        cases hlt : ltAt P y x with
        | true =>
          rw [hlt] at CL
          have HLT := Lib.hid hlt
          clear hlt hix hiy
          go_wp2_with fail
          go_region_held3 (fun w' => w'.cell? adb = some (.int .i64 y) ∧ w'.cell? ada = some (.int .i64 x))
            (first | go_keep | (go_split_ands; refine ⟨?_, ?_⟩ <;> (apply pw_cell_below hb3; assumption)))
            (first | (go_at_call 47; refine (CL.out _ (below_drew hr.out.below)).mono ?_; rintro e w3 ⟨rfl, hb3⟩))
          have hb3' : Below w.heap.size w w3 := below_step (below_drew hr.out.below) hb3
          have hyc : w3.cell? adb = some (.int .i64 y) := pw_cell_below hb3 hxb'
          have HO := Lib.hid (Kd.R_below (hr.out.own) (below_step (below_drew (Below.refl wr.heap.size wr)) hb3))
          have HB3 := Lib.hid hb3'
          clear hb3 hxa' hxb'
          obtain ⟨i0, hi, hz0, hz1, hz2⟩ := info_parts infoInt
          obtain ⟨Ab2, hcut, hrd⟩ := print_cut (P := Tryd.prog) 48 3 .i64 Tryd.underlying48 hi hz1 (some adb) (y :: b'').length cb' 1 (by simp)
          have hcut1 : ∀ W : World, (Instr.slice 48 (.slice (some adb) (b''.length + 1) cb') (some (.int .i64 1)) none none).run Tryd.prog W = .ok (.slice Ab2 b''.length (cb' - 1)) W := fun W => by simpa using hcut W
          have HRD := Lib.hid hrd
          clear hcut hrd hi hz0 hz1 hz2
          have hne := World.new_ne w3 adb hyc
          have hln : o.length < 2097152 := by have := hr.out.len; simp at this; omega
          go_wp2_with fail
          go_region_held3 (fun w' => w'.cell? adb = some (.int .i64 y))
            (first | go_keep | (exact (hg4.cell_far _ (Nat.lt_of_lt_of_le hby HB3.out.size) hbo.out).trans hyc))
            ((refine Kd.R_append_step (Kd.int .i64) (w0 := w) (W := w3.drew) w.heap.size (by rfl) (.tmp 24) (.tmp 28) 48 3 (.int .i64 0) 8 (by rfl) Tryd.underlying48 infoInt rfl (by decide) (by omega) vo o y [.int .i64 y] (fun _ => True) (fun _ => False) (by rfl) (by rfl) rfl (fun _ hk => hk.elim) (fun _ _ => trivial) (Kd.R_drew HO.out) (below_drew HB3.out) (below_size (below_drew HB3.out)) (by omega) ?_; intro v1 w4 ho4 hb4 hg4 hat4))
          go_wp2_with fail
          exact ⟨⟨x :: a'', b'', o ++ [y], some ada, Ab2, ca', cb' - 1, v1, by simp, rfl, rfl, Lib.hid (hr.out.takeB HLT.out HRD.out ho4 hb4)⟩, by simp⟩
        | false =>
          rw [hlt] at CL
          have HLT := Lib.hid hlt
          clear hlt hix hiy
          go_wp2_with fail
          go_region_held3 (fun w' => w'.cell? adb = some (.int .i64 y) ∧ w'.cell? ada = some (.int .i64 x))
            (first | go_keep | (go_split_ands; refine ⟨?_, ?_⟩ <;> (apply pw_cell_below hb3; assumption)))
            (first | (go_at_call 47; refine (CL.out _ (below_drew hr.out.below)).mono ?_; rintro e w3 ⟨rfl, hb3⟩))
          have hb3' : Below w.heap.size w w3 := below_step (below_drew hr.out.below) hb3
          have hyc : w3.cell? ada = some (.int .i64 x) := pw_cell_below hb3 hxa'
          have HO := Lib.hid (Kd.R_below (hr.out.own) (below_step (below_drew (Below.refl wr.heap.size wr)) hb3))
          have HB3 := Lib.hid hb3'
          clear hb3 hxa' hxb'
          obtain ⟨i0, hi, hz0, hz1, hz2⟩ := info_parts infoInt
          obtain ⟨Aa2, hcut, hrd⟩ := print_cut (P := Tryd.prog) 48 3 .i64 Tryd.underlying48 hi hz1 (some ada) (x :: a'').length ca' 1 (by simp)
          have hcut1 : ∀ W : World, (Instr.slice 48 (.slice (some ada) (a''.length + 1) ca') (some (.int .i64 1)) none none).run Tryd.prog W = .ok (.slice Aa2 a''.length (ca' - 1)) W := fun W => by simpa using hcut W
          have HRD := Lib.hid hrd
          clear hcut hrd hi hz0 hz1 hz2
          have hne := World.new_ne w3 ada hyc
          have hln : o.length < 2097152 := by have := hr.out.len; simp at this; omega
          go_wp2_with fail
          go_region_held3 (fun w' => w'.cell? ada = some (.int .i64 x))
            (first | go_keep | (exact (hg4.cell_far _ (Nat.lt_of_lt_of_le hay HB3.out.size) hao.out).trans hyc))
            ((refine Kd.R_append_step (Kd.int .i64) (w0 := w) (W := w3.drew) w.heap.size (by rfl) (.tmp 32) (.tmp 36) 48 3 (.int .i64 0) 8 (by rfl) Tryd.underlying48 infoInt rfl (by decide) (by omega) vo o x [.int .i64 x] (fun _ => True) (fun _ => False) (by rfl) (by rfl) rfl (fun _ hk => hk.elim) (fun _ _ => trivial) (Kd.R_drew HO.out) (below_drew HB3.out) (below_size (below_drew HB3.out)) (by omega) ?_; intro v1 w4 ho4 hb4 hg4 hat4))
          go_wp2_with fail
          exact ⟨⟨a'', y :: b'', o ++ [x], Aa2, some adb, ca' - 1, cb', v1, rfl, by simp, rfl, Lib.hid (hr.out.takeA HLT.out HRD.out ho4 hb4)⟩, by simp⟩

def SortOk (P : List Pt) (A : Option Addr) (c g : Nat) (m : Nat) : Prop :=
  ∀ (l : List Int) (Al : Option Addr) (cl : Nat) (w : World), l.length ≤ m → Ctx P A c g w → InR P l → Kd.C (Kd.int .i64) w Al l.length l → l.length ≤ cl → l.length ≤ 1048576 →
    Calls Tryd.prog 46 #[.slice Al l.length cl, lessV g] w fun e w' => ∃ v, e = .returned v ∧ Kd.R (Kd.int .i64) 3 w' w.heap.size (fun _ => True) v (sortL (ltAt P) l) ∧ Below w.heap.size w w'

theorem mergeL_length (lt : Int → Int → Bool) (a b : List Int) : (mergeL lt a b).length = a.length + b.length := by
  fun_induction mergeL lt a b <;> simp_all <;> omega
theorem sortL_length (lt : Int → Int → Bool) (l : List Int) : (sortL lt l).length = l.length := by
  fun_induction sortL lt l with
  | case1 l h => rfl
  | case2 l h ih1 ih2 => rw [mergeL_length, ih1, ih2, List.length_take, List.length_drop]; omega
theorem mergeL_mem {lt : Int → Int → Bool} {x : Int} (a b : List Int) : x ∈ mergeL lt a b ↔ x ∈ a ∨ x ∈ b := by
  fun_induction mergeL lt a b <;> simp_all <;> grind
theorem sortL_mem {lt : Int → Int → Bool} {x : Int} (l : List Int) : x ∈ sortL lt l ↔ x ∈ l := by
  fun_induction sortL lt l with
  | case1 l h => rfl
  | case2 l h ih1 ih2 => rw [mergeL_mem, ih1, ih2, ← List.mem_append, List.take_append_drop]
theorem sortL_in {P : List Pt} {l l' : List Int} (h : InR P l) (hs : ∀ x ∈ l', x ∈ l) : InR P (sortL (ltAt P) l') := fun x hx => h x (hs x ((sortL_mem l').mp hx))
theorem C_take_n {w : World} {Al : Option Addr} {l : List Int} {n : Nat} (h : Kd.C (Kd.int .i64) w Al l.length l) (hn : n ≤ l.length) : Kd.C (Kd.int .i64) w Al n (l.take n) := by
  have := Kd.C_take h hn
  rwa [List.length_take, Nat.min_eq_left hn] at this
theorem take_run (W : World) (Al : Option Addr) {n c m : Nat} (hm : m ≤ n) (hc : n ≤ c) : (Instr.slice 48 (.slice Al n c) none (some (.int .i64 (m : Int))) none).run Tryd.prog W = .ok (.slice Al m c) W := by
  obtain ⟨i0, hi, hz0, hz1, hz2⟩ := info_parts infoInt
  have := (print_take_int (k := .i64) (P := Tryd.prog) 48 3 Tryd.underlying48 hi hz1 Al c (List.replicate n 0) (m : Int) (Int.natCast_nonneg _) (by simp; omega) (by simp; omega)).1 W
  simpa [Nat.min_eq_left hm] using this
theorem cut_C {w : World} {Al : Option Addr} {l : List Int} {n cl : Nat} (h : Kd.C (Kd.int .i64) w Al l.length l) (hn : n ≤ l.length) (hc : l.length ≤ cl) :
    ∃ A2, (∀ W : World, (Instr.slice 48 (.slice Al l.length cl) (some (.int .i64 (n : Int))) none none).run Tryd.prog W = .ok (.slice A2 (l.length - n) (cl - n)) W) ∧ Kd.C (Kd.int .i64) w A2 (l.length - n) (l.drop n) := by
  obtain ⟨i0, hi, hz0, hz1, hz2⟩ := info_parts infoInt
  obtain ⟨A2, hcut, hrd⟩ := print_cut (P := Tryd.prog) 48 3 .i64 Tryd.underlying48 hi hz1 Al l.length cl n hn
  exact ⟨A2, hcut, Kd.C_of_reads (d := (0 : Int)) (h1 := fun _ => rfl) (hrd w .i64 l hc (Kd.reads_of_C (d := (0 : Int)) h))⟩
theorem sort_half {P : List Pt} {A : Option Addr} {c g m : Nat} (IH : SortOk P A c g m) {w : World} (hx : Ctx P A c g w) {l l' : List Int} (hil : InR P l) (hs : ∀ x ∈ l', x ∈ l) {n cl : Nat} {Al : Option Addr} (hn : l'.length = n) (hm : n ≤ m) (hC : Kd.C (Kd.int .i64) w Al n l') (hcl : n ≤ cl) (hl : n ≤ 1048576) (W : World) (hB : Below w.heap.size w W) :
    Calls Tryd.prog 46 #[.slice Al n cl, lessV g] W fun e w' => ∃ A1 c1, e = .returned (.slice A1 n c1) ∧ n ≤ c1 ∧ Kd.C (Kd.int .i64) w' A1 n (sortL (ltAt P) l') ∧ Below W.heap.size W w' := by
  subst hn
  refine (IH l' Al cl W hm (hx.below hB) (fun x hx => hil x (hs x hx)) (Kd.C_below hC hB) hcl hl).mono ?_
  rintro e w' ⟨v, rfl, ho, hb⟩
  obtain ⟨A1, c1, rfl, hc1, hC1⟩ := Kd.R_reads ho
  rw [sortL_length] at hc1 hC1
  exact ⟨A1, c1, by rw [sortL_length], hc1, hC1, hb⟩
theorem merge_half {P : List Pt} {A : Option Addr} {c g : Nat} {w W : World} (hx : Ctx P A c g w) (hB : Below w.heap.size w W) {a b : List Int} (ha : InR P a) (hb : InR P b) (A1 A2 : Option Addr) (c1 c2 : Nat) {n1 n2 : Nat} (h1 : a.length = n1) (h2 : b.length = n2) (hl : n1 + n2 ≤ 1048576) (hC1 : Kd.C (Kd.int .i64) W A1 n1 a) (hc1 : n1 ≤ c1) (hC2 : Kd.C (Kd.int .i64) W A2 n2 b) (hc2 : n2 ≤ c2) :
    Calls Tryd.prog 52 #[.slice A1 n1 c1, .slice A2 n2 c2, lessV g] W fun e w' => ∃ v, e = .returned v ∧ Kd.R (Kd.int .i64) 3 w' w.heap.size (fun _ => True) v (mergeL (ltAt P) a b) ∧ Below W.heap.size W w' := by
  subst h1 h2
  refine (merge_calls a b A1 A2 c1 c2 W (hx.below hB) ha hb hC1 hc1 hC2 hc2 (by omega)).mono ?_
  rintro e w' ⟨v, rfl, ho, hb'⟩
  exact ⟨v, rfl, Kd.R_lower ho hB.size, hb'⟩

set_option maxHeartbeats 1000000 in
set_option maxRecDepth 100000 in
theorem sort_small {P : List Pt} {g : Nat} (l : List Int) (Al : Option Addr) (cl : Nat) (w : World) (h2 : l.length < 2) (hr : Kd.C (Kd.int .i64) w Al l.length l) (_hcl : l.length ≤ cl) :
    Calls Tryd.prog 46 #[.slice Al l.length cl, lessV g] w fun e w' => ∃ v, e = .returned v ∧ Kd.R (Kd.int .i64) 3 w' w.heap.size (fun _ => True) v (sortL (ltAt P) l) ∧ Below w.heap.size w w' := by
  unfold lessV
  · have HS : Hid (sortL (ltAt P) l = l) := Lib.hid (by rw [sortL, dif_pos h2])
    go_enter Tryd.func46, Tryd.ntmps46
    go_wp2_with (first | ((with_reducible refine gate_builtin (b := .append) (xs := #[.const (.slice none 0 0), .tmp 9]) rfl ?_); at_builtin; refine Kd.R_append_row (Value.int .i64) (0 : Int) (w0 := w) w.heap.size rfl (.const (.slice none 0 0)) (.tmp 9) 48 3 (.int .i64 0) 8 rfl Tryd.underlying48 infoInt rfl (by omega) (.slice none 0 0) [] l Al l.length cl (fun _ => True) rfl rfl (fun _ _ => trivial) (Kd.R_nil _ _ _ _ _) hr (Below.refl _ _) (Nat.le_refl _) (by simp; omega) ?_; intro v1 w3 ho3 hb3 hg3 hat3))
    go_ret
    exact ⟨v1, rfl, by rw [HS.out]; exact ho3, hb3⟩

set_option maxHeartbeats 1000000 in
set_option maxRecDepth 100000 in
theorem sort_step {P : List Pt} {A : Option Addr} {c g : Nat} {m : Nat} (IH : SortOk P A c g m) : SortOk P A c g (m + 1) := by
  intro l Al cl w hlm hx hil hr hcl hl
  have hx' := Lib.hid hx
  have hil' := Lib.hid hil
  have IH' := Lib.hid IH
  clear hx hil IH
  by_cases h2 : l.length < 2
  · exact sort_small l Al cl w h2 hr hcl
  · unfold lessV
    have HS : Hid (sortL (ltAt P) l = mergeL (ltAt P) (sortL (ltAt P) (l.take (l.length / 2))) (sortL (ltAt P) (l.drop (l.length / 2)))) := Lib.hid (by rw [sortL, dif_neg h2])
    obtain ⟨n1, hn1⟩ : ∃ n1, l.length / 2 = n1 := ⟨_, rfl⟩
    rw [hn1] at HS
    have hle1 : n1 ≤ l.length := by omega
    have hz : (2 : Int) ≠ 0 := by decide
    have hI : ((l.length : Int) / 2) = (n1 : Int) := by omega
    have hw : wrap64 (n1 : Int) = (n1 : Int) := by unfold wrap64; omega
    have hCt := C_take_n hr hle1
    obtain ⟨A2, hcut, hCd⟩ := cut_C hr hle1 hcl
    have htake : ∀ W : World, (Instr.slice 48 (.slice Al l.length cl) none (some (.int .i64 (n1 : Int))) none).run Tryd.prog W = .ok (.slice Al n1 cl) W := fun W => by exact take_run W Al hle1 hcl
    have hcut' : ∀ W : World, (Instr.slice 48 (.slice Al l.length cl) (some (.int .i64 (n1 : Int))) none none).run Tryd.prog W = .ok (.slice A2 (l.length - n1) (cl - n1)) W := fun W => by exact hcut W
    have CL1 := Lib.hid (sort_half IH'.out hx'.out hil'.out (fun x hx => List.mem_of_mem_take hx) (l' := l.take n1) (n := n1) (cl := cl) (by rw [List.length_take]; omega) (by omega) hCt (by omega) (by omega))
    have CL2 := Lib.hid (sort_half IH'.out hx'.out hil'.out (fun x hx => List.mem_of_mem_drop hx) (l' := l.drop n1) (n := l.length - n1) (cl := cl - n1) (by rw [List.length_drop]) (by omega) hCd (by omega) (by omega))
    have CLM := Lib.hid (fun W A1 A2 c1 c2 hB => merge_half (P := P) (A := A) (c := c) (g := g) (w := w) (W := W) hx'.out hB (sortL_in hil'.out (fun x hx => List.mem_of_mem_take hx) (l' := l.take n1)) (sortL_in hil'.out (fun x hx => List.mem_of_mem_drop hx) (l' := l.drop n1)) A1 A2 c1 c2 (n1 := n1) (n2 := l.length - n1) (by rw [sortL_length, List.length_take]; omega) (by rw [sortL_length, List.length_drop]) (by omega))
    clear hCt hCd hcut hr hx' hil' IH' hl
    unfold lessV at CL1 CL2 CLM
    have tok1 : True := trivial
    have tok2 : True := trivial
    have hB0 : Below w.heap.size w w := Below.refl _ _
    go_enter Tryd.func46, Tryd.ntmps46
    go_wp2_with fail
    go_region_held3 (fun w' => Below w.heap.size w w')
      (first | assumption | exact below_drew (by assumption) | exact below_drew (Below.refl _ _) | exact below_step (by assumption) (by assumption))
      (first
        | (go_at_call 46; have _t := tok1; refine (CL1.out _ (by first | assumption | exact below_drew (by assumption))).mono ?_; rintro e w3 ⟨A1, c1, rfl, hc1, hC1, hb1⟩; clear tok1)
        | (go_at_call 46; have _t := tok2; refine (CL2.out _ (by first | assumption | exact below_drew (by assumption))).mono ?_; rintro e w3 ⟨A3, c3, rfl, hc3, hC3, hb3⟩; clear tok2)
        | (go_at_call 52; refine (CLM.out _ _ _ _ _ (by assumption) (by first | assumption | exact Kd.C_below hC1 (by assumption)) hc1 (by first | assumption | exact Kd.C_below hC3 (by assumption)) hc3).mono ?_; rintro e w5 ⟨vo, rfl, ho, hb5⟩))
    all_goals
      go_wp2
      go_ret
      exact ⟨_, rfl, by rw [HS.out]; exact ho, by assumption⟩
theorem sort_ok {P : List Pt} {A : Option Addr} {c g : Nat} : ∀ m, SortOk P A c g m
  | 0 => fun l Al cl w hm hx hi hr hcl hl => sort_small l Al cl w (by omega) hr hcl
  | m + 1 => sort_step (sort_ok m)

structure ORel (wB wr : World) (i : Nat) (v : Value) : Prop where
  own : Kd.R (Kd.int .i64) 3 wr wB.heap.size (fun _ => True) v ((List.range i).map fun i : Nat => (i : Int))
  below : Below wB.heap.size wB wr

set_option maxHeartbeats 1000000 in
set_option maxRecDepth 100000 in
theorem order_calls (P : List Pt) (A : Option Addr) (c : Nat) (w : World) (hP : Kd.C k47 w A P.length P) (hc : P.length ≤ c) (hl : P.length ≤ 1048576) :
    Calls Tryd.prog 37 #[.slice A P.length c] w fun e w' => ∃ v, e = .returned v ∧ Kd.R (Kd.int .i64) 3 w' w.heap.size (fun _ => True) v (orderL P) ∧ Below w.heap.size w w' := by
  have HP := Lib.hid hP
  clear hP
  obtain ⟨wB, hwB⟩ : ∃ wB, w.alloc (.cells #[.slice A P.length c] 22) = wB := ⟨_, rfl⟩
  have hBox : Hid (wB.heap[w.heap.size]? = some (.cells #[.slice A P.length c] 22 (0, 0))) := Lib.hid (by subst hwB; exact Go.Deep.blk_alloc_new _ _)
  have hBB : Hid (Below w.heap.size w wB) := Lib.hid (by subst hwB; exact below_alloc (Below.refl _ _) _)
  replace hwB := Lib.hid hwB
  go_enter Tryd.func37, Tryd.ntmps37
  go_wp2_with fail
  rw [hwB.out]
  clear hwB
  have H0 : Hid (ORel wB wB 0 (.slice none 0 0)) := Lib.hid ⟨Kd.R_nil _ _ _ _ _, Below.refl _ _⟩
  go_loopw [3, 7] (fun v3 v7 wr => ∃ (i : Nat) (vo : Value), vo = v3 ∧ v7 = .int .i64 (i : Int) ∧ i ≤ P.length ∧ Hid (ORel wB wr i vo))
    (fun _ v7 _ => (match v7 with | .int _ n => P.length - n.toNat | _ => 0))
  case atStart => exact ⟨0, _, rfl, rfl, by omega, H0⟩
  case round =>
    obtain ⟨i, vo, rfl, rfl, hi, hr⟩ := hrel
    by_cases hlt : (i : Int) < P.length
    · go_wp2_with (first | ((with_reducible refine gate_builtin (b := .append) (xs := #[.tmp 10, .tmp 12]) rfl ?_); at_builtin; refine Kd.R_append (Kd.int .i64) (w0 := wB) wB.heap.size rfl (.tmp 10) (.tmp 12) 48 3 (.int .i64 0) 8 rfl Tryd.underlying48 infoInt rfl (by decide) (by omega) vo ((List.range i).map fun i : Nat => (i : Int)) (i : Int) [.int .i64 (i : Int)] (fun _ => True) (fun _ => False) rfl rfl rfl (fun _ hk => hk.elim) (fun _ _ => trivial) hr.out.own hr.out.below hr.out.below.size (by simp; omega) ?_; intro v1 w4 ho4 hb4 hg4 hat4))
      exact ⟨⟨i + 1, v1, rfl, by simp, by omega, Lib.hid ⟨by rw [List.range_succ, List.map_append]; exact ho4, hb4⟩⟩, by simp; omega⟩
    · have hii : i = P.length := by omega
      subst hii
      obtain ⟨Ao, co, rfl, hco, hCo⟩ := Kd.R_reads hr.out.own
      rw [List.length_map, List.length_range] at hco hCo
      have hBw : Hid (Below w.heap.size w wr) := Lib.hid (below_step hBB.out hr.out.below)
      have CL := sort_ok (P := P) (A := A) (c := c) (g := w.heap.size) P.length ((List.range P.length).map fun i : Nat => (i : Int)) Ao co wr (by simp) ⟨blk_below hBox.out hr.out.below, Kd.C_below HP.out hBw.out⟩ (by intro x hx; simp at hx; obtain ⟨j, hj, rfl⟩ := hx; omega) (by simpa using hCo) (by simpa using hco) (by simpa using hl)
      rw [List.length_map, List.length_range] at CL
      unfold lessV at CL
      replace CL := Lib.hid CL
      go_wp2_with (first | (go_at_call 46; refine CL.out.mono ?_; rintro e w3 ⟨v1, rfl, ho, hb3⟩))
      go_ret
      exact ⟨v1, rfl, Kd.R_lower ho hBw.out.size, below_step hBw.out hb3⟩
end Go.Proofs.YtbmgajddhfjchaaDoor.Obj
namespace Go.Proofs.YtbmgajddhfjchaaDoor.Obj
open Go.RowKit Go.Proofs.YtbmgajddhfjchaaDoorW.PrintWords Go.Proofs.YtbmgajddhfjchaaDoorW.PrintLast Go.Proofs.YtbmgajddhfjchaaDoorW.PrintMore

theorem rd_get (l : List Int) (k : Nat) (h : k < l.length) : rd l (k : Int) = l[k] := by simp [rd, h]
set_option maxHeartbeats 4000000 in
set_option maxRecDepth 100000 in
theorem sorts_Twice.calls (A0 : Option Addr) (c0 : Nat) (l0 : List Pt) (r1 r2 : Int) (r3 : Bool) (w : World) (hr0 : Kd.C k47 w A0 l0.length l0) (hc0 : l0.length ≤ c0) (h : sorts_Twice.f l0 = some (r1, r2, r3)) :
    Calls Tryd.prog 26 #[.slice A0 l0.length c0] w fun e w' => e = .returned (.tuple #[.int .i64 r1, .int .i64 r2, .bool r3]) ∧ Below w.heap.size w w' := by
  unfold sorts_Twice.f at h
  split at h
  case isFalse => cases h
  rename_i hl
  injection h with h
  have HH := Lib.hid h
  have HP := Lib.hid hr0
  clear h hr0
  have CL := Lib.hid (fun W hB => order_calls l0 A0 c0 W (Kd.C_below HP.out hB) hc0 hl)
  go_enter Tryd.func26, Tryd.ntmps26
  go_wp2_with (first | (go_at_call 37; refine (CL.out _ (Below.refl _ _)).mono ?_; rintro e w3 ⟨vo, rfl, ho, hb3⟩))
  obtain ⟨O, hO⟩ : ∃ O, orderL l0 = O := ⟨_, rfl⟩
  rw [hO] at ho
  have HO := HH.out
  rw [hO] at HO
  have hin : Hid (InR l0 O) := Lib.hid (by subst hO; intro x hx; have := (sortL_mem _).mp hx; simp at this; obtain ⟨j, hj, rfl⟩ := this; omega)
  have hOl : O.length = l0.length := by subst hO; unfold orderL; rw [sortL_length]; simp
  replace HO := Lib.hid HO
  clear HH hO
  obtain ⟨Ao, co, rfl, hco, hCo⟩ := Kd.R_reads ho
  replace hCo := Lib.hid hCo
  clear ho
  have hHP : Hid (Kd.C k47 w3 A0 l0.length l0) := Lib.hid (Kd.C_below HP.out hb3)
  clear CL HP
  replace hb3 := Lib.hid hb3
  go_loopw [5, 6, 7, 9] (fun v5 v6 v7 v9 wr => ∃ (x y : Int) (b : Bool) (k j : Nat), v5 = .int .i64 x ∧ v6 = .int .i64 y ∧ v7 = .bool b ∧ v9 = .int .i64 (j : Int) ∧ Hid (j = k + 1) ∧ k ≤ O.length ∧ Hid (twScan l0 (O.drop k) (x, y, b) = (r1, r2, r3)) ∧ Hid (Below w3.heap.size w3 wr))
    (fun _ _ _ v9 _ => (match v9 with | .int _ n => O.length + 1 - n.toNat | _ => 0))
  case atStart => exact ⟨0, 0, false, 0, 1, rfl, rfl, rfl, rfl, Lib.hid rfl, by omega, by simpa using HO, Lib.hid (Below.refl _ _)⟩
  case round =>
    obtain ⟨x, y, b, k, j, rfl, rfl, rfl, rfl, hj, hk, hs, hb⟩ := hrel
    by_cases hlt : j < O.length
    · have hlt' : k + 1 < O.length := by have := hj.out; omega
      have e1 : O.drop k = O[k] :: O[k + 1] :: O.drop (k + 2) := by rw [List.drop_eq_getElem_cons (by omega), List.drop_eq_getElem_cons (by omega)]
      obtain ⟨ad, hA, hx0⟩ := Kd.at_int (Kd.C_below hCo.out hb.out) (k : Int) (by omega) (by omega)
      obtain ⟨ad', hA', hx1⟩ := Kd.at_int (Kd.C_below hCo.out hb.out) ((k + 1 : Nat) : Int) (by omega) (by omega)
      subst hA
      cases hA'
      rw [Int.toNat_natCast, rd_get O k (by omega)] at hx0
      rw [Int.toNat_natCast, rd_get O (k + 1) (by omega)] at hx1
      have hia := hin.out O[k] (List.getElem_mem _)
      have hib := hin.out O[k + 1] (List.getElem_mem _)
      have hs2 : Hid (twScan l0 (O.drop (k + 1)) (twStep l0 O[k] O[k + 1] (x, y, b)) = (r1, r2, r3)) := Lib.hid (by have := hs.out; rw [e1, twScan] at this; rw [← this, List.drop_eq_getElem_cons (by omega : k + 1 < O.length)])
      obtain ⟨p, hp⟩ : ∃ p, O[k] = p := ⟨_, rfl⟩
      obtain ⟨q, hq⟩ : ∃ q, O[k + 1] = q := ⟨_, rfl⟩
      rw [hp] at hx0 hia hs2
      rw [hq] at hx1 hib hs2
      rw [← hj.out] at hx1
      clear hp hq
      clear e1 hs
      obtain ⟨ap, hA, hy0, hy1⟩ := at_T47 (Kd.C_below hHP.out hb.out) p hia.1 hia.2
      obtain ⟨ap', hA', hz0, hz1⟩ := at_T47 (Kd.C_below hHP.out hb.out) q hib.1 hib.2
      subst hA
      cases hA'
      have e1 : rd_T47 l0 p = ptAt l0 p := rfl
      have e2 : rd_T47 l0 q = ptAt l0 q := rfl
      rw [e1] at hy0 hy1
      rw [e2] at hz0 hz1
      have hk0 : (0 : Int) ≤ (k : Int) := by omega
      have hk1 : (k : Int) < (O.length : Int) := by omega
      have hkn : k < O.length := by omega
      have hj0 : (0 : Int) ≤ (j : Int) := by omega
      have hj1 : (j : Int) < (O.length : Int) := by omega
      have hw3 : wrap64 ((j : Int) - 1) = (k : Int) := by have := hj.out; unfold wrap64; omega
      have hw5 : IntKind.i64.wrap ((j : Int) - 1) = (k : Int) := by have := hj.out; rw [IntKind.wrap_i64]; omega
      have hw2 : wrap64 ((j : Int) + 1) = (j : Int) + 1 := by unfold wrap64; omega
      have hia0 := hia.1
      have hia1 := hia.2
      have hib0 := hib.1
      have hib1 := hib.2
      have hu := Tryd.underlying47
      clear hia hib e1 e2 hOl hlt'
      obtain ⟨P1, hP1⟩ : ∃ P1, ptAt l0 p = P1 := ⟨_, rfl⟩
      obtain ⟨Q1, hQ1⟩ : ∃ Q1, ptAt l0 q = Q1 := ⟨_, rfl⟩
      have hs3 : Hid (twScan l0 (List.drop (k + 1) O) (if ptPair P1 = ptPair Q1 ∧ (b = false ∨ p < x) then (p, q, true) else (x, y, b)) = (r1, r2, r3)) := Lib.hid (by have := hs2.out; unfold twStep at this; rw [hP1, hQ1] at this; exact this)
      rw [hP1] at hy0 hy1
      rw [hQ1] at hz0 hz1
      clear hP1 hQ1 hs2
      go_wp2_with fail
      go_quiet (fail)
      go_wp2_with fail
      by_cases hpq : P1.f0 = Q1.f0 ∧ P1.f1 = Q1.f1
      · obtain ⟨hpq0, hpq1⟩ := hpq
        cases b with
        | false =>
          have hpx : True := trivial
          go_quiet (fail)
          go_wp2_with fail
          exact ⟨⟨p, q, true, k + 1, j + 1, rfl, rfl, rfl, by simp [hw2], Lib.hid (by rw [hj.out]), by omega, Lib.hid (by have := hs3.out; rwa [if_pos ⟨by simp [ptPair, hpq0, hpq1], by simp [hpx]⟩] at this), Lib.hid (pw_below_drewN hb.out _)⟩, by simp [hw2]; omega⟩
        | true =>
          by_cases hpx : p < x
          · have hd : decide (p < x) = true := by simp [hpx]
            go_quiet (fail)
            go_wp2_with fail
            exact ⟨⟨p, q, true, k + 1, j + 1, rfl, rfl, rfl, by simp [hw2], Lib.hid (by rw [hj.out]), by omega, Lib.hid (by have := hs3.out; rwa [if_pos ⟨by simp [ptPair, hpq0, hpq1], by simp [hpx]⟩] at this), Lib.hid (pw_below_drewN hb.out _)⟩, by simp [hw2]; omega⟩
          · have hd : decide (p < x) = false := by simp [hpx]
            go_quiet (fail)
            go_wp2_with fail
            exact ⟨⟨x, y, true, k + 1, j + 1, rfl, rfl, rfl, by simp [hw2], Lib.hid (by rw [hj.out]), by omega, Lib.hid (by have := hs3.out; rwa [if_neg (by simp [ptPair, hpx])] at this), Lib.hid (pw_below_drewN hb.out _)⟩, by simp [hw2]; omega⟩
      · by_cases h0 : P1.f0 = Q1.f0
        · have h1 : ¬ P1.f1 = Q1.f1 := fun h => hpq ⟨h0, h⟩
          have hd : decide (P1.f1 = Q1.f1) = false := by simp [h1]
          clear hpq
          go_quiet (fail)
          go_wp2_with fail
          exact ⟨⟨x, y, b, k + 1, j + 1, rfl, rfl, rfl, by simp [hw2], Lib.hid (by rw [hj.out]), by omega, Lib.hid (by have := hs3.out; rwa [if_neg (by simp [ptPair, h1])] at this), Lib.hid (pw_below_drewN hb.out _)⟩, by simp [hw2]; omega⟩
        · have hd : decide (P1.f0 = Q1.f0) = false := by simp [h0]
          clear hpq
          go_quiet (fail)
          go_wp2_with fail
          exact ⟨⟨x, y, b, k + 1, j + 1, rfl, rfl, rfl, by simp [hw2], Lib.hid (by rw [hj.out]), by omega, Lib.hid (by have := hs3.out; rwa [if_neg (by simp [ptPair, h0])] at this), Lib.hid (pw_below_drewN hb.out _)⟩, by simp [hw2]; omega⟩
    · have hs' : (x, y, b) = (r1, r2, r3) := by
        have : O.drop k = [] ∨ ∃ z, O.drop k = [z] := by
          match h : O.drop k with
          | [] => exact .inl rfl
          | [z] => exact .inr ⟨z, rfl⟩
          | a :: b :: r => have := congrArg List.length h; have := hj.out; simp at *; omega
        rcases this with e | ⟨z, e⟩
        · have := hs.out; rw [e] at this; simpa [twScan] using this
        · have := hs.out; rw [e] at this; simpa [twScan] using this
      injection hs' with e1 hs'
      injection hs' with e2 e3
      subst e1 e2 e3
      have hlt' : ¬ ((j : Int) < (O.length : Int)) := by omega
      go_wp2_with fail
      go_ret3
      exact ⟨rfl, below_step hb3.out hb.out⟩
end Go.Proofs.YtbmgajddhfjchaaDoor.Obj
