/- What object.Check answers: a plain law on the printed function. Layings of library contracts at this program (the shelf's plain text; WriteString's by hshelf.py). object.row: a word and numbers, joined and written into the builder. object.Write: the text of a mesh that may be. -/
import Derived.Test.YtbmgajddhfjchaaDoorCtObjx1
import Derived.Shelf.Strings.Builder1
import Derived.Shelf.Strings.BuilderF
import Derived.Shelf.Strings.BuilderK
import Derived.Shelf.Strconv.Itoa0
import Derived.Shelf.Strconv.Itoa1
import Derived.Shelf.LaysM
import Derived.Shelf.Strconv.Itoa2
import Derived.Shelf.Strconv.Itoa3
import Derived.Shelf.Strings.BuilderCap
import Derived.Test.YtbmgajddhfjchaaDoorProg
import Derived.Test.YtbmgajddhfjchaaDoorCtG1
import Derived.Lib.ItoaMem
import Derived.Lib.AppendIntMem
import Derived.Lib.ItoaLen
import Derived.WalkSmall
import Derived.Deep.RegionHeld3
import Derived.Outline
import Derived.Lib.Hide
import Derived.Test.YtbmgajddhfjchaaDoorCtObjBx3
set_option linter.unusedVariables false
set_option linter.unusedSimpArgs false
namespace Go.Proofs.YtbmgajddhfjchaaDoor.Obj
open Go.RowKit Go.Proofs.YtbmgajddhfjchaaDoorW.PrintWords Go.Proofs.YtbmgajddhfjchaaDoorW.PrintLast Go.Proofs.YtbmgajddhfjchaaDoorW.PrintMore

/-! ### the order -/
theorem lessP_iff {p q : Pt} : lessP p q = true ↔ p.f0 < q.f0 ∨ (p.f0 = q.f0 ∧ p.f1 < q.f1) := by simp [lessP]
theorem lessP_not {p q : Pt} : lessP p q = false ↔ ¬ (p.f0 < q.f0 ∨ (p.f0 = q.f0 ∧ p.f1 < q.f1)) := by
  rw [← lessP_iff]; simp
def leI (P : List Pt) (a b : Int) : Prop := ltAt P b a = false
theorem leI_trans {P : List Pt} {a b c : Int} (h : leI P a b) (k : leI P b c) : leI P a c := by
  unfold leI ltAt at *; rw [lessP_not] at *; omega
theorem leI_of_lt {P : List Pt} {a b : Int} (h : ltAt P a b = true) : leI P a b := by
  unfold leI ltAt at *; rw [lessP_not]; rw [lessP_iff] at h; omega
theorem mergeL_perm (lt : Int → Int → Bool) (a b : List Int) : (mergeL lt a b).Perm (a ++ b) := by
  fun_induction mergeL lt a b with
  | case1 b => exact List.Perm.refl _
  | case2 x a => simp
  | case3 x a y b h ih => exact (List.Perm.cons y ih).trans (List.perm_middle (l₁ := x :: a)).symm
  | case4 x a y b h ih => exact List.Perm.cons x ih
theorem sortL_perm (lt : Int → Int → Bool) (l : List Int) : (sortL lt l).Perm l := by
  fun_induction sortL lt l with
  | case1 l h => exact List.Perm.refl _
  | case2 l h ih1 ih2 => exact (mergeL_perm _ _ _).trans ((ih1.append ih2).trans (by rw [List.take_append_drop]))
theorem mergeL_sorted {P : List Pt} (a b : List Int) (ha : a.Pairwise (leI P)) (hb : b.Pairwise (leI P)) : (mergeL (ltAt P) a b).Pairwise (leI P) := by
  fun_induction mergeL (ltAt P) a b with
  | case1 b => exact hb
  | case2 x a => exact ha
  | case3 x a y b h ih =>
    have hb' := List.pairwise_cons.1 hb
    refine List.pairwise_cons.2 ⟨fun z hz => ?_, ih ha hb'.2⟩
    rcases (mergeL_mem _ _).mp hz with hz | hz
    · rcases List.mem_cons.1 hz with rfl | hz
      · exact leI_of_lt h
      · exact leI_trans (leI_of_lt h) ((List.pairwise_cons.1 ha).1 z hz)
    · exact hb'.1 z hz
  | case4 x a y b h ih =>
    have ha' := List.pairwise_cons.1 ha
    have hxy : leI P x y := by unfold leI; simpa using h
    refine List.pairwise_cons.2 ⟨fun z hz => ?_, ih ha'.2 hb⟩
    rcases (mergeL_mem _ _).mp hz with hz | hz
    · exact ha'.1 z hz
    · rcases List.mem_cons.1 hz with rfl | hz
      · exact hxy
      · exact leI_trans hxy ((List.pairwise_cons.1 hb).1 z hz)
theorem sortL_sorted {P : List Pt} (l : List Int) : (sortL (ltAt P) l).Pairwise (leI P) := by
  fun_induction sortL (ltAt P) l with
  | case1 l h =>
    match l, h with
    | [], _ => exact List.Pairwise.nil
    | [a], _ => exact List.pairwise_singleton _ _
  | case2 l h ih1 ih2 => exact mergeL_sorted _ _ ih1 ih2

def keyAt (P : List Pt) (a : Int) : Int × Int := ptPair (ptAt P a)
def adjEq (P : List Pt) : List Int → Prop
  | a :: b :: r => keyAt P a = keyAt P b ∨ adjEq P (b :: r)
  | _ => False
theorem twScan_has (P : List Pt) : ∀ (l : List Int) (s : Int × Int × Bool), (twScan P l s).2.2 = true ↔ s.2.2 = true ∨ adjEq P l
  | [], s => by simp [twScan, adjEq]
  | [a], s => by simp [twScan, adjEq]
  | a :: b :: r, s => by
    rw [twScan, twScan_has P (b :: r)]
    simp only [adjEq, keyAt]
    have : (twStep P a b s).2.2 = true ↔ s.2.2 = true ∨ ptPair (ptAt P a) = ptPair (ptAt P b) := by
      unfold twStep
      by_cases h1 : ptPair (ptAt P a) = ptPair (ptAt P b)
      · cases h2 : s.2.2 <;> by_cases h3 : a < s.1 <;> simp [h1, h3, h2]
      · simp [h1]
    rw [this, or_assoc]
theorem nodup_adj {P : List Pt} : ∀ (l : List Int), l.Pairwise (leI P) → ((l.map (keyAt P)).Nodup ↔ ¬ adjEq P l)
  | [], _ => by simp [adjEq]
  | [a], _ => by simp [adjEq]
  | a :: b :: r, h => by
    obtain ⟨h1, h2⟩ := List.pairwise_cons.1 h
    have ih := nodup_adj (b :: r) h2
    rw [List.map_cons, List.nodup_cons, ih]
    simp only [adjEq]
    constructor
    · rintro ⟨h3, h4⟩ (h5 | h5)
      · exact h3 (by rw [h5]; simp)
      · exact h4 h5
    · intro h3
      refine ⟨fun hm => ?_, fun h4 => h3 (.inr h4)⟩
      obtain ⟨z, hz, he⟩ := List.mem_map.1 hm
      have hab : keyAt P a ≠ keyAt P b := fun e => h3 (.inl e)
      have l1 : leI P a b := h1 b (by simp)
      have l2 : z = b ∨ leI P b z := by
        rcases List.mem_cons.1 hz with rfl | hz
        · exact .inl rfl
        · exact .inr ((List.pairwise_cons.1 h2).1 z hz)
      rcases l2 with rfl | l2
      · exact hab he.symm
      · unfold leI ltAt at l1 l2
        rw [lessP_not] at l1 l2
        simp only [keyAt, ptPair, Prod.mk.injEq, ne_eq] at he hab
        omega
theorem twice_has (P : List Pt) : (twScan P (orderL P) (0, 0, false)).2.2 = true ↔ ¬ (P.map ptPair).Nodup := by
  rw [twScan_has]
  have hs := sortL_sorted (P := P) ((List.range P.length).map fun i : Nat => (i : Int))
  have e : orderL P = sortL (ltAt P) ((List.range P.length).map fun i : Nat => (i : Int)) := rfl
  rw [e]
  have hn := nodup_adj _ hs
  have hp := ((sortL_perm (ltAt P) ((List.range P.length).map fun i : Nat => (i : Int))).map (keyAt P)).nodup_iff
  have hk : (((List.range P.length).map fun i : Nat => (i : Int)).map (keyAt P)) = P.map ptPair := by
    apply List.ext_getElem
    · simp
    · intro i h1 h2
      have h3 : i < P.length := by simpa using h2
      simp [keyAt, ptAt, h3]
  rw [hk] at hp
  rw [← hp, hn]
  simp
theorem twice_f {P : List Pt} (h : P.length ≤ 1048576) : ∃ a b, sorts_Twice.f P = some (a, b, decide (¬ (P.map ptPair).Nodup)) := by
  unfold sorts_Twice.f
  rw [if_pos h]
  have h1 : (twScan P (orderL P) (0, 0, false)).2.2 = decide (¬ (P.map ptPair).Nodup) := by
    have := twice_has P
    cases h1 : (twScan P (orderL P) (0, 0, false)).2.2
    · rw [h1] at this; simp at this; simp [this]
    · rw [h1] at this; simp at this; simp [this]
  exact ⟨_, _, by rw [← h1]⟩

/-! ### the loops -/
theorem fits_loop (P : List Pt) (hs : P.length ≤ 1048576) : ∀ (d i : Nat), P.length = i + d → ∃ k, pred_Fits.l0 k P (P.length : Int) (i : Int) = some (decide (∀ p ∈ P.drop i, fitsP p))
  | 0, i, h => ⟨1, by
    unfold pred_Fits.l0
    rw [if_neg (by omega), List.drop_eq_nil_of_le (by omega)]
    simp⟩
  | d + 1, i, h => by
    obtain ⟨k, hk⟩ := fits_loop P hs d (i + 1) (by omega)
    refine ⟨k + 1, ?_⟩
    have hi : i < P.length := by omega
    have e1 : rd_T47 P (i : Int) = P[i] := by simp [rd_T47, hi]
    have e2 : wrap64 ((i : Int) + 1) = ((i + 1 : Nat) : Int) := by unfold wrap64; omega
    unfold pred_Fits.l0
    obtain ⟨p, hp⟩ : ∃ p, P[i] = p := ⟨_, rfl⟩
    obtain ⟨R, hR⟩ : ∃ R, P.drop (i + 1) = R := ⟨_, rfl⟩
    rw [if_pos (by omega), if_pos (by omega), if_pos (by omega), e1, e2, List.drop_eq_getElem_cons hi, hk, hp, hR]
    by_cases h1 : fitsP p
    · have h2 := h1
      unfold fitsP at h2
      rw [if_neg (by omega), if_neg (by omega), if_neg (by omega), if_neg (by omega)]
      exact congrArg some (decide_eq_decide.2 (by simp [h1]))
    · have h2 := h1
      unfold fitsP at h2
      have e3 : ¬ (∀ q ∈ p :: R, fitsP q) := fun h => h1 (h p (by simp))
      rw [decide_eq_false e3]
      repeat' split
      all_goals first | rfl | omega
theorem fits_f (P : List Pt) (hs : P.length ≤ 1048576) : ∃ k, pred_Fits.f k P = some (decide (∀ p ∈ P, fitsP p)) := by
  obtain ⟨k, hk⟩ := fits_loop P hs P.length 0 (by omega)
  exact ⟨k, by unfold pred_Fits.f; simpa using hk⟩

theorem ite_cond {p q : Prop} [Decidable p] [Decidable q] (h : p ↔ q) (a b : Int) : (if p then a else b) = if q then a else b := by
  by_cases hp : p
  · rw [if_pos hp, if_pos (h.1 hp)]
  · rw [if_neg hp, if_neg (fun k => hp (h.2 k))]
def allIn (u : List Bool) : Prop := ∀ b ∈ u, b = true
instance (u : List Bool) : Decidable (allIn u) := by unfold allIn; exact inferInstance
theorem used_loop (u : List Bool) (hs : u.length ≤ 1048576) : ∀ (d i : Nat), u.length = i + d → ∃ k, object_Check.l2 k u (u.length : Int) (i : Int) = some (if allIn (u.drop i) then 0 else 2)
  | 0, i, h => ⟨1, by
    unfold object_Check.l2
    rw [if_neg (by omega), List.drop_eq_nil_of_le (by omega), if_pos (by intro b hb; simp at hb)]⟩
  | d + 1, i, h => by
    obtain ⟨k, hk⟩ := used_loop u hs d (i + 1) (by omega)
    refine ⟨k + 1, ?_⟩
    have hi : i < u.length := by omega
    have e1 : rdOf false u (i : Int) = u[i] := by simp [rdOf, hi]
    have e2 : wrap64 ((i : Int) + 1) = ((i + 1 : Nat) : Int) := by unfold wrap64; omega
    unfold object_Check.l2
    rw [if_pos (by omega), if_pos (by omega), if_pos (by omega), e1, e2, List.drop_eq_getElem_cons hi, hk]
    cases h1 : u[i]
    · simp [allIn]
    · simp [allIn]
def marks (u : List Bool) (f : List Int) : List Bool := f.foldl (fun u x => u.set x.toNat true) u
theorem marks_length (u : List Bool) (f : List Int) : (marks u f).length = u.length := by
  induction f generalizing u with
  | nil => rfl
  | cons a r ih => simp only [marks, List.foldl_cons] at ih ⊢; rw [ih]; simp
def marksAll (u : List Bool) (F : List (List Int)) : List Bool := F.foldl marks u
theorem face_loop (F : List (List Int)) (f : List Int) (hf : f.length ≤ 1048576) (j : Nat) (hj : j < 4611686018427387904) (r : Int) : ∀ (d i : Nat) (u : List Bool), f.length = i + d → (∀ x ∈ f, 0 ≤ x ∧ x < (u.length : Int)) →
    (∃ k, object_Check.l0 k (marks u (f.drop i)) F (F.length : Int) ((j + 1 : Nat) : Int) = some r) → ∃ k, object_Check.l1 k u F (F.length : Int) (j : Int) f (f.length : Int) (i : Int) = some r
  | 0, i, u, h, _, ⟨k, hk⟩ => ⟨k + 1, by
    have e2 : wrap64 ((j : Int) + 1) = ((j + 1 : Nat) : Int) := by unfold wrap64; omega
    unfold object_Check.l1
    rw [if_neg (by omega), e2]
    rw [List.drop_eq_nil_of_le (by omega)] at hk
    exact hk⟩
  | d + 1, i, u, h, hr, hk0 => by
    have hi : i < f.length := by omega
    have e1 : rd f (i : Int) = f[i] := by simp [rd, hi]
    have hx := hr f[i] (List.getElem_mem _)
    rw [List.drop_eq_getElem_cons hi] at hk0
    obtain ⟨k, hk⟩ := face_loop F f hf j hj r d (i + 1) (u.set f[i].toNat true) (by omega) (by simpa using hr) hk0
    have e2 : wrap64 ((i : Int) + 1) = ((i + 1 : Nat) : Int) := by unfold wrap64; omega
    refine ⟨k + 1, ?_⟩
    unfold object_Check.l1
    rw [if_pos (by omega), if_pos (by omega), if_pos (by omega), e1, if_pos hx.1, if_pos hx.2, e2]
    exact hk
theorem faces_loop (F : List (List Int)) (hF : F.length ≤ 2000000) (n : Nat) (hn : n ≤ 1048576) (hr : ∀ f ∈ F, ∀ x ∈ f, 0 ≤ x ∧ x < (n : Int)) : ∀ (d j : Nat) (u : List Bool), F.length = j + d → u.length = n →
    ∃ k, object_Check.l0 k u F (F.length : Int) (j : Int) = some (if (∀ f ∈ F.drop j, f.length ≤ 4) ∧ allIn (marksAll u (F.drop j)) then 0 else 2)
  | 0, j, u, h, hu => by
    obtain ⟨k, hk⟩ := used_loop u (by omega) u.length 0 (by omega)
    refine ⟨k + 1, ?_⟩
    unfold object_Check.l0
    rw [if_neg (by omega), List.drop_eq_nil_of_le (by omega)]
    simpa [marksAll] using hk
  | d + 1, j, u, h, hu => by
    have hj : j < F.length := by omega
    have e1 : rd_L13 F (j : Int) = F[j] := by simp [rd_L13, hj]
    obtain ⟨f, hf⟩ : ∃ f, F[j] = f := ⟨_, rfl⟩
    have hfm : f ∈ F := by rw [← hf]; exact List.getElem_mem _
    rw [List.drop_eq_getElem_cons hj]
    by_cases h4 : f.length ≤ 4
    · obtain ⟨k, hk⟩ := face_loop F f (by omega) j (by omega) _ f.length 0 u (by omega) (by rw [hu]; exact hr f hfm) (faces_loop F hF n hn hr d (j + 1) (marks u (f.drop 0)) (by omega) (by rw [marks_length, hu]))
      refine ⟨k + 1, ?_⟩
      unfold object_Check.l0
      rw [if_pos (by omega), if_pos (by omega), if_pos (by omega), e1, hf, if_neg (by omega)]
      refine Eq.trans hk (congrArg some (ite_cond ?_ _ _))
      simp [marksAll, h4]
    · refine ⟨1, ?_⟩
      unfold object_Check.l0
      rw [if_pos (by omega), if_pos (by omega), if_pos (by omega), e1, hf, if_pos (by omega)]
      rw [if_neg]
      rintro ⟨h5, _⟩
      exact h4 (h5 f (by simp))

/-! ### the whole -/
theorem marks_get (f : List Int) : ∀ (u : List Bool) (i : Nat), i < u.length → (∀ x ∈ f, 0 ≤ x) → ((marks u f)[i]? = some true ↔ u[i]? = some true ∨ (i : Int) ∈ f) := by
  induction f with
  | nil => intro u i hi hx; simp [marks]
  | cons a r ih =>
    intro u i hi hx
    have ha := hx a (by simp)
    have e : marks u (a :: r) = marks (u.set a.toNat true) r := rfl
    rw [e, ih (u.set a.toNat true) i (by simpa using hi) (fun x h => hx x (by simp [h]))]
    by_cases h : a.toNat = i
    · have h2 : (i : Int) = a := by omega
      simp [h, h2, List.getElem?_set, hi]
    · have h2 : ¬ (i : Int) = a := by omega
      simp [h, h2, List.getElem?_set]
theorem marksAll_get (F : List (List Int)) : ∀ (u : List Bool) (i : Nat), i < u.length → (∀ f ∈ F, ∀ x ∈ f, 0 ≤ x) → ((marksAll u F)[i]? = some true ↔ u[i]? = some true ∨ ∃ f ∈ F, (i : Int) ∈ f) := by
  induction F with
  | nil => intro u i hi hx; simp [marksAll]
  | cons a r ih =>
    intro u i hi hx
    have e : marksAll u (a :: r) = marksAll (marks u a) r := rfl
    rw [e, ih (marks u a) i (by rw [marks_length]; exact hi) (fun f h => hx f (by simp [h])), marks_get a u i hi (hx a (by simp))]
    simp [or_assoc]
theorem marksAll_length (F : List (List Int)) : ∀ u : List Bool, (marksAll u F).length = u.length := by
  induction F with
  | nil => intro u; rfl
  | cons a r ih => intro u; exact (ih (marks u a)).trans (marks_length u a)
theorem allIn_marks (n : Nat) (F : List (List Int)) (hx : ∀ f ∈ F, ∀ x ∈ f, 0 ≤ x) : allIn (marksAll (List.replicate n false) F) ↔ ∀ i ∈ List.range n, ∃ f ∈ F, (i : Int) ∈ f := by
  have hl : (marksAll (List.replicate n false) F).length = n := by rw [marksAll_length]; simp
  constructor
  · intro h i hi
    have hi' : i < n := by simpa using hi
    have h1 := (marksAll_get F (List.replicate n false) i (by simpa using hi') hx).1 (by
      rw [List.getElem?_eq_getElem (by omega)]
      exact congrArg some (h _ (List.getElem_mem _)))
    rcases h1 with h1 | h1
    · simp [List.getElem?_replicate] at h1
    · exact h1
  · intro h b hb
    obtain ⟨i, hi, rfl⟩ := List.getElem_of_mem hb
    have h1 := (marksAll_get F (List.replicate n false) i (by simp; omega) hx).2 (.inr (h i (by simp; omega)))
    rw [List.getElem?_eq_getElem hi] at h1
    exact Option.some.inj h1
theorem kind_in {n : Int} {F : List (List Int)} (h : known_kind n F = 0) : 0 ≤ n ∧ n ≤ 1048576 ∧ ∀ f ∈ F, ∀ x ∈ f, 0 ≤ x ∧ x < n := by
  unfold known_kind at h
  split at h
  · cases h
  · split at h
    · cases h
    · rename_i h1 h2
      exact ⟨by omega, by omega, fun f hf => by
        have h3 : ∀ f ∈ F, faceOk n f := by simpa using h2
        exact (h3 f hf).2.1⟩
theorem check_j0 (P : List Pt) (W : Int) (F : List (List Int)) (hP : P.length ≤ 1048576) (hF : F.length ≤ 2000000) (hk : known_kind P.length F = 0) :
    ∃ k, object_Check.j0 k false P W F = some (if (P.map ptPair).Nodup ∧ (∀ f ∈ F, f.length ≤ 4) ∧ ∀ i ∈ List.range P.length, ∃ f ∈ F, (i : Int) ∈ f then 0 else 2) := by
  obtain ⟨a, b, h2⟩ := twice_f hP
  have hin := (kind_in hk).2.2
  obtain ⟨k, hkk⟩ := faces_loop F hF P.length hP hin F.length 0 (List.replicate P.length false) (by omega) (by simp)
  refine ⟨k + 1, ?_⟩
  rw [object_Check.j0, if_neg (by simp), h2, Option.bind_some]
  by_cases hn : (P.map ptPair).Nodup
  · rw [if_neg (by simp [hn]), if_pos (by omega), if_pos (by omega)]
    rw [Int.toNat_natCast]
    refine Eq.trans hkk (congrArg some (ite_cond ?_ _ _))
    rw [List.drop_zero, allIn_marks P.length F (fun f hf x hx => (hin f hf x hx).1)]
    simp [hn]
  · rw [if_pos (by simp [hn]), if_neg (fun h => hn h.1)]
theorem check_spec (P : List Pt) (W : Int) (F : List (List Int)) (h : small_obj P F) : ∃ k, object_Check.f k P W F = some (if objOk P W F then 0 else 2) := by
  have hT : ∀ k, object_Check.j0 (k + 1) true P W F = some 2 := fun k => by rw [object_Check.j0, if_pos rfl]
  by_cases h1 : F = []
  · exact ⟨1, by unfold object_Check.f; rw [if_pos (by simp [h1]), hT, if_neg (fun h => h.1 h1)]⟩
  have h1' : ¬ (F.length : Int) = 0 := by
    intro h; exact h1 (List.eq_nil_of_length_eq_zero (by omega))
  by_cases h2 : W < 1
  · exact ⟨1, by unfold object_Check.f; rw [if_neg h1', if_pos h2, hT, if_neg (fun h => by have := h.2.1; omega)]⟩
  by_cases h3 : W > 1048576
  · exact ⟨1, by unfold object_Check.f; rw [if_neg h1', if_neg h2, if_pos h3, hT, if_neg (fun h => by have := h.2.2.1; omega)]⟩
  obtain ⟨k1, hf⟩ := fits_f P h.1
  have hk1 : ∀ m, pred_Fits.f (k1 + m) P = some (decide (∀ p ∈ P, fitsP p)) := by
    intro m
    induction m with
    | zero => exact hf
    | succ m ih => exact pred_Fits.mono _ _ _ ih
  have hfc : faces_Check.f (P.length : Int) F = some (known_kind P.length F) := by unfold faces_Check.f; rw [if_pos h.2]
  by_cases h4 : ∀ p ∈ P, fitsP p
  · by_cases h5 : known_kind P.length F = 0
    · obtain ⟨k2, h6⟩ := check_j0 P W F h.1 h.2.1 h5
      have hk2 : ∀ m, object_Check.j0 (k2 + m) false P W F = some (if (P.map ptPair).Nodup ∧ (∀ f ∈ F, f.length ≤ 4) ∧ ∀ i ∈ List.range P.length, ∃ f ∈ F, (i : Int) ∈ f then 0 else 2) := by
        intro m
        induction m with
        | zero => exact h6
        | succ m ih => exact (object_Check.mono_l _).1 _ _ _ _ _ ih
      refine ⟨k1 + k2, ?_⟩
      unfold object_Check.f
      rw [if_neg h1', if_neg h2, if_neg h3, hk1, Option.bind_some, if_pos (by simpa using h4), hfc, Option.bind_some, h5, Nat.add_comm k1 k2]
      refine Eq.trans (hk2 k1) (congrArg some (ite_cond ?_ _ _))
      unfold objOk
      constructor
      · exact fun h7 => ⟨h1, by omega, by omega, h4, h5, h7⟩
      · exact fun h7 => h7.2.2.2.2.2
    · refine ⟨k1 + 1, ?_⟩
      unfold object_Check.f
      rw [if_neg h1', if_neg h2, if_neg h3, hk1, Option.bind_some, if_pos (by simpa using h4), hfc, Option.bind_some]
      have e : (known_kind P.length F != 0) = true := by simp [h5]
      rw [e, hT, if_neg (fun h => h5 h.2.2.2.2.1)]
  · refine ⟨k1 + 1, ?_⟩
    unfold object_Check.f
    rw [if_neg h1', if_neg h2, if_neg h3, hk1, Option.bind_some, if_neg (by simpa using h4), hT, if_neg (fun h => h4 h.2.2.2.1)]
end Go.Proofs.YtbmgajddhfjchaaDoor.Obj
namespace Go.Proofs
open Go.Shelf
def Tryd.lays169_ren : Go.Shelf.Ren := ⟨fun | 169 => 16 | n => n, fun | 70 => 51 | 9 => 9 | 0 => 0 | 72 => 53 | 37 => 26 | 127 => 80 | 3 => 3 | 5 => 5 | n => n, fun | n => n⟩
theorem Tryd.lays169 : Go.Proofs.Lays.n169 Tryd.prog Tryd.lays169_ren := {
  mixed := by kernel_rfl
  f169 := Tryd.func16.trans (congrArg some (by kernel_rfl))
  t0 := Tryd.underlying0
  a0 := Tryd.isAgg0
  z0 := Tryd.sizeOf0
  v0 := Tryd.zeroValue0
  t3 := Tryd.underlying3
  a3 := Tryd.isAgg3
  z3 := Tryd.sizeOf3
  v3 := Tryd.zeroValue3
  t9 := Tryd.underlying9
  a9 := Tryd.isAgg9
  z9 := Tryd.sizeOf9
  v9 := Tryd.zeroValue9
  t37 := Tryd.underlying26
  a37 := Tryd.isAgg26
  z37 := Tryd.sizeOf26
  v37 := Tryd.zeroValue26
  t70 := Tryd.underlying51
  a70 := Tryd.isAgg51
  z70 := Tryd.sizeOf51
  v70 := Tryd.zeroValue51
  t72 := Tryd.underlying53
  a72 := Tryd.isAgg53
  z72 := Tryd.sizeOf53
  v72 := Tryd.zeroValue53
  t127 := Tryd.underlying80
  a127 := Tryd.isAgg80
  z127 := Tryd.sizeOf80
  v127 := Tryd.zeroValue80 }
def Tryd.laysM171_ren : Go.Shelf.Ren := ⟨fun | 171 => 29 | 243 => 39 | 246 => 49 | 283 => 53 | 284 => 54 | 285 => 55 | 286 => 56 | 129 => 58 | 317 => 57 | 318 => 59 | 319 => 60 | 320 => 61 | 337 => 62 | 338 => 63 | n => n, fun | 3 => 3 | 9 => 9 | 2 => 2 | 4 => 4 | 171 => 112 | 0 => 0 | 53 => 113 | 37 => 26 | 5 => 5 | 173 => 116 | 212 => 120 | 51 => 121 | 20 => 20 | 213 => 122 | 46 => 42 | 232 => 126 | 233 => 127 | n => n, fun | 17 => 0 | 18 => 1 | 19 => 2 | n => n⟩
theorem Tryd.laysM171 : Go.Proofs.LaysM.n171 Tryd.prog Tryd.laysM171_ren := {
  mixed := by kernel_rfl
  f129 := Tryd.func58.trans (congrArg some (by kernel_rfl))
  f171 := Tryd.func29.trans (congrArg some (by kernel_rfl))
  f243 := Tryd.func39.trans (congrArg some (by kernel_rfl))
  f246 := Tryd.func49.trans (congrArg some (by kernel_rfl))
  f283 := Tryd.func53.trans (congrArg some (by kernel_rfl))
  f284 := Tryd.func54.trans (congrArg some (by kernel_rfl))
  f285 := Tryd.func55.trans (congrArg some (by kernel_rfl))
  f286 := Tryd.func56.trans (congrArg some (by kernel_rfl))
  f317 := Tryd.func57.trans (congrArg some (by kernel_rfl))
  f318 := Tryd.func59.trans (congrArg some (by kernel_rfl))
  f319 := Tryd.func60.trans (congrArg some (by kernel_rfl))
  f320 := Tryd.func61.trans (congrArg some (by kernel_rfl))
  f337 := Tryd.func62.trans (congrArg some (by kernel_rfl))
  f338 := Tryd.func63.trans (congrArg some (by kernel_rfl))
  t0 := Tryd.underlying0
  a0 := Tryd.isAgg0
  z0 := Tryd.sizeOf0
  v0 := Tryd.zeroValue0
  t2 := Tryd.underlying2
  a2 := Tryd.isAgg2
  z2 := Tryd.sizeOf2
  v2 := Tryd.zeroValue2
  t3 := Tryd.underlying3
  a3 := Tryd.isAgg3
  z3 := Tryd.sizeOf3
  v3 := Tryd.zeroValue3
  t4 := Tryd.underlying4
  a4 := Tryd.isAgg4
  z4 := Tryd.sizeOf4
  v4 := Tryd.zeroValue4
  t5 := Tryd.underlying5
  a5 := Tryd.isAgg5
  z5 := Tryd.sizeOf5
  v5 := Tryd.zeroValue5
  t9 := Tryd.underlying9
  a9 := Tryd.isAgg9
  z9 := Tryd.sizeOf9
  v9 := Tryd.zeroValue9
  t20 := Tryd.underlying20
  a20 := Tryd.isAgg20
  z20 := Tryd.sizeOf20
  v20 := Tryd.zeroValue20
  t37 := Tryd.underlying26
  a37 := Tryd.isAgg26
  z37 := Tryd.sizeOf26
  v37 := Tryd.zeroValue26
  t46 := Tryd.underlying42
  a46 := Tryd.isAgg42
  z46 := Tryd.sizeOf42
  v46 := Tryd.zeroValue42
  t51 := Tryd.underlying121
  a51 := Tryd.isAgg121
  z51 := Tryd.sizeOf121
  v51 := Tryd.zeroValue121
  t53 := Tryd.underlying113
  a53 := Tryd.isAgg113
  z53 := Tryd.sizeOf113
  v53 := Tryd.zeroValue113
  t171 := Tryd.underlying112
  a171 := Tryd.isAgg112
  z171 := Tryd.sizeOf112
  v171 := Tryd.zeroValue112
  t173 := Tryd.underlying116
  a173 := Tryd.isAgg116
  z173 := Tryd.sizeOf116
  v173 := Tryd.zeroValue116
  t212 := Tryd.underlying120
  a212 := Tryd.isAgg120
  z212 := Tryd.sizeOf120
  v212 := Tryd.zeroValue120
  t213 := Tryd.underlying122
  a213 := Tryd.isAgg122
  z213 := Tryd.sizeOf122
  t232 := Tryd.underlying126
  a232 := Tryd.isAgg126
  z232 := Tryd.sizeOf126
  v232 := Tryd.zeroValue126
  t233 := Tryd.underlying127
  a233 := Tryd.isAgg127
  z233 := Tryd.sizeOf127
  v233 := Tryd.zeroValue127
  g17 := by kernel_rfl
  g18 := by kernel_rfl
  g19 := by kernel_rfl
  i0 := by kernel_rfl
  i2 := by kernel_rfl
  i3 := by kernel_rfl
  i4 := by kernel_rfl
  i5 := by kernel_rfl
  i9 := by kernel_rfl
  i20 := by kernel_rfl
  i37 := by kernel_rfl
  i46 := by kernel_rfl
  i51 := by kernel_rfl
  i53 := by kernel_rfl
  i171 := by kernel_rfl
  i173 := by kernel_rfl
  i212 := by kernel_rfl
  i232 := by kernel_rfl
  i233 := by kernel_rfl
  m17 := by kernel_rfl
  m18 := by kernel_rfl
  m19 := by kernel_rfl }
theorem Tryd.Builder_Extra_169 : Builder.Extra Tryd.prog Tryd.lays169_ren := {
  sizeBuilder := by kernel_rfl
  liesBuilder := by kernel_rfl
  t5 := Tryd.underlying5
  a5 := Tryd.isAgg5
  z5 := Tryd.sizeOf5
  v5 := Tryd.zeroValue5
  infoByte := by kernel_rfl
  cellsByte := by kernel_rfl
  sizeByte := by kernel_rfl
  neB5 := by decide }
def Tryd.lays166_ren : Go.Shelf.Ren := ⟨fun | 166 => 30 | 240 => 40 | 276 => 50 | n => n, fun | 0 => 0 | 3 => 3 | 4 => 4 | 9 => 9 | 20 => 20 | 37 => 26 | 70 => 51 | 72 => 53 | 75 => 76 | 164 => 107 | 80 => 55 | 5 => 5 | n => n, fun | n => n⟩
theorem Tryd.lays166 : Go.Proofs.Lays.n166 Tryd.prog Tryd.lays166_ren := {
  mixed := by kernel_rfl
  f166 := Tryd.func30.trans (congrArg some (by kernel_rfl))
  f240 := Tryd.func40.trans (congrArg some (by kernel_rfl))
  f276 := Tryd.func50.trans (congrArg some (by kernel_rfl))
  t0 := Tryd.underlying0
  a0 := Tryd.isAgg0
  z0 := Tryd.sizeOf0
  v0 := Tryd.zeroValue0
  t3 := Tryd.underlying3
  a3 := Tryd.isAgg3
  z3 := Tryd.sizeOf3
  v3 := Tryd.zeroValue3
  t4 := Tryd.underlying4
  a4 := Tryd.isAgg4
  z4 := Tryd.sizeOf4
  v4 := Tryd.zeroValue4
  t9 := Tryd.underlying9
  a9 := Tryd.isAgg9
  z9 := Tryd.sizeOf9
  v9 := Tryd.zeroValue9
  t20 := Tryd.underlying20
  a20 := Tryd.isAgg20
  z20 := Tryd.sizeOf20
  v20 := Tryd.zeroValue20
  t37 := Tryd.underlying26
  a37 := Tryd.isAgg26
  z37 := Tryd.sizeOf26
  v37 := Tryd.zeroValue26
  t70 := Tryd.underlying51
  a70 := Tryd.isAgg51
  z70 := Tryd.sizeOf51
  v70 := Tryd.zeroValue51
  t72 := Tryd.underlying53
  a72 := Tryd.isAgg53
  z72 := Tryd.sizeOf53
  v72 := Tryd.zeroValue53
  t75 := Tryd.underlying76
  a75 := Tryd.isAgg76
  z75 := Tryd.sizeOf76
  v75 := Tryd.zeroValue76
  t164 := Tryd.underlying107
  a164 := Tryd.isAgg107
  z164 := Tryd.sizeOf107
  v164 := Tryd.zeroValue107 }
theorem Tryd.Builder_Extra_166 : Builder.Extra Tryd.prog Tryd.lays166_ren := {
  sizeBuilder := by kernel_rfl
  liesBuilder := by kernel_rfl
  t5 := Tryd.underlying5
  a5 := Tryd.isAgg5
  z5 := Tryd.sizeOf5
  v5 := Tryd.zeroValue5
  infoByte := by kernel_rfl
  cellsByte := by kernel_rfl
  sizeByte := by kernel_rfl
  neB5 := by decide }
open Go.RowKit Go.Sort Go.Lib in
theorem Tryd.strconv_Itoa (n : Int) (h0 : -9223372036854775808 ≤ n) (h1 : n ≤ 9223372036854775807) (w : World) (htab : Lib.TabIs Tryd.prog w "internal/strconv.uint64pow10" .u64 Lib.pow10Tab) :
    Calls Tryd.prog 29 #[.int .i64 n] w fun e w' => e = .returned (.string ⟨(Lib.itoa n).toArray⟩) ∧ ∃ k os, w' = grow (w.drewN k) os := Any.strconv_Itoa Tryd.laysM171 n h0 h1 w htab
open Go.RowKit in
theorem Tryd.Builder_String_any_k (B b : Nat) (l : List UInt8) (w : World) (h : Lib.IsBuilderF 53 5 B b (Lib.byteCells l) w) (hBw : B ≤ w.heap.size) :
    Calls Tryd.prog 16 #[.pointer (some ⟨b, 0, none⟩)] w fun e w' => e = .returned (.string ⟨l.toArray⟩) ∧ (Lib.IsBuilderF 53 5 B b (Lib.byteCells l) w' ∧ Below B w w' ∧ Lib.OthersKept 5 (some b) w w') := Any.Builder_String_any_k Tryd.lays169 Tryd.Builder_Extra_169 B b l w h hBw
open Go.RowKit in
theorem Tryd.Builder_WriteString_k (B b : Nat) (bs : List Value) (s : ByteArray) (w : World) (h : Lib.IsBuilderF 53 5 B b bs w) (hlen : bs.length + s.size ≤ 140737488355328) (hBw : B ≤ w.heap.size) :
    Calls Tryd.prog 30 #[.pointer (some ⟨b, 0, none⟩), .string s] w fun e w' => e = .returned (.tuple #[.int .i64 s.size, .nilIface]) ∧ (Lib.BuilderAtF 53 5 B b (.pointer (some ⟨b, 0, none⟩)) (bs ++ Lib.strCells s) w' ∧ Below B w w' ∧ Lib.OthersKept 5 (some b) w w') := Any.Builder_WriteString_k Tryd.lays166 Tryd.Builder_Extra_166 B b bs s w h hlen hBw
end Go.Proofs
namespace Go.Proofs.YtbmgajddhfjchaaDoor.Obj
open Go.RowKit Go.Proofs.YtbmgajddhfjchaaDoorW.PrintWords Go.Proofs.YtbmgajddhfjchaaDoorW.PrintLast Go.Proofs.YtbmgajddhfjchaaDoorW.PrintMore

def Tabs (w : World) : Prop := Lib.TabIs Tryd.prog w "internal/strconv.uint64pow10" .u64 Lib.pow10Tab
theorem Tabs.below {w w' : World} (h : Tabs w) (hb : Below w.heap.size w w') : Tabs w' := by
  have hg : Tryd.prog.globalNamed "internal/strconv.uint64pow10" = some 0 := by kernel_rfl
  refine Go.var?_below hb hg ?_ h
  unfold Tabs Lib.TabIs World.var? at h
  rw [hg] at h
  simp only [Option.bind_some] at h
  cases hh : w.heap[0]? with
  | none => rw [hh] at h; simp at h
  | some o => exact blk_lt hh

theorem builder_below {T e : TypeId} {B b : Nat} {bs : List Value} {W W' : World} (h : Lib.IsBuilderF T e B b bs W) (hb : Below W.heap.size W W') : Lib.IsBuilderF T e B b bs W' := by
  rcases h with h | h
  all_goals
    have hlt := h.lt
    obtain ⟨hB, v, hv, hown, hne⟩ := h
    have hk : ∀ k, k < W.heap.size → W'.heap[k]? = W.heap[k]? := fun k hk => hb.block k hk
  · exact .inl ⟨hB, v, (hk b hlt).trans hv, hown.kept (row := none) ⟨hb.os, hb.tape, hb.output, hb.size, fun k h _ => hk k h⟩ (Classical.em _), hne⟩
  · exact .inr ⟨hB, v, (hk b hlt).trans hv, hown.kept (row := none) ⟨hb.os, hb.tape, hb.output, hb.size, fun k h _ => hk k h⟩ (Classical.em _), hne⟩

/-! ### what token.Join makes -/
def joinT (l : List ByteArray) : ByteArray := ⟨(rowText (l.map fun b : ByteArray => b.data.toList)).toArray⟩
def sumSize : List ByteArray → Nat
  | [] => 0
  | b :: r => b.size + 1 + sumSize r
theorem ba_ext {a b : ByteArray} (h : a.data.toList = b.data.toList) : a = b := by
  cases a; cases b; simpa using h
theorem join_loop (L : List ByteArray) (hL : L ≠ []) (hs : L.length ≤ 1048576) : ∀ (r pre : List ByteArray) (acc : ByteArray), L = pre ++ r → pre ≠ [] → acc.size + sumSize r + 1 ≤ 9223372036854775807 →
    token_Join.l0 (r.length + 1) L acc L (L.length : Int) (pre.length : Int) = some ⟨(acc.data.toList ++ (r.flatMap fun b : ByteArray => 32 :: b.data.toList) ++ [10]).toArray⟩
  | [], pre, acc, he, hp, hz => by
    have : L.length = pre.length := by rw [he]; simp
    have hL0 : (L.length : Int) > 0 := by cases L with | nil => exact absurd rfl hL | cons a b => simp
    unfold token_Join.l0
    rw [if_neg (by omega), if_pos hL0, if_pos (by simp only [sumSize] at hz; omega)]
    congr 1
    exact ba_ext (by simp)
  | b :: r, pre, acc, he, hp, hz => by
    have h1 : L.length = pre.length + r.length + 1 := by rw [he]; simp; omega
    have h2 : rdOf ByteArray.empty L (pre.length : Int) = b := by rw [he]; simp [rdOf]
    have h3 : 0 < pre.length := by cases pre with | nil => exact absurd rfl hp | cons a b => simp
    have h4 : wrap64 ((pre.length : Int) + 1) = ((pre ++ [b]).length : Int) := by simp; unfold wrap64; omega
    simp only [sumSize] at hz
    have h32 : (⟨#[32]⟩ : ByteArray).size = 1 := rfl
    rw [List.length_cons]
    unfold token_Join.l0
    rw [if_pos (by omega), if_pos (by omega), if_pos (by omega), if_pos (by omega), h2, h4, if_pos (by omega), if_pos (by simp; omega),
      join_loop L hL hs r (pre ++ [b]) _ (by rw [he]; simp) (by simp) (by simp; omega)]
    congr 1
    exact ba_ext (by simp)
theorem join_spec (L : List ByteArray) (hL : L ≠ []) (hs : L.length ≤ 1048576) (hz : sumSize L + 1 ≤ 9223372036854775807) : token_Join.f (L.length + 1) L = some (joinT L) := by
  cases L with
  | nil => exact absurd rfl hL
  | cons a r =>
    simp only [sumSize] at hz
    have h00 : (⟨#[]⟩ : ByteArray).size = 0 := rfl
    unfold token_Join.f
    rw [List.length_cons]
    unfold token_Join.l0
    have h2 : rdOf ByteArray.empty (a :: r) 0 = a := by simp [rdOf]
    simp only [List.length_cons] at hs
    have := join_loop (a :: r) (by simp) (by simpa using hs) r [a] ((⟨#[]⟩ : ByteArray) ++ a) (by simp) (by simp) (by simp; omega)
    rw [if_pos (by simp <;> omega), if_pos (by omega), if_pos (by simp <;> omega), if_neg (by omega), h2, if_pos (by omega)]
    have e : wrap64 ((0 : Int) + 1) = (([a] : List ByteArray).length : Int) := by simp [wrap64]
    rw [e]
    rw [List.length_cons] at this
    rw [this]
    congr 1
    exact ba_ext (by simp [joinT, rowText, List.flatMap_map])

theorem joinT_size (L : List ByteArray) : (joinT L).size ≤ sumSize L := by
  have h : ∀ r : List ByteArray, (List.flatMap (fun b : ByteArray => 32 :: b.data.toList) r).length = sumSize r := by
    intro r
    induction r with
    | nil => rfl
    | cons a r ih => simp only [List.flatMap_cons, List.length_append, ih, sumSize, List.length_cons, ByteArray.size, Array.length_toList]
  cases L with
  | nil => simp [joinT, rowText, ByteArray.size]
  | cons a r =>
    have := h r
    simp only [joinT, rowText, List.map_cons, sumSize, ByteArray.size, List.size_toArray, List.length_append, List.flatMap_map, Array.length_toList, List.length_cons, List.length_nil] at this ⊢
    omega
theorem below_le {B C : Nat} {w W : World} (h : Below C w W) (hB : B ≤ C) : Below B w W := ⟨h.os, h.tape, h.output, h.size, fun k hk => h.block k (Nat.lt_of_lt_of_le hk hB)⟩
theorem rdi_get (l : List Int) (k : Nat) (h : k < l.length) : rd l (k : Int) = l[k] := by simp [rd, h]
theorem infoStr : (Tryd.prog.info? 9).map (fun i => (i.zero, i.size, i.bytes)) = some (some (.string ⟨#[]⟩), 1, 16) := by kernel_rfl
def itoaB (n : Int) : ByteArray := ⟨(Lib.itoa n).toArray⟩
theorem itoa_calls (n : Int) (h0 : -9223372036854775808 ≤ n) (h1 : n ≤ 9223372036854775807) (W : World) (hT : Tabs W) :
    Calls Tryd.prog 29 #[.int .i64 n] W fun e w' => e = .returned (.string (itoaB n)) ∧ Below W.heap.size W w' := by
  refine (Tryd.strconv_Itoa n h0 h1 W hT).mono ?_
  rintro e w' ⟨rfl, k, os, rfl⟩
  exact ⟨rfl, Lib.below_grow _ _ (Nat.le_refl _) _ _⟩
theorem R_one (w : World) (word : ByteArray) : Kd.R Kd.string 9 (w.alloc (.cells #[.string word] 9)) w.heap.size (fun _ => True) (.slice (some ⟨w.heap.size, 0, none⟩) 1 1) [word] := by
  refine ⟨fun _ _ => trivial, [.string word], ?_, rfl, ?_⟩
  · have := World.ownsRow_lit (base := w.heap.size) (e := 9) (size := 1) w #[.string word] 1 (Nat.le_refl _) (by decide) rfl
    exact this
  · intro j p hj
    obtain ⟨hjl, hp⟩ := List.getElem?_eq_some_iff.1 hj
    have : j = 0 := by simpa using hjl
    subst this
    have hp' : word = p := by simpa using hp
    subst hp'
    rfl
structure RowRel (w wr : World) (word : ByteArray) (ns : List Int) (i : Nat) (v : Value) : Prop where
  own : Kd.R Kd.string 9 wr w.heap.size (fun _ => True) v (word :: (ns.take i).map itoaB)
  below : Below w.heap.size w wr

set_option maxHeartbeats 1000000 in
set_option maxRecDepth 100000 in
theorem row_calls {B b : Nat} {bs : List Value} (word : ByteArray) (ns : List Int) (A : Option Addr) (c : Nat) (w : World) (hn : Kd.C (Kd.int .i64) w A ns.length ns) (hl : ns.length ≤ 1000000) (hr : ∀ x ∈ ns, -9223372036854775808 ≤ x ∧ x ≤ 9223372036854775807) (hw : word.size ≤ 100) (hT : Tabs w) (hb : Lib.IsBuilderF 53 5 B b bs w) (hB : B ≤ w.heap.size) (hz : bs.length ≤ 70368744177664) :
    Calls Tryd.prog 15 #[.pointer (some ⟨b, 0, none⟩), .string word, .slice A ns.length c] w fun e w' => e = .returned (.tuple #[]) ∧ Lib.IsBuilderF 53 5 B b (bs ++ Lib.byteCells (rowText (word.data.toList :: ns.map Lib.itoa))) w' ∧ Below B w w' := by
  have HN := Lib.hid hn
  have HR := Lib.hid hr
  have HT := Lib.hid hT
  have HB := Lib.hid hb
  clear hn hr hT hb
  obtain ⟨wB, hwB⟩ : ∃ wB, w.alloc (.cells #[.string word] 9) = wB := ⟨_, rfl⟩
  have H0 : Hid (RowRel w wB word ns 0 (.slice (some ⟨w.heap.size, 0, none⟩) 1 1)) := Lib.hid (by subst hwB; exact ⟨by simpa using R_one w word, below_alloc (Below.refl _ _) _⟩)
  replace hwB := Lib.hid hwB
  go_enter Tryd.func15, Tryd.ntmps15
  go_wp2_with fail
  rw [hwB.out]
  clear hwB
  go_loopw [6, 13] (fun v6 v13 wr => ∃ (i : Nat) (vo : Value), vo = v6 ∧ v13 = .int .i64 (i : Int) ∧ i ≤ ns.length ∧ Hid (RowRel w wr word ns i vo))
    (fun _ v13 _ => (match v13 with | .int _ n => ns.length - n.toNat | _ => 0))
  case atStart => exact ⟨0, _, rfl, rfl, by omega, H0⟩
  case round =>
    clear H0
    obtain ⟨i, vo, rfl, rfl, hi, hrr⟩ := hrel
    by_cases hlt : i < ns.length
    · obtain ⟨ad, hA, hx⟩ := Kd.at_int (Kd.C_below HN.out hrr.out.below) (i : Int) (by omega) (by omega)
      subst hA
      rw [Int.toNat_natCast, rdi_get ns i hlt] at hx
      have hxr := HR.out ns[i] (List.getElem_mem _)
      have htk : Hid (ns.take (i + 1) = ns.take i ++ [ns[i]]) := Lib.hid (by rw [List.take_succ_eq_append_getElem hlt])
      obtain ⟨n, hn⟩ : ∃ n, ns[i] = n := ⟨_, rfl⟩
      rw [hn] at hx hxr htk
      clear hn
      have CI := Lib.hid (itoa_calls n hxr.1 hxr.2)
      clear hxr
      have hi0 : (0 : Int) ≤ (i : Int) := by omega
      have hi1 : (i : Int) < (ns.length : Int) := by omega
      have hw2 : wrap64 ((i : Int) + 1) = (i : Int) + 1 := by unfold wrap64; omega
      have HTw := Lib.hid (HT.out.below hrr.out.below)
      have hlp : ((ns.take i).map itoaB).length ≤ 1000000 := by simp; omega
      go_wp2_with (first
        | (go_at_call 29; refine (CI.out wr HTw.out).mono ?_; rintro e w3 ⟨rfl, hb3⟩; have HB3 := Lib.hid (below_step hrr.out.below hb3); have HO := Lib.hid (Kd.R_below hrr.out.own hb3); clear hb3)
        | ((with_reducible refine gate_builtin (b := .append) (xs := #[.tmp 17, .tmp 20]) rfl ?_); at_builtin; refine Kd.R_append Kd.string (w0 := w) w.heap.size rfl (.tmp 17) (.tmp 20) 43 9 (.string ⟨#[]⟩) 16 rfl Tryd.underlying43 infoStr rfl (by decide) (by omega) vo (word :: (ns.take i).map itoaB) (itoaB n) [.string (itoaB n)] (fun _ => True) (fun _ => False) rfl rfl rfl (fun _ hk => hk.elim) (fun _ _ => trivial) HO.out HB3.out HB3.out.size (by rw [List.length_cons]; omega) ?_; intro v1 w4 ho4 hb4 hg4 hat4))
      exact ⟨⟨i + 1, v1, rfl, by simp [hw2], by omega, Lib.hid ⟨by rw [htk.out, List.map_append, ← List.cons_append]; exact ho4, hb4⟩⟩, by simp; omega⟩
    · have hii : i = ns.length := by omega
      subst hii
      obtain ⟨As, cs, rfl, hcs, hCs⟩ := Kd.R_reads hrr.out.own
      rw [List.take_length] at hcs hCs hrr
      obtain ⟨L, hL⟩ : ∃ L, word :: ns.map itoaB = L := ⟨_, rfl⟩
      have hLl : L.length ≤ 1000001 := by subst hL; simp; omega
      have hsum : sumSize L ≤ 101 + 22 * ns.length := by
        subst hL
        have : ∀ l : List Int, (∀ x ∈ l, -9223372036854775808 ≤ x ∧ x ≤ 9223372036854775807) → sumSize (l.map itoaB) ≤ 22 * l.length := by
          intro l
          induction l with
          | nil => intro _; simp [sumSize]
          | cons a r ih =>
            intro hh
            have h1 := ih (fun x hx => hh x (by simp [hx]))
            have h2 := Lib.itoa_length_le a (hh a (by simp)).1 (hh a (by simp)).2
            have h3 : (itoaB a).size = (Lib.itoa a).length := by simp [itoaB, ByteArray.size]
            simp only [List.map_cons, sumSize, List.length_cons]
            omega
        have h1 := this ns HR.out
        simp only [sumSize]
        omega
      have hJ : (joinT L).data.toList = rowText (word.data.toList :: ns.map Lib.itoa) := by subst hL; simp [joinT, itoaB, Function.comp_def]
      have hJs : (joinT L).size ≤ 44000000 := by
        have h1 := joinT_size L
        omega
      rw [hL] at hcs hCs
      have CJ := Lib.hid (token_Join.calls (L.length + 1) As cs L (joinT L) wr hCs hcs (join_spec L (by subst hL; simp) (by omega) (by omega)))
      have HBB := Lib.hid (builder_below HB.out hrr.out.below)
      have HBw := Lib.hid hrr.out.below
      obtain ⟨J, hJJ⟩ : ∃ J, joinT L = J := ⟨_, rfl⟩
      rw [hJJ] at CJ hJ hJs
      have HJ := Lib.hid hJ
      have e : (word :: (ns.map itoaB)).length = L.length := by rw [hL]
      clear hJ hrr hCs hsum
      simp only [List.take_length, hL]
      go_wp2_with (first
        | (go_at_call 31; refine CJ.out.mono ?_; rintro e w3 ⟨rfl, hd3⟩; have HB3 := Lib.hid hd3.below; clear hd3)
        | (go_at_call 30; refine (Tryd.Builder_WriteString_k B b bs J w3 (builder_below HBB.out HB3.out) (by omega) (Nat.le_trans hB (below_step HBw.out HB3.out).size)).mono ?_; rintro e w4 ⟨rfl, hb4, hbb4, hk4⟩))
      first | go_end0 | ((try simp only [Exit.inBlock, Exit.then]); refine bodyPost_ret (results_none rfl _ _ _) rfl ?_) | go_outline
      have HB4 := below_step HBw.out HB3.out
      exact ⟨rfl, .inr (by rw [← HJ.out, ← Lib.strCells_eq]; exact hb4), (below_le HB4 hB).trans hbb4⟩
end Go.Proofs.YtbmgajddhfjchaaDoor.Obj
namespace Go.Proofs.YtbmgajddhfjchaaDoor.Obj
open Go.RowKit Go.Proofs.YtbmgajddhfjchaaDoorW.PrintWords Go.Proofs.YtbmgajddhfjchaaDoorW.PrintLast Go.Proofs.YtbmgajddhfjchaaDoorW.PrintMore

structure WRel (wA wr : World) (n : Nat) (t : List UInt8) : Prop where
  len : t.length ≤ 200 * n
  bld : Lib.IsBuilderF 53 5 wA.heap.size wA.heap.size (Lib.byteCells t) wr
  below : Below wA.heap.size wA wr
structure WCtx (P : List Pt) (W : Int) (F : List (List Int)) (A0 A2 : Option Addr) (c0 c2 g : Nat) (wA : World) : Prop where
  box : wA.heap[g]? = some (.cells #[.slice A0 P.length c0, .int .i64 W, .slice A2 F.length c2] 25 (0, 0))
  rp : Kd.C k47 wA A0 P.length P
  rf : Kd.C (Kd.slice 3 (Kd.int .i64)) wA A2 F.length F
  tabs : Tabs wA
theorem WCtx.to {P : List Pt} {W : Int} {F : List (List Int)} {A0 A2 : Option Addr} {c0 c2 g : Nat} {wA wr : World} (h : WCtx P W F A0 A2 c0 c2 g wA) (hb : Below wA.heap.size wA wr) : WCtx P W F A0 A2 c0 c2 g wr :=
  ⟨blk_below h.box hb, Kd.C_below h.rp hb, Kd.C_below h.rf hb, h.tabs.below hb⟩
def rowV (W : Int) (p : Pt) : List UInt8 := rowText [[118], Lib.itoa p.f0, Lib.itoa p.f1, Lib.itoa 0, Lib.itoa W]
def rowF (f : List Int) : List UInt8 := rowText ([102] :: f.map (fun i => Lib.itoa (i + 1)))

theorem rowT_len (w : List UInt8) (ns : List Int) (h : ∀ x ∈ ns, -9223372036854775808 ≤ x ∧ x ≤ 9223372036854775807) : (rowText (w :: ns.map Lib.itoa)).length ≤ w.length + 22 * ns.length + 1 := by
  have : ∀ l : List Int, (∀ x ∈ l, -9223372036854775808 ≤ x ∧ x ≤ 9223372036854775807) → ((l.map Lib.itoa).flatMap fun x => (32 : UInt8) :: x).length ≤ 22 * l.length := by
    intro l
    induction l with
    | nil => intro _; simp
    | cons a r ih =>
      intro hh
      have h1 := ih (fun x hx => hh x (by simp [hx]))
      have h2 := Lib.itoa_length_le a (hh a (by simp)).1 (hh a (by simp)).2
      simp only [List.map_cons, List.flatMap_cons, List.length_append, List.length_cons]
      omega
  have h1 := this ns h
  simp only [rowText, List.length_append, List.length_cons, List.length_nil]
  omega
theorem R_ints (w : World) (l : List Int) (hl : l.length ≤ 9223372036854775807) : Kd.R (Kd.int .i64) 3 (w.alloc (.cells (l.map (Value.int .i64)).toArray 3)) w.heap.size (fun _ => True) (.slice (some ⟨w.heap.size, 0, none⟩) l.length l.length) l := by
  refine ⟨fun _ _ => trivial, l.map (Value.int .i64), ?_, by rw [List.length_map]; exact (Nat.mul_one _).symm, ?_⟩
  · have := World.ownsRow_lit (base := w.heap.size) (e := 3) (size := 1) w (l.map (Value.int .i64)).toArray l.length (Nat.le_refl _) (by unfold maxLen; exact hl) (by rw [List.size_toArray, List.length_map, Nat.mul_one])
    rw [show (l.map (Value.int .i64)).toArray.toList = l.map (Value.int .i64) from rfl] at this
    exact this
  · intro j p hj
    obtain ⟨hjl, hp⟩ := List.getElem?_eq_some_iff.1 hj
    have e : (((l.map (Value.int .i64)).drop (j * 1)).take 1) = [.int .i64 p] := by
      rw [Nat.mul_one, List.drop_eq_getElem_cons (by simpa using hjl)]
      simp [hp]
    exact e
theorem fits_of {P : List Pt} {p : Pt} {i : Nat} (h : ∀ p ∈ P, fitsP p) (he : P.take (i + 1) = P.take i ++ [p]) : fitsP p := h p (List.mem_of_mem_take (i := i + 1) (by rw [he]; simp))
/-- object.row on a row laid just now. -/
theorem row_lit {wA wr : World} {n : Nat} {t : List UInt8} (hr : WRel wA wr n t) (hn : n ≤ 10000000) (hT : Tabs wr) (W : World) (hW : Below wr.heap.size wr W) (word : ByteArray) (hw : word.size ≤ 100) (ns : List Int) (A : Option Addr) (c : Nat) (hC : Kd.C (Kd.int .i64) W A ns.length ns) (hl : ns.length ≤ 4) (hb : ∀ x ∈ ns, -9223372036854775808 ≤ x ∧ x ≤ 9223372036854775807) :
    Calls Tryd.prog 15 #[.pointer (some ⟨wA.heap.size, 0, none⟩), .string word, .slice A ns.length c] W fun e w' => e = .returned (.tuple #[]) ∧ WRel wA w' (n + 1) (t ++ rowText (word.data.toList :: ns.map Lib.itoa)) := by
  have hbl := hr.len
  refine (row_calls word ns A c W hC (by omega) hb hw (hT.below hW) (builder_below hr.bld hW) (Nat.le_trans hr.below.size hW.size) (by rw [Lib.byteCells_length]; omega)).mono ?_
  rintro e w' ⟨rfl, hbd, hbl'⟩
  have h1 := rowT_len word.data.toList ns hb
  have h2 : word.data.toList.length = word.size := Array.length_toList
  exact ⟨rfl, by rw [List.length_append]; omega, by rw [Lib.byteCells_append]; exact hbd, (hr.below.trans (below_le hW hr.below.size)).trans hbl'⟩

set_option maxHeartbeats 8000000 in
set_option maxRecDepth 100000 in
theorem object_Write.calls (A0_0 : Option Addr) (c0_0 : Nat) (l0_0 : List Pt) (a0_1 : Int) (A0_2 : Option Addr) (c0_2 : Nat) (l0_2 : List (List Int)) (r1 : ByteArray) (r2 : Int) (w : World) (hr0_0 : Kd.C k47 w A0_0 l0_0.length l0_0) (hc0_0 : l0_0.length ≤ c0_0) (hr0_2 : Kd.C (Kd.slice 3 (Kd.int .i64)) w A0_2 l0_2.length l0_2) (hc0_2 : l0_2.length ≤ c0_2) (hT : Tabs w) (h : object_Write.f l0_0 a0_1 l0_2 = some (r1, r2)) :
    Calls Tryd.prog 9 #[.agg #[.slice A0_0 l0_0.length c0_0, .int .i64 a0_1, .slice A0_2 l0_2.length c0_2]] w fun e w' => e = .returned (.tuple #[.string r1, .int .i64 r2]) ∧ Below w.heap.size w w' := by
  unfold object_Write.f at h
  split at h
  case isFalse => cases h
  rename_i hsm
  obtain ⟨k, hck⟩ := check_spec l0_0 a0_1 l0_2 hsm
  obtain ⟨wB, hwB⟩ : ∃ wB, w.alloc (.cells #[.slice A0_0 l0_0.length c0_0, .int .i64 a0_1, .slice A0_2 l0_2.length c0_2] 25) = wB := ⟨_, rfl⟩
  have hBB : Below w.heap.size w wB := by subst hwB; exact below_alloc (Below.refl _ _) _
  have hX : WCtx l0_0 a0_1 l0_2 A0_0 A0_2 c0_0 c0_2 w.heap.size wB := ⟨by subst hwB; exact Go.Deep.blk_alloc_new _ _, Kd.C_below hr0_0 hBB, Kd.C_below hr0_2 hBB, hT.below hBB⟩
  have CK := Lib.hid (object_Check.calls k A0_0 c0_0 l0_0 a0_1 A0_2 c0_2 l0_2 _ wB hX.rp hc0_0 hX.rf hc0_2 hck)
  have e0 : ∀ r : Int, Calls Tryd.prog 13 #[.agg #[.slice A0_0 l0_0.length c0_0, .int .i64 a0_1, .slice A0_2 l0_2.length c0_2]] wB (fun e w' => e = .returned (.int .i64 r) ∧ Below wB.heap.size wB w') → Calls Tryd.prog 13 #[.agg #[.slice A0_0 l0_0.length c0_0, .int .i64 a0_1, .slice A0_2 l0_2.length c0_2]] (w.alloc (.cells #[.slice A0_0 l0_0.length c0_0, .int .i64 a0_1, .slice A0_2 l0_2.length c0_2] 25)) (fun e w' => e = .returned (.int .i64 r) ∧ WCtx l0_0 a0_1 l0_2 A0_0 A0_2 c0_0 c0_2 w.heap.size w' ∧ Below w.heap.size w w') := by
    intro r hr
    rw [hwB]
    refine hr.mono ?_
    rintro e w' ⟨rfl, hb⟩
    exact ⟨rfl, hX.to hb, below_step hBB hb⟩
  replace CK := Lib.hid (e0 _ CK.out)
  clear e0 hX hBB
  clear hr0_0 hr0_2 hT hck hwB
  by_cases ho : objOk l0_0 a0_1 l0_2
  · rw [if_pos ho] at h CK
    replace ho := Lib.hid ho
    injection h with h
    injection h with h1 h2
    subst h1 h2
    go_enter Tryd.func9, Tryd.ntmps9
    go_wp2_with (first | (go_at_call 13; refine CK.out.mono ?_; rintro e wA ⟨rfl, hX, hb⟩; replace hX := Lib.hid hX; replace hb := Lib.hid hb; have hbox : wA.cell? ⟨w.heap.size, 0, none⟩ = some (.slice A0_0 l0_0.length c0_0) := (blk_cell hX.out.box 0).trans rfl; obtain ⟨wC, hwC⟩ : ∃ wC, wA.alloc (.cells #[.pointer none, .slice none 0 0] 53) = wC := ⟨_, rfl⟩; have hbx : wC.cell? ⟨w.heap.size, 0, none⟩ = some (.slice A0_0 l0_0.length c0_0) := by (subst hwC; exact pw_cell_below (below_alloc (Below.refl _ _) _) hbox)))
    have H0 : Hid (WRel wA wC 0 []) := Lib.hid (by subst hwC; exact ⟨by simp, .inl ⟨Nat.le_refl _, .slice none 0 0, Go.Deep.blk_alloc_new _ _, World.ownsRowF_of ⟨rfl, .inl ⟨rfl, rfl⟩⟩, by simp [Value.ownBlock]⟩, below_alloc (Below.refl _ _) _⟩)
    clear hwC hbx hbox CK
    go_loopw [21] (fun v21 wr => ∃ i : Nat, v21 = .int .i64 (i : Int) ∧ i ≤ l0_0.length ∧ Hid (WRel wA wr i ((l0_0.take i).flatMap (rowV a0_1))))
      (fun v21 _ => (match v21 with | .int _ n => l0_0.length - n.toNat | _ => 0))
    case atStart => exact ⟨0, rfl, by omega, by simpa using H0⟩
    case round =>
      clear H0
      obtain ⟨i, rfl, hi, hrr⟩ := hrel
      have hXr := Lib.hid (hX.out.to hrr.out.below)
      by_cases hlt : i < l0_0.length
      · obtain ⟨ap, hA, hy0, hy1⟩ := at_T47 hXr.out.rp (i : Int) (by omega) (by omega)
        subst hA
        have e1 : rd_T47 l0_0 (i : Int) = l0_0[i] := by simp [rd_T47, hlt]
        rw [e1, Int.toNat_natCast] at hy0 hy1
        have htk : Hid (l0_0.take (i + 1) = l0_0.take i ++ [l0_0[i]]) := Lib.hid (by rw [List.take_succ_eq_append_getElem hlt])
        clear e1
        obtain ⟨p, hp⟩ : ∃ p, l0_0[i] = p := ⟨_, rfl⟩
        rw [hp] at hy0 hy1 htk
        clear hp
        have hi0 : (0 : Int) ≤ (i : Int) := by omega
        have hi1 : (i : Int) < (l0_0.length : Int) := by omega
        have hw2 : wrap64 ((i : Int) + 1) = (i : Int) + 1 := by have := hsm.1; unfold wrap64; omega
        have hbw : wr.cell? ⟨w.heap.size, 1, none⟩ = some (.int .i64 a0_1) := (blk_cell hXr.out.box 1).trans rfl
        have hne := World.new_ne wr _ hbw
        have hlt2 : w.heap.size < wr.heap.size := blk_lt hXr.out.box
        have hu := Tryd.underlying47
        have hfit := fits_of ho.out.2.2.2.1 htk.out
        have hCR := Lib.hid (row_lit hrr.out (by have := hsm.1; omega) hXr.out.tabs _ (below_alloc (below_alloc (Below.refl _ _) (.cells #[.int .i64 p.f0, .int .i64 p.f1] 47)) (.cells #[.int .i64 p.f0, .int .i64 p.f1, .int .i64 0, .int .i64 a0_1] 3)) ⟨#[118]⟩ (by decide) [p.f0, p.f1, 0, a0_1] (some ⟨wr.heap.size + 1, 0, none⟩) 4
          (by
            have := (Kd.R_reads' (R_ints (wr.alloc (.cells #[.int .i64 p.f0, .int .i64 p.f1] 47)) [p.f0, p.f1, 0, a0_1] (by simp))).2.2
            rw [Go.Deep.nblk_alloc] at this
            exact this)
          (by simp) (by have h1 := ho.out.2.1; have h2 := ho.out.2.2.1; unfold fitsP at hfit; intro x hx; simp at hx; rcases hx with rfl | rfl | rfl | rfl <;> omega))
        clear hfit
        go_wp2_with (first | (go_at_call 15; refine hCR.out.mono ?_; rintro e w3 ⟨rfl, hr3⟩))
        exact ⟨⟨i + 1, by simp [hw2], by omega, Lib.hid (by rw [htk.out, List.flatMap_append]; simpa [rowV] using hr3)⟩, by simp [hw2]; omega⟩
      · have hii : i = l0_0.length := by omega
        subst hii
        rw [List.take_length] at hrr
        have hbw : wr.cell? ⟨w.heap.size, 2, none⟩ = some (.slice A0_2 l0_2.length c0_2) := (blk_cell hXr.out.box 2).trans rfl
        have HT1 := Lib.hid hrr.out
        clear hrr hi hlt
        obtain ⟨T1, hT1⟩ : ∃ T1, l0_0.flatMap (rowV a0_1) = T1 := ⟨_, rfl⟩
        rw [hT1] at HT1
        have hT1' : Hid (textOf l0_0 a0_1 l0_2 = T1 ++ l0_2.flatMap rowF) := Lib.hid (by rw [← hT1]; simp [textOf, rowsOf, rowV, rowF, List.flatMap_append, List.flatMap_map]; rfl)
        clear hT1
        have hFF : Hid (∀ f ∈ l0_2, f.length ≤ 4 ∧ ∀ x ∈ f, 0 ≤ x ∧ x < 1048577) := Lib.hid (by
          have h5 := kind_in ho.out.2.2.2.2.1
          have h7 := ho.out.2.2.2.2.2.2.1
          intro f hf
          exact ⟨h7 f hf, fun x hx => by have := h5.2.2 f hf x hx; omega⟩)
        go_wp2_with fail
        clear hXr hbw
        go_loopw [37] (fun v37 wr => ∃ i : Nat, v37 = .int .i64 (i : Int) ∧ i ≤ l0_2.length ∧ Hid (WRel wA wr (l0_0.length + i) (T1 ++ (l0_2.take i).flatMap rowF)))
          (fun v37 _ => (match v37 with | .int _ n => l0_2.length - n.toNat | _ => 0))
        case atStart => exact ⟨0, rfl, by omega, by simpa using HT1⟩
        case round =>
          clear HT1
          obtain ⟨i, rfl, hi, hrr⟩ := hrel
          have hXr := Lib.hid (hX.out.to hrr.out.below)
          by_cases hlt : i < l0_2.length
          · obtain ⟨ad, Af, cf, hA, hxf, hcf, hCf⟩ := at_L13 hXr.out.rf (i : Int) (by omega) (by omega)
            subst hA
            have e1 : rd_L13 l0_2 (i : Int) = l0_2[i] := by simp [rd_L13, hlt]
            rw [e1, Int.toNat_natCast] at hxf
            rw [e1] at hcf hCf
            have hmem : l0_2[i] ∈ l0_2 := List.getElem_mem _
            have hf4 := hFF.out _ hmem
            have htk : Hid (l0_2.take (i + 1) = l0_2.take i ++ [l0_2[i]]) := Lib.hid (by rw [List.take_succ_eq_append_getElem hlt])
            obtain ⟨f, hf⟩ : ∃ f, l0_2[i] = f := ⟨_, rfl⟩
            rw [hf] at hxf hcf hCf hf4 htk
            clear hf hmem e1
            have hf5 := hf4.1
            replace hf4 := Lib.hid hf4.2
            replace hCf := Lib.hid hCf
            have hi0 : (0 : Int) ≤ (i : Int) := by omega
            have hi1 : (i : Int) < (l0_2.length : Int) := by omega
            have hsm2 := hsm.2.1
            have hw2 : Hid (wrap64 ((i : Int) + 1) = (i : Int) + 1) := Lib.hid (by unfold wrap64; omega)
            go_wp2_with fail
            rename World => wo
            go_loopw [10, 43] (fun v10 v43 w2 => ∃ (j : Nat) (vo : Value), vo = v10 ∧ v43 = .int .i64 (j : Int) ∧ j ≤ f.length ∧ Hid (Kd.R (Kd.int .i64) 3 w2 wo.heap.size (fun _ => True) vo ((f.take j).map (· + 1))) ∧ Hid (Below wo.heap.size wo w2))
              (fun _ v43 _ => (match v43 with | .int _ n => f.length - n.toNat | _ => 0))
            case atStart => exact ⟨0, _, rfl, rfl, by omega, Lib.hid (Kd.R_nil _ _ _ _ _), Lib.hid (Below.refl _ _)⟩
            case round =>
              obtain ⟨j, vo, rfl, rfl, hj, hR, hBw⟩ := hrel
              by_cases hjl : j < f.length
              · obtain ⟨af, hA, hx⟩ := Kd.at_int (Kd.C_below hCf.out hBw.out) (j : Int) (by omega) (by omega)
                subst hA
                rw [Int.toNat_natCast, rdi_get f j hjl] at hx
                have hxr := hf4.out f[j] (List.getElem_mem _)
                have htj : Hid (f.take (j + 1) = f.take j ++ [f[j]]) := Lib.hid (by rw [List.take_succ_eq_append_getElem hjl])
                obtain ⟨x, hx1⟩ : ∃ x, f[j] = x := ⟨_, rfl⟩
                rw [hx1] at hx hxr htj
                clear hx1
                have hj0 : (0 : Int) ≤ (j : Int) := by omega
                have hj1 : (j : Int) < (f.length : Int) := by omega
                have hlj : (((f.take j).map (· + 1)).length + 1) * 8 ≤ 140737488355328 := by rw [List.length_map, List.length_take]; omega
                have hw3 : wrap64 ((j : Int) + 1) = (j : Int) + 1 := by unfold wrap64; omega
                have hw4 : wrap64 (x + 1) = x + 1 := by unfold wrap64; omega
                clear hxr
                go_wp2_with (first | ((with_reducible refine gate_builtin (b := .append) (xs := #[.tmp 47, .tmp 50]) rfl ?_); at_builtin; refine Kd.R_append (Kd.int .i64) (w0 := wo) wo.heap.size rfl (.tmp 47) (.tmp 50) 48 3 (.int .i64 0) 8 rfl Tryd.underlying48 infoInt rfl (by decide) (by decide) vo ((f.take j).map (· + 1)) (x + 1) [.int .i64 (x + 1)] (fun _ => True) (fun _ => False) rfl rfl rfl (fun _ hk => hk.elim) (fun _ _ => trivial) hR.out hBw.out hBw.out.size hlj ?_; intro v1 w4 ho4 hb4 hg4 hat4))
                exact ⟨⟨j + 1, v1, rfl, by simp [hw3], by omega, Lib.hid (by rw [htj.out, List.map_append]; exact ho4), Lib.hid hb4⟩, by simp [hw3]; omega⟩
              · have hjj : j = f.length := by omega
                subst hjj
                obtain ⟨Al, cl, rfl, hcl, hCl⟩ := Kd.R_reads hR.out
                rw [List.take_length] at hcl hCl
                have hlm : ((f.map (· + 1)).length) = f.length := List.length_map ..
                have hCR := (row_lit hrr.out (by have := hsm.1; omega) hXr.out.tabs wr hBw.out ⟨#[102]⟩ (by decide) (f.map (· + 1)) Al cl hCl (by omega) (by intro x hx; simp at hx; obtain ⟨y, hy, rfl⟩ := hx; have := hf4.out y hy; omega))
                rw [List.length_map] at hCR
                replace hCR := Lib.hid hCR
                simp only [List.take_length, List.length_map]
                clear hCl hlm
                have hw2' := hw2.out
                go_wp2_with (first | (go_at_call 15; refine hCR.out.mono ?_; rintro e w3 ⟨rfl, hr3⟩))
                exact ⟨⟨i + 1, by simp [hw2'], by omega, Lib.hid (by rw [htk.out, List.flatMap_append, ← List.append_assoc, ← Nat.add_assoc]; simpa [rowF, Function.comp_def] using hr3)⟩, by simp [hw2']; omega⟩
          · have hii : i = l0_2.length := by omega
            subst hii
            rw [List.take_length, ← hT1'.out] at hrr
            have CS := Lib.hid (Tryd.Builder_String_any_k wA.heap.size wA.heap.size _ wr hrr.out.bld hrr.out.below.size)
            have hbe := Lib.hid (below_step hb.out hrr.out.below)
            go_wp2_with (first | (go_at_call 16; refine CS.out.mono ?_; rintro e w5 ⟨rfl, hb5, hbb5, hk5⟩))
            go_ret2
            exact ⟨rfl, hbe.out.trans (below_le hbb5 hb.out.size)⟩
  · rw [if_neg ho] at h CK
    injection h with h
    injection h with h1 h2
    subst h1 h2
    clear ho
    go_enter Tryd.func9, Tryd.ntmps9
    go_wp2_with (first | (go_at_call 13; refine CK.out.mono ?_; rintro e wA ⟨rfl, hX, hb⟩; replace hX := Lib.hid hX; replace hb := Lib.hid hb))
    go_ret2
    exact ⟨rfl, hb.out⟩
end Go.Proofs.YtbmgajddhfjchaaDoor.Obj
