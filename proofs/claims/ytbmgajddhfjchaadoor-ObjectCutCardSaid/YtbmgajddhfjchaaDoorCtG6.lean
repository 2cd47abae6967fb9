/- Plain: a number's word, and what tokNum makes of it. No program in sight. Plain: a text of words and gaps, and its tokens. Plain: the reader on the words of rows that were written; and where a word is wrong, or missing. Plain: what is read without a fault is the words of rows. Plain: what the printed helpers of the laws come to. Plain: a mesh that may be, its text, and what is read of it; the chapter's example. An argument that can be read as data, opened to the lists that the walks speak of: structs, slices of structs, slices of slices. -/
import Derived.Test.YtbmgajddhfjchaaDoorCtG1
import Derived.Test.YtbmgajddhfjchaaDoorCtG4
import Derived.Test.YtbmgajddhfjchaaDoorCtObjx2
import Derived.Test.YtbmgajddhfjchaaDoorCtObjBx0
import Derived.Deep.Slices
import Derived.Deep.Fields
import Derived.WideShapes
import Derived.ChangeSame
import Derived.Test.YtbmgajddhfjchaaDoorCtObjBx3
import Derived.Test.YtbmgajddhfjchaaDoorCtObjBx5
import Derived.Test.YtbmgajddhfjchaaDoorCtObjBx9
set_option linter.unusedVariables false
set_option linter.unusedSimpArgs false
namespace Go.Proofs.YtbmgajddhfjchaaDoor.Obj
open Go.RowKit Go.Proofs.YtbmgajddhfjchaaDoorW.PrintWords Go.Proofs.YtbmgajddhfjchaaDoorW.PrintLast Go.Proofs.YtbmgajddhfjchaaDoorW.PrintMore

def bI (l : List UInt8) : List Int := l.map fun c => (c.toNat : Int)
def decI (u : Nat) : List Int := bI (Lib.decDigits u)
def itI (n : Int) : List Int := bI (Lib.itoa n)
theorem decI_small {u : Nat} (h : u < 10) : decI u = [48 + (u : Int)] := by
  unfold decI bI; rw [Lib.decDigits, dif_pos h]; simp; omega
theorem decI_big {u : Nat} (h : ¬ u < 10) : decI u = decI (u / 10) ++ [48 + ((u % 10 : Nat) : Int)] := by
  unfold decI bI; rw [Lib.decDigits, dif_neg h, List.map_append]; simp; omega
theorem itI_nonneg (u : Nat) : itI (u : Int) = decI u := by
  unfold itI decI Lib.itoa; rw [if_neg (by omega)]; simp
theorem itI_neg (u : Nat) (h : 1 ≤ u) : itI (-(u : Int)) = 45 :: decI u := by
  unfold itI decI Lib.itoa bI; rw [if_pos (by omega)]; simp
def isDig (c : Int) : Prop := 48 ≤ c ∧ c ≤ 57
def dval : List Int → Nat → Nat
  | [], n => n
  | c :: r, n => dval r (10 * n + (c - 48).toNat)
theorem dval_ge (l : List Int) : ∀ n, n ≤ dval l n := by
  induction l with
  | nil => intro n; exact Nat.le_refl _
  | cons c r ih => intro n; exact Nat.le_trans (by omega) (ih _)
theorem dval_snoc (l : List Int) (c : Int) : ∀ n, dval (l ++ [c]) n = 10 * dval l n + (c - 48).toNat := by
  induction l with
  | nil => intro n; rfl
  | cons d r ih => intro n; exact ih _
theorem decI_dig (u : Nat) : ∀ c ∈ decI u, isDig c := by
  induction u using Nat.strongRecOn with
  | _ u ih =>
    by_cases h : u < 10
    · rw [decI_small h]; intro c hc; rw [List.mem_singleton.1 hc]; unfold isDig; omega
    · rw [decI_big h]; intro c hc
      rcases List.mem_append.1 hc with hc | hc
      · exact ih (u / 10) (by omega) c hc
      · rw [List.mem_singleton.1 hc]; unfold isDig; omega
theorem decI_val (u : Nat) : dval (decI u) 0 = u := by
  induction u using Nat.strongRecOn with
  | _ u ih =>
    by_cases h : u < 10
    · rw [decI_small h]; simp [dval]; omega
    · rw [decI_big h, dval_snoc, ih (u / 10) (by omega)]; omega
theorem decI_ne (u : Nat) : decI u ≠ [] := by
  by_cases h : u < 10
  · rw [decI_small h]; simp
  · rw [decI_big h]; simp
theorem decI_head {u : Nat} (h : 1 ≤ u) : (decI u).head? ≠ some 48 := by
  induction u using Nat.strongRecOn with
  | _ u ih =>
    by_cases h10 : u < 10
    · rw [decI_small h10]; simp; omega
    · rw [decI_big h10, List.head?_append]
      have := ih (u / 10) (by omega) (by omega)
      cases hd : decI (u / 10) with
      | nil => exact absurd hd (decI_ne _)
      | cons a b => rw [hd] at this; simpa using this
theorem numLoop_dig (most : Int) (h0 : 0 ≤ most) : ∀ (l : List Int) (n : Nat), (∀ c ∈ l, isDig c) → (n : Int) ≤ most → (((dval l n : Nat) : Int) ≤ most → numLoop most l n false = some (((dval l n : Nat) : Int), false)) ∧ (most < ((dval l n : Nat) : Int) → ∃ m, numLoop most l n false = some (m, true)) := by
  have far : ∀ (l : List Int) (m : Int), (∀ c ∈ l, isDig c) → ∃ m', numLoop most l m true = some (m', true) := by
    intro l
    induction l with
    | nil => intro m _; exact ⟨m, rfl⟩
    | cons c r ih =>
      intro m hd
      have hc := hd c (by simp); unfold isDig at hc
      simp only [numLoop]
      rw [if_neg (by omega)]
      simp only [Bool.true_or, if_true]
      exact ih m (fun x hx => hd x (by simp [hx]))
  intro l
  induction l with
  | nil => intro n _ hn; exact ⟨fun _ => rfl, fun h => by simp only [dval] at h; omega⟩
  | cons c r ih =>
    intro n hd hn
    have hc := hd c (by simp); unfold isDig at hc
    have hdr : ∀ x ∈ r, isDig x := fun x hx => hd x (by simp [hx])
    simp only [numLoop, dval]
    rw [if_neg (by omega)]
    have hge := dval_ge r (10 * n + (c - 48).toNat)
    by_cases hbig : most < 10 * (n : Int) + (c - 48)
    · have hf : (decide ((n : Int) > Int.tdiv (most - (c - 48)) 10) || decide (c - 48 > most)) = true := by
        rw [Bool.or_eq_true, decide_eq_true_eq, decide_eq_true_eq]
        by_cases hm : c - 48 > most
        · exact .inr hm
        · left
          rw [Int.tdiv_eq_ediv_of_nonneg (by omega)]
          omega
      simp only [Bool.false_or, hf, if_true]
      exact ⟨fun h => by omega, fun _ => far r _ hdr⟩
    · have hf : (decide ((n : Int) > Int.tdiv (most - (c - 48)) 10) || decide (c - 48 > most)) = false := by
        rw [Bool.or_eq_false_iff, decide_eq_false_iff_not, decide_eq_false_iff_not]
        refine ⟨?_, by omega⟩
        rw [Int.tdiv_eq_ediv_of_nonneg (by omega)]
        omega
      simp only [Bool.false_or, hf, Bool.false_eq_true, if_false]
      have e : (10 * (n : Int) + (c - 48)) = ((10 * n + (c - 48).toNat : Nat) : Int) := by omega
      rw [e]
      exact ih (10 * n + (c - 48).toNat) hdr (by omega)
/-- A number's own word is that number, if it is not too great; else it is too great. -/
theorem tokNum_it (n most : Int) (h0 : 0 ≤ most) : tokNum (itI n) most = if -most ≤ n ∧ n ≤ most then (n, 0) else (0, 10) := by
  by_cases hn : 0 ≤ n
  · obtain ⟨u, rfl⟩ := Int.eq_ofNat_of_zero_le hn
    rw [itI_nonneg]
    have hd : ∀ c ∈ decI u, isDig c := decI_dig u
    have h45 : (decI u).head? ≠ some 45 := by
      cases hq : decI u with
      | nil => simp
      | cons a b => have := hd a (by rw [hq]; simp); unfold isDig at this; simp; omega
    have hz : ¬ (decI u = [] ∨ ((decI u).head? = some 48 ∧ decI u ≠ [48])) := by
      rintro (h | ⟨h, h2⟩)
      · exact decI_ne u h
      · rcases Nat.eq_zero_or_pos u with rfl | hu
        · exact h2 (by rw [decI_small (by omega)]; rfl)
        · exact decI_head hu h
    have hloop := numLoop_dig most h0 (decI u) 0 hd (by omega)
    rw [decI_val] at hloop
    have e1 : decide ((decI u).head? = some 45) = false := decide_eq_false h45
    have e2 : decide (most < 0) = false := decide_eq_false (by omega)
    unfold tokNum
    simp only [e1, e2, Bool.false_eq_true, if_false]
    rw [if_neg hz]
    by_cases hm : (u : Int) ≤ most
    · rw [if_pos ⟨by omega, hm⟩]
      have := hloop.1 hm
      simp only [Int.natCast_zero] at this
      rw [this]
      simp
    · rw [if_neg (fun h => hm h.2)]
      obtain ⟨m, hm'⟩ := hloop.2 (by omega)
      simp only [Int.natCast_zero] at hm'
      rw [hm']
      simp
  · obtain ⟨u, rfl⟩ : ∃ u : Nat, n = -(u : Int) := ⟨n.natAbs, by omega⟩
    have hu : 1 ≤ u := by omega
    rw [itI_neg u hu]
    have hd : ∀ c ∈ decI u, isDig c := decI_dig u
    have hz : ¬ (decI u = [] ∨ ((decI u).head? = some 48 ∧ (45 : Int) :: decI u ≠ [48])) := by
      rintro (h | ⟨h, _⟩)
      · exact decI_ne u h
      · exact decI_head hu h
    have hloop := numLoop_dig most h0 (decI u) 0 hd (by omega)
    rw [decI_val] at hloop
    have e2 : decide (most < 0) = false := decide_eq_false (by omega)
    unfold tokNum
    simp only [List.head?_cons, decide_true, if_true, List.tail_cons, e2]
    rw [if_neg hz]
    by_cases hm : (u : Int) ≤ most
    · rw [if_pos ⟨by omega, by omega⟩]
      have := hloop.1 hm
      simp only [Int.natCast_zero] at this
      rw [this]
      simp
    · rw [if_neg (fun h => hm (by omega))]
      obtain ⟨m, hm'⟩ := hloop.2 (by omega)
      simp only [Int.natCast_zero] at hm'
      rw [hm']
      simp
theorem itI_chars (n : Int) : itI n ≠ [] ∧ ∀ c ∈ itI n, c = 45 ∨ isDig c := by
  by_cases hn : 0 ≤ n
  · obtain ⟨u, rfl⟩ := Int.eq_ofNat_of_zero_le hn
    rw [itI_nonneg]
    exact ⟨decI_ne u, fun c hc => .inr (decI_dig u c hc)⟩
  · obtain ⟨u, rfl⟩ : ∃ u : Nat, n = -(u : Int) := ⟨n.natAbs, by omega⟩
    rw [itI_neg u (by omega)]
    refine ⟨by simp, fun c hc => ?_⟩
    rcases List.mem_cons.1 hc with rfl | hc
    · exact .inl rfl
    · exact .inr (decI_dig u c hc)
end Go.Proofs.YtbmgajddhfjchaaDoor.Obj
namespace Go.Proofs.YtbmgajddhfjchaaDoor.Obj
open Go.RowKit Go.Proofs.YtbmgajddhfjchaaDoorW.PrintWords Go.Proofs.YtbmgajddhfjchaaDoorW.PrintLast Go.Proofs.YtbmgajddhfjchaaDoorW.PrintMore

def Clean (w : List Int) : Prop := w ≠ [] ∧ (∀ c ∈ w, isBlank c = false) ∧ w.head? ≠ some 35
def Gap (g : List Int) : Prop := (∃ c r, g = c :: r ∧ isBlank c = true) ∧ ∀ r p, tok (g ++ r) p .out = tok r (p + (g.length : Int)) .out
theorem tok_in (w : List Int) (hw : ∀ c ∈ w, isBlank c = false) : ∀ (p f : Int) (a r : List Int), tok (w ++ r) p (.word f a) = tok r (p + (w.length : Int)) (.word f (a ++ w)) := by
  induction w with
  | nil => intro p f a r; simp
  | cons c w ih =>
    intro p f a r
    rw [List.cons_append, tok, if_neg (by rw [hw c (by simp)]; decide), ih (fun x hx => hw x (by simp [hx]))]
    rw [List.append_assoc, List.length_cons]
    congr 1
    omega
theorem tok_word {w : List Int} (hw : Clean w) (p c : Int) (r : List Int) (hc : isBlank c = true) : tok (w ++ c :: r) p .out = (p, w) :: tok (c :: r) (p + (w.length : Int)) .out := by
  obtain ⟨hne, hb, h35⟩ := hw
  cases w with
  | nil => exact absurd rfl hne
  | cons d w =>
    rw [List.cons_append, tok, if_neg (by rw [hb d (by simp)]; decide), if_neg (by intro e; exact h35 (by rw [e]; rfl)), tok_in w (fun x hx => hb x (by simp [hx])), tok, if_pos hc, tok, if_pos hc]
    simp only [List.singleton_append, List.length_cons]
    congr 2
    omega
def catW (l : List (List Int × List Int)) : List Int := l.flatMap fun x => x.1 ++ x.2
def tokW : Int → List (List Int × List Int) → List (Int × List Int)
  | _, [] => []
  | p, x :: r => (p, x.1) :: tokW (p + ((x.1 ++ x.2).length : Int)) r
def Good (l : List (List Int × List Int)) : Prop := ∀ x ∈ l, Clean x.1 ∧ Gap x.2
theorem tok_cat (l : List (List Int × List Int)) (hl : Good l) : ∀ (p : Int) (r : List Int), tok (catW l ++ r) p .out = tokW p l ++ tok r (p + ((catW l).length : Int)) .out := by
  induction l with
  | nil => intro p r; simp [catW, tokW]
  | cons x l ih =>
    intro p r
    obtain ⟨hw, ⟨c, g, hg, hc⟩, hgap⟩ := hl x (by simp)
    have e : catW (x :: l) ++ r = x.1 ++ c :: (g ++ (catW l ++ r)) := by simp [catW, hg]
    rw [e, tok_word hw p c _ hc, tokW, List.cons_append]
    congr 1
    have e2 : c :: (g ++ (catW l ++ r)) = x.2 ++ (catW l ++ r) := by rw [hg]; simp
    rw [e2, hgap, ih (fun y hy => hl y (by simp [hy]))]
    have h1 : p + (x.1.length : Int) + (x.2.length : Int) = p + ((x.1 ++ x.2).length : Int) := by simp; omega
    have h2 : p + ((x.1 ++ x.2).length : Int) + ((catW l).length : Int) = p + ((catW (x :: l)).length : Int) := by simp [catW]; omega
    rw [h1, h2]
theorem tokW_words (l : List (List Int × List Int)) : ∀ p, (tokW p l).map (·.2) = l.map (·.1) := by
  induction l with
  | nil => intro p; rfl
  | cons x l ih => intro p; simp [tokW, ih]
theorem tokW_length (l : List (List Int × List Int)) (p : Int) : (tokW p l).length = l.length := by
  have := congrArg List.length (tokW_words l p)
  simpa using this
theorem gap_one {c : Int} (h : isBlank c = true) : Gap [c] := ⟨⟨c, [], rfl, h⟩, fun r p => by rw [List.singleton_append, tok, if_pos h]; rfl⟩
theorem clean_it (n : Int) : Clean (itI n) := by
  obtain ⟨hne, hc⟩ := itI_chars n
  refine ⟨hne, fun c h => ?_, ?_⟩
  · have := hc c h
    unfold isDig at this
    unfold isBlank
    simp only [Bool.or_eq_false_iff, beq_eq_false_iff_ne]
    omega
  · cases hq : itI n with
    | nil => simp
    | cons a b =>
      have := hc a (by rw [hq]; simp)
      unfold isDig at this
      simp
      omega
theorem clean_v : Clean [118] := ⟨by simp, by decide, by decide⟩
theorem clean_f : Clean [102] := ⟨by simp, by decide, by decide⟩

/-! ### the written text -/
def rowPairs : List (List Int) → List (List Int × List Int)
  | [] => []
  | [w] => [(w, [10])]
  | w :: x :: r => (w, [32]) :: rowPairs (x :: r)
theorem rowPairs_words (l : List (List Int)) : (rowPairs l).map (·.1) = l := by
  induction l with
  | nil => rfl
  | cons w r ih =>
    cases r with
    | nil => rfl
    | cons x r => simp only [rowPairs, List.map_cons]; rw [ih]
theorem rowPairs_good {l : List (List Int)} (h : ∀ w ∈ l, Clean w) : Good (rowPairs l) := by
  induction l with
  | nil => intro x hx; simp [rowPairs] at hx
  | cons w r ih =>
    cases r with
    | nil =>
      intro x hx
      obtain rfl : x = (w, [10]) := by simpa [rowPairs] using hx
      exact ⟨h w (by simp), gap_one (by decide)⟩
    | cons y r =>
      intro x hx
      simp only [rowPairs] at hx
      rcases List.mem_cons.1 hx with rfl | hx
      · exact ⟨h w (by simp), gap_one (by decide)⟩
      · exact ih (fun z hz => h z (by simp [List.mem_cons.1 hz])) x hx
theorem bI_append (a b : List UInt8) : bI (a ++ b) = bI a ++ bI b := by simp [bI]
theorem rowText_cat (l : List (List UInt8)) : bI (rowText l) = catW (rowPairs (l.map bI)) := by
  cases l with
  | nil => rfl
  | cons w r =>
    have key : ∀ (r : List (List UInt8)) (w : List UInt8), bI ((w ++ r.flatMap fun x => 32 :: x) ++ [10]) = catW (rowPairs (bI w :: r.map bI)) := by
      intro r
      induction r with
      | nil => intro w; simp [catW, rowPairs, bI]
      | cons x r ih =>
        intro w
        have := ih x
        simp only [List.map_cons, rowPairs, catW, List.flatMap_cons] at this ⊢
        rw [← this]
        simp [bI]
    exact key r w
def vWords (W : Int) (p : Pt) : List (List Int) := [[118], itI p.f0, itI p.f1, itI 0, itI W]
def fWords (f : List Int) : List (List Int) := [102] :: f.map (fun i => itI (i + 1))
def rowsW (P : List Pt) (W : Int) (F : List (List Int)) : List (List (List Int)) := P.map (vWords W) ++ F.map fWords
def pairsW (P : List Pt) (W : Int) (F : List (List Int)) : List (List Int × List Int) := (rowsW P W F).flatMap rowPairs
theorem catW_append (a b : List (List Int × List Int)) : catW (a ++ b) = catW a ++ catW b := by simp [catW]
theorem textOf_cat (P : List Pt) (W : Int) (F : List (List Int)) : bI (textOf P W F) = catW (pairsW P W F) := by
  have key : ∀ (L : List (List (List UInt8))), bI (L.flatMap rowText) = catW ((L.map (fun r => r.map bI)).flatMap rowPairs) := by
    intro L
    induction L with
    | nil => rfl
    | cons r L ih => simp only [List.flatMap_cons, List.map_cons, bI_append, catW_append, ih, rowText_cat]
  have e : (rowsOf P W F).map (fun r => r.map bI) = rowsW P W F := by
    unfold rowsOf rowsW
    rw [List.map_append, List.map_map, List.map_map]
    congr 1
    refine List.map_congr_left (fun f _ => ?_)
    simp only [Function.comp_apply, fWords, List.map_cons, List.map_map]
    rfl
  unfold textOf
  rw [key, e]
  rfl
theorem clean_rows (P : List Pt) (W : Int) (F : List (List Int)) : ∀ r ∈ rowsW P W F, ∀ w ∈ r, Clean w := by
  intro r hr w hw
  rcases List.mem_append.1 hr with hr | hr
  · obtain ⟨p, _, rfl⟩ := List.mem_map.1 hr
    simp only [vWords, List.mem_cons, List.not_mem_nil, or_false] at hw
    rcases hw with rfl | rfl | rfl | rfl | rfl
    · exact clean_v
    all_goals exact clean_it _
  · obtain ⟨f, _, rfl⟩ := List.mem_map.1 hr
    rcases List.mem_cons.1 hw with rfl | hw
    · exact clean_f
    · obtain ⟨i, _, rfl⟩ := List.mem_map.1 hw
      exact clean_it _
theorem good_pairs (P : List Pt) (W : Int) (F : List (List Int)) : Good (pairsW P W F) := by
  intro x hx
  obtain ⟨r, hr, hx⟩ := List.mem_flatMap.1 hx
  exact rowPairs_good (clean_rows P W F r hr) x hx
theorem pairs_words (P : List Pt) (W : Int) (F : List (List Int)) : (pairsW P W F).map (·.1) = (rowsW P W F).flatten := by
  unfold pairsW
  rw [List.map_flatMap]
  simp only [rowPairs_words]
  rw [List.flatMap_def, List.map_id']
theorem bytesOf_bI (l : List UInt8) : bytesOf ⟨l.toArray⟩ = bI l := rfl
theorem bytesOf_inj {a b : ByteArray} (h : bytesOf a = bytesOf b) : a = b := by
  unfold bytesOf at h
  have key : ∀ x y : List UInt8, (x.map fun b => (b.toNat : Int)) = (y.map fun b => (b.toNat : Int)) → x = y := by
    intro x
    induction x with
    | nil => intro y hy; cases y with | nil => rfl | cons _ _ => simp at hy
    | cons a x ih =>
      intro y hy
      cases y with
      | nil => simp at hy
      | cons b y =>
        simp only [List.map_cons, List.cons.injEq] at hy
        rw [ih y hy.2, UInt8.toNat_inj.1 (Int.ofNat.inj hy.1)]
  have h2 : a.data.toList = b.data.toList := key _ _ h
  cases a; cases b
  exact congrArg ByteArray.mk (Array.toList_inj.1 h2)
/-- Bytes. -/
def Bytes (l : List Int) : Prop := ∀ c ∈ l, 0 ≤ c ∧ c ≤ 255
theorem bytesOf_str {l : List Int} (h : Bytes l) : bytesOf (strOfNums l) = l := by
  unfold bytesOf strOfNums
  simp only [List.map_map]
  conv => rhs; rw [← List.map_id l]
  refine List.map_congr_left (fun c hc => ?_)
  have := h c hc
  simp only [Function.comp_apply, id, UInt8.toNat_ofNat']
  omega
theorem bytes_bI (l : List UInt8) : Bytes (bI l) := by
  intro c hc
  obtain ⟨x, _, rfl⟩ := List.mem_map.1 hc
  have := x.toNat_lt
  omega
theorem bytes_bytesOf (s : ByteArray) : Bytes (bytesOf s) := by
  intro c hc
  obtain ⟨x, _, rfl⟩ := List.mem_map.1 hc
  have := x.toNat_lt
  omega
end Go.Proofs.YtbmgajddhfjchaaDoor.Obj
namespace Go.Proofs.YtbmgajddhfjchaaDoor.Obj
open Go.RowKit Go.Proofs.YtbmgajddhfjchaaDoorW.PrintWords Go.Proofs.YtbmgajddhfjchaaDoorW.PrintLast Go.Proofs.YtbmgajddhfjchaaDoorW.PrintMore

def txt (t : Tok) : List Int := bytesOf t.f1
theorem mx_ge (a b : Int) : a ≤ mx a b ∧ b ≤ mx a b := by unfold mx; split <;> omega
theorem n_ok {t : Tok} {l : List Tok} {a end_ low high n : Int} (hw : txt t = itI n) (h1 : low ≤ n) (h2 : n ≤ high) (h0 : 0 ≤ high) : (RS.mk (t :: l) a 0).number end_ low high = (n, ⟨l, a, 0⟩) := by
  have hm := mx_ge high (-low)
  refine RS.number_ok (t := t) rfl ?_ (by omega) (by omega)
  show tokNum (txt t) _ = _
  rw [hw, tokNum_it n _ (by omega), if_pos (by omega)]
def NotNum (end_ : Int) (l : List Tok) : Prop := ∀ m, 0 ≤ m → tokNum (txt (l.headD ⟨end_, ⟨#[]⟩⟩)) m = (0, 11)
theorem notNum_nil (end_ : Int) : NotNum end_ [] := fun m _ => by show tokNum [] m = _; rfl
def Er (r : RS) (p : Int) : Prop := r.e = 11 ∧ r.at_ = p
theorem wrong_er {r : RS} {t : Tok} (he : r.e = 0) : Er (r.wrong t 11) t.f0 := by unfold RS.wrong; rw [if_pos he]; exact ⟨rfl, rfl⟩
theorem wrong_stay {r : RS} {p : Int} (h : Er r p) (t : Tok) (e : Int) : Er (r.wrong t e) p := by unfold RS.wrong; rw [if_neg (by rw [h.1]; decide)]; exact h
theorem next_stay {r : RS} {p : Int} (h : Er r p) : Er r.next p := h
theorem n_bad {r : RS} {end_ low high : Int} (he : r.e = 0) (hb : NotNum end_ r.l) (h0 : 0 ≤ high) : Er (r.number end_ low high).2 (r.peek end_).f0 := by
  have hm := mx_ge high (-low)
  rw [RS.number_bad (t := r.peek end_) rfl (hb _ (by omega)) (by decide)]
  exact wrong_er he
theorem n_stay {r : RS} {p end_ low high : Int} (h : Er r p) : Er (r.number end_ low high).2 p := by
  unfold RS.number
  simp only
  split <;> split <;> first | exact wrong_stay (next_stay h) _ _ | exact next_stay h
theorem z_ok {t : Tok} {l : List Tok} {a end_ : Int} (hw : txt t = itI 0) : (RS.mk (t :: l) a 0).zero end_ = ⟨l, a, 0⟩ := by
  unfold RS.zero
  have e : tokNum (bytesOf ((RS.mk (t :: l) a 0).peek end_).f1) 0 = (0, 0) := by
    show tokNum (txt t) 0 = _
    rw [hw, tokNum_it 0 0 (by omega), if_pos (by omega)]
  simp only [e]
  rw [if_neg (by decide)]
  rfl
theorem z_bad {r : RS} {end_ : Int} (he : r.e = 0) (hb : NotNum end_ r.l) : Er (r.zero end_) (r.peek end_).f0 := by
  unfold RS.zero
  have e : tokNum (bytesOf (r.peek end_).f1) 0 = (0, 11) := hb 0 (by omega)
  simp only [e]
  rw [if_pos (by decide)]
  exact next_stay (wrong_er he)
theorem z_stay {r : RS} {p end_ : Int} (h : Er r p) : Er (r.zero end_) p := by
  unfold RS.zero
  simp only
  split
  · exact next_stay (wrong_stay h _ _)
  · exact next_stay h
theorem place_end {end_ p : Int} {r : RS} {o : RO} {x y v : Int × RS} {z : RS} (hx : r.number end_ (-4294967296) 4294967296 = x) (hy : x.2.number end_ (-4294967296) 4294967296 = y) (hz : y.2.zero end_ = z) (hv : z.number end_ 1 1048576 = v) (h : Er v.2 p) : Er (rplace end_ r o).1 p := by
  rw [rplace_eq hx hy hz hv]
  show Er (if o.P ≠ [] ∧ v.1 ≠ o.W then v.2.wrong (z.peek end_) 11 else v.2) p
  split
  · exact wrong_stay h _ _
  · exact h
/-- A place's row. -/
theorem place_ok {end_ a W : Int} {t1 t2 t3 t4 : Tok} {l : List Tok} {o : RO} {p : Pt} (hp : fitsP p) (hW1 : 1 ≤ W) (hW2 : W ≤ 1048576) (hW : o.P = [] ∨ o.W = W) (h1 : txt t1 = itI p.f0) (h2 : txt t2 = itI p.f1) (h3 : txt t3 = itI 0) (h4 : txt t4 = itI W) :
    rplace end_ ⟨t1 :: t2 :: t3 :: t4 :: l, a, 0⟩ o = (⟨l, a, 0⟩, { P := o.P ++ [p], W := W, F := o.F }) := by
  unfold fitsP at hp
  rw [rplace_eq (n_ok h1 hp.1 hp.2.1 (by omega)) (n_ok h2 hp.2.2.1 hp.2.2.2 (by omega)) (z_ok h3) (n_ok h4 hW1 hW2 (by omega))]
  rw [if_neg]
  rintro ⟨hP, hne⟩
  rcases hW with hW | hW
  · exact hP hW
  · exact hne hW.symm
theorem place_bad0 {end_ a : Int} {l : List Tok} {o : RO} (hb : NotNum end_ l) : Er (rplace end_ ⟨l, a, 0⟩ o).1 ((RS.mk l a 0).peek end_).f0 :=
  place_end rfl rfl rfl rfl (n_stay (z_stay (n_stay (n_bad rfl hb (by omega)))))
theorem place_bad1 {end_ a : Int} {t1 : Tok} {l : List Tok} {o : RO} {x : Int} (hx : -4294967296 ≤ x ∧ x ≤ 4294967296) (h1 : txt t1 = itI x) (hb : NotNum end_ l) : Er (rplace end_ ⟨t1 :: l, a, 0⟩ o).1 ((RS.mk l a 0).peek end_).f0 :=
  place_end (n_ok h1 hx.1 hx.2 (by omega)) rfl rfl rfl (n_stay (z_stay (n_bad rfl hb (by omega))))
theorem place_bad2 {end_ a : Int} {t1 t2 : Tok} {l : List Tok} {o : RO} {x y : Int} (hx : -4294967296 ≤ x ∧ x ≤ 4294967296) (h1 : txt t1 = itI x) (hy : -4294967296 ≤ y ∧ y ≤ 4294967296) (h2 : txt t2 = itI y) (hb : NotNum end_ l) : Er (rplace end_ ⟨t1 :: t2 :: l, a, 0⟩ o).1 ((RS.mk l a 0).peek end_).f0 :=
  place_end (n_ok h1 hx.1 hx.2 (by omega)) (n_ok h2 hy.1 hy.2 (by omega)) rfl rfl (n_stay (z_bad rfl hb))
theorem place_bad3 {end_ a : Int} {t1 t2 t3 : Tok} {l : List Tok} {o : RO} {x y : Int} (hx : -4294967296 ≤ x ∧ x ≤ 4294967296) (h1 : txt t1 = itI x) (hy : -4294967296 ≤ y ∧ y ≤ 4294967296) (h2 : txt t2 = itI y) (h3 : txt t3 = itI 0) (hb : NotNum end_ l) : Er (rplace end_ ⟨t1 :: t2 :: t3 :: l, a, 0⟩ o).1 ((RS.mk l a 0).peek end_).f0 :=
  place_end (n_ok h1 hx.1 hx.2 (by omega)) (n_ok h2 hy.1 hy.2 (by omega)) (z_ok h3) rfl (n_bad rfl hb (by omega))

/-! ### a face's row -/
def InP (n : Nat) (i : Int) : Prop := 0 ≤ i ∧ i < (n : Int)
theorem f_num {end_ a i : Int} {n : Nat} {t : Tok} {l : List Tok} (hi : InP n i) (h : txt t = itI (i + 1)) : (RS.mk (t :: l) a 0).number end_ 1 n = (i + 1, ⟨l, a, 0⟩) := by
  unfold InP at hi
  exact n_ok h (by omega) (by omega) (by omega)
theorem fk3 {end_ a i j k : Int} {n : Nat} {t1 t2 t3 : Tok} {l : List Tok} (hi : InP n i) (hj : InP n j) (hk : InP n k) (h1 : txt t1 = itI (i + 1)) (h2 : txt t2 = itI (j + 1)) (h3 : txt t3 = itI (k + 1)) :
    fk end_ n ⟨t1 :: t2 :: t3 :: l, a, 0⟩ 3 = (⟨l, a, 0⟩, [i, j, k]) := by
  simp only [fk, f_num hi h1, f_num hj h2, f_num hk h3]
  have e : ∀ x : Int, x + 1 - 1 = x := fun x => by omega
  simp [e]
theorem face_ok3 {end_ a i j k : Int} {t1 t2 t3 : Tok} {l : List Tok} {o : RO} (hi : InP o.P.length i) (hj : InP o.P.length j) (hk : InP o.P.length k) (h1 : txt t1 = itI (i + 1)) (h2 : txt t2 = itI (j + 1)) (h3 : txt t3 = itI (k + 1)) (hb : NotNum end_ l) :
    rface end_ ⟨t1 :: t2 :: t3 :: l, a, 0⟩ o = (⟨l, a, 0⟩, { o with F := o.F ++ [[i, j, k]] }) := by
  have h := fk3 (end_ := end_) (a := a) (l := l) hi hj hk h1 h2 h3
  have he : (tokNum (bytesOf ((fk end_ o.P.length ⟨t1 :: t2 :: t3 :: l, a, 0⟩ 3).1.peek end_).f1) o.P.length).2 = 11 := by
    rw [h]
    have := hb (o.P.length : Int) (by omega)
    show (tokNum (txt (l.headD ⟨end_, ⟨#[]⟩⟩)) _).2 = 11
    rw [this]
  rw [rface_eq3 he, h]
theorem face_ok4 {end_ a i j k m : Int} {t1 t2 t3 t4 : Tok} {l : List Tok} {o : RO} (hi : InP o.P.length i) (hj : InP o.P.length j) (hk : InP o.P.length k) (hm : InP o.P.length m) (h1 : txt t1 = itI (i + 1)) (h2 : txt t2 = itI (j + 1)) (h3 : txt t3 = itI (k + 1)) (h4 : txt t4 = itI (m + 1)) :
    rface end_ ⟨t1 :: t2 :: t3 :: t4 :: l, a, 0⟩ o = (⟨l, a, 0⟩, { o with F := o.F ++ [[i, j, k, m]] }) := by
  have h := fk3 (end_ := end_) (a := a) (l := t4 :: l) hi hj hk h1 h2 h3
  have he : (tokNum (bytesOf ((fk end_ o.P.length ⟨t1 :: t2 :: t3 :: t4 :: l, a, 0⟩ 3).1.peek end_).f1) o.P.length).2 ≠ 11 := by
    rw [h]
    show (tokNum (txt t4) _).2 ≠ 11
    rw [h4, tokNum_it _ _ (by omega)]
    split <;> simp
  have h4' : fk end_ o.P.length ⟨t1 :: t2 :: t3 :: t4 :: l, a, 0⟩ 4 = (⟨l, a, 0⟩, [i, j, k, m]) := by
    rw [fk, h]
    simp only [f_num hm h4]
    have e : m + 1 - 1 = m := by omega
    simp [e]
  rw [rface_eq4 he, h4']
theorem face_stay {end_ p : Int} {r : RS} {o : RO} (h : Er (fk end_ o.P.length r 3).1 p) : Er (rface end_ r o).1 p := by
  by_cases he : (tokNum (bytesOf ((fk end_ o.P.length r 3).1.peek end_).f1) o.P.length).2 = 11
  · rw [rface_eq3 he]; exact h
  · rw [rface_eq4 he]; exact n_stay h
theorem face_bad0 {end_ a : Int} {l : List Tok} {o : RO} (hb : NotNum end_ l) : Er (rface end_ ⟨l, a, 0⟩ o).1 ((RS.mk l a 0).peek end_).f0 :=
  face_stay (by simp only [fk]; exact n_stay (n_stay (n_bad rfl hb (by omega))))
theorem face_bad1 {end_ a i : Int} {t1 : Tok} {l : List Tok} {o : RO} (hi : InP o.P.length i) (h1 : txt t1 = itI (i + 1)) (hb : NotNum end_ l) : Er (rface end_ ⟨t1 :: l, a, 0⟩ o).1 ((RS.mk l a 0).peek end_).f0 :=
  face_stay (by simp only [fk, f_num hi h1]; exact n_stay (n_bad rfl hb (by omega)))
theorem face_bad2 {end_ a i j : Int} {t1 t2 : Tok} {l : List Tok} {o : RO} (hi : InP o.P.length i) (h1 : txt t1 = itI (i + 1)) (hj : InP o.P.length j) (h2 : txt t2 = itI (j + 1)) (hb : NotNum end_ l) : Er (rface end_ ⟨t1 :: t2 :: l, a, 0⟩ o).1 ((RS.mk l a 0).peek end_).f0 :=
  face_stay (by simp only [fk, f_num hi h1, f_num hj h2]; exact n_bad rfl hb (by omega))

/-! ### rows one by one -/
theorem word_v {t : Tok} (h : txt t = [118]) : t.f1 = wordV := bytesOf_inj h
theorem word_f {t : Tok} (h : txt t = [102]) : t.f1 = wordF := bytesOf_inj h
theorem wordV_txt {t : Tok} (h : t.f1 = wordV) : txt t = [118] := by unfold txt; rw [h]; rfl
theorem wordF_txt {t : Tok} (h : t.f1 = wordF) : txt t = [102] := by unfold txt; rw [h]; rfl
theorem loop_v {end_ a : Int} {k : Nat} {t : Tok} {l : List Tok} {o : RO} (ht : txt t = [118]) (hF : o.F = []) : rloop end_ (k + 1) ⟨t :: l, a, 0⟩ o = rloop end_ k (rplace end_ ⟨l, a, 0⟩ o).1 (rplace end_ ⟨l, a, 0⟩ o).2 := by
  rw [rloop, if_neg (by simp)]
  exact if_pos ⟨word_v ht, hF⟩
theorem loop_f {end_ a : Int} {k : Nat} {t : Tok} {l : List Tok} {o : RO} (ht : txt t = [102]) : rloop end_ (k + 1) ⟨t :: l, a, 0⟩ o = rloop end_ k (rface end_ ⟨l, a, 0⟩ o).1 (rface end_ ⟨l, a, 0⟩ o).2 := by
  rw [rloop, if_neg (by simp)]
  simp only
  rw [if_neg, if_pos (show ((RS.mk (t :: l) a 0).peek end_).f1 = wordF from word_f ht)]
  · rfl
  · rintro ⟨h, _⟩
    have := wordV_txt (t := t) h
    rw [ht] at this
    exact absurd this (by decide)
theorem loop_bad {end_ a : Int} {k : Nat} {t : Tok} {l : List Tok} {o : RO} (hv : txt t = [118] → o.F ≠ []) (hf : txt t ≠ [102]) : Er (rloop end_ (k + 1) ⟨t :: l, a, 0⟩ o).1 t.f0 := by
  rw [rloop, if_neg (by simp)]
  simp only
  rw [if_neg, if_neg]
  · exact wrong_er rfl
  · intro h; exact hf (wordF_txt (t := t) h)
  · rintro ⟨h, h2⟩; exact hv (wordV_txt (t := t) h) h2
theorem loop_er {end_ p : Int} {k : Nat} {r : RS} {o : RO} (h : Er r p) : Er (rloop end_ k r o).1 p := by
  rw [rloop_stop (.inr (by rw [h.1]; decide))]; exact h
def OkObj (P : List Pt) (W : Int) (F : List (List Int)) : Prop := (∀ p ∈ P, fitsP p) ∧ 1 ≤ W ∧ W ≤ 1048576 ∧ ∀ f ∈ F, (f.length = 3 ∨ f.length = 4) ∧ ∀ i ∈ f, InP P.length i
/-- The places' rows. -/
theorem loop_P {end_ a W : Int} (hW1 : 1 ≤ W) (hW2 : W ≤ 1048576) : ∀ (P : List Pt), (∀ p ∈ P, fitsP p) → ∀ (ts rest : List Tok) (k : Nat) (o : RO), ts.map txt = (P.map (vWords W)).flatten → o.F = [] → (o.P = [] ∨ o.W = W) →
    rloop end_ (P.length + k) ⟨ts ++ rest, a, 0⟩ o = rloop end_ k ⟨rest, a, 0⟩ (if P = [] then o else { P := o.P ++ P, W := W, F := [] }) := by
  intro P
  induction P with
  | nil =>
    intro _ ts rest k o hts _ _
    obtain rfl : ts = [] := by simpa using hts
    simp
  | cons p P ih =>
    intro hp ts rest k o hts hF hW
    simp only [List.map_cons, List.flatten_cons, vWords, List.cons_append, List.nil_append] at hts
    obtain ⟨t0, ts, rfl, h0, hts⟩ := List.map_eq_cons_iff.1 hts
    obtain ⟨t1, ts, rfl, h1, hts⟩ := List.map_eq_cons_iff.1 hts
    obtain ⟨t2, ts, rfl, h2, hts⟩ := List.map_eq_cons_iff.1 hts
    obtain ⟨t3, ts, rfl, h3, hts⟩ := List.map_eq_cons_iff.1 hts
    obtain ⟨t4, ts, rfl, h4, hts⟩ := List.map_eq_cons_iff.1 hts
    rw [show (p :: P).length + k = (P.length + k) + 1 by simp; omega]
    simp only [List.cons_append]
    rw [loop_v h0 hF, place_ok (hp p (by simp)) hW1 hW2 hW h1 h2 h3 h4]
    simp only
    rw [ih (fun q hq => hp q (by simp [hq])) ts rest k { P := o.P ++ [p], W := W, F := o.F } hts hF (.inr rfl)]
    congr 1
    by_cases hP : P = []
    · subst hP; simp [hF]
    · rw [if_neg hP, if_neg (by simp)]; simp
theorem notNum_f {end_ : Int} {t : Tok} {l : List Tok} (h : txt t = [102]) : NotNum end_ (t :: l) := fun m hm => by
  show tokNum (txt t) m = _
  rw [h]
  rfl
/-- The faces' rows; what comes behind them is no number. -/
theorem loop_F {end_ a : Int} : ∀ (F : List (List Int)) (ts rest : List Tok) (k : Nat) (o : RO), (∀ f ∈ F, (f.length = 3 ∨ f.length = 4) ∧ ∀ i ∈ f, InP o.P.length i) → ts.map txt = (F.map fWords).flatten → NotNum end_ rest →
    rloop end_ (F.length + k) ⟨ts ++ rest, a, 0⟩ o = rloop end_ k ⟨rest, a, 0⟩ { o with F := o.F ++ F } := by
  intro F
  induction F with
  | nil =>
    intro ts rest k o _ hts _
    obtain rfl : ts = [] := by simpa using hts
    simp
  | cons f F ih =>
    intro ts rest k o hf hts hb
    have hff := hf f (by simp)
    have hnn : ∀ ts' : List Tok, ts'.map txt = (F.map fWords).flatten → NotNum end_ (ts' ++ rest) := by
      intro ts' h'
      cases F with
      | nil =>
        obtain rfl : ts' = [] := by simpa using h'
        simpa using hb
      | cons g F =>
        simp only [List.map_cons, List.flatten_cons, fWords, List.cons_append] at h'
        obtain ⟨t, ts', rfl, h1, _⟩ := List.map_eq_cons_iff.1 h'
        exact notNum_f h1
    rw [show (f :: F).length + k = (F.length + k) + 1 by simp; omega]
    simp only [List.map_cons, List.flatten_cons, fWords, List.cons_append] at hts
    rcases hff with ⟨h3 | h4, hi⟩
    · match f, h3, hts, hi with
      | [i, j, m], _, hts, hi =>
        simp only [List.map_cons, List.map_nil, List.cons_append, List.nil_append] at hts
        obtain ⟨t0, ts, rfl, h0, hts⟩ := List.map_eq_cons_iff.1 hts
        obtain ⟨t1, ts, rfl, h1, hts⟩ := List.map_eq_cons_iff.1 hts
        obtain ⟨t2, ts, rfl, h2, hts⟩ := List.map_eq_cons_iff.1 hts
        obtain ⟨t3, ts, rfl, h3, hts⟩ := List.map_eq_cons_iff.1 hts
        simp only [List.cons_append]
        rw [loop_f h0, face_ok3 (hi i (by simp)) (hi j (by simp)) (hi m (by simp)) h1 h2 h3 (hnn ts hts)]
        simp only
        rw [ih ts rest k { o with F := o.F ++ [[i, j, m]] } (fun g hg => hf g (by simp [hg])) hts hb]
        simp
    · match f, h4, hts, hi with
      | [i, j, m, q], _, hts, hi =>
        simp only [List.map_cons, List.map_nil, List.cons_append, List.nil_append] at hts
        obtain ⟨t0, ts, rfl, h0, hts⟩ := List.map_eq_cons_iff.1 hts
        obtain ⟨t1, ts, rfl, h1, hts⟩ := List.map_eq_cons_iff.1 hts
        obtain ⟨t2, ts, rfl, h2, hts⟩ := List.map_eq_cons_iff.1 hts
        obtain ⟨t3, ts, rfl, h3, hts⟩ := List.map_eq_cons_iff.1 hts
        obtain ⟨t4, ts, rfl, h4, hts⟩ := List.map_eq_cons_iff.1 hts
        simp only [List.cons_append]
        rw [loop_f h0, face_ok4 (hi i (by simp)) (hi j (by simp)) (hi m (by simp)) (hi q (by simp)) h1 h2 h3 h4]
        simp only
        rw [ih ts rest k { o with F := o.F ++ [[i, j, m, q]] } (fun g hg => hf g (by simp [hg])) hts hb]
        simp
/-- What was written is read. -/
theorem loop_all {end_ : Int} {P : List Pt} {W : Int} {F : List (List Int)} (hok : OkObj P W F) (hP : P ≠ []) (ts : List Tok) (hts : ts.map txt = (rowsW P W F).flatten) : rloop end_ ts.length ⟨ts, 0, 0⟩ ⟨[], 0, []⟩ = (⟨[], 0, 0⟩, ⟨P, W, F⟩) := by
  obtain ⟨h1, h2, h3, h4⟩ := hok
  have hlen : P.length + F.length ≤ ts.length := by
    have := congrArg List.length hts
    rw [List.length_map] at this
    rw [this]
    have hfl : ∀ L : List (List (List Int)), (∀ r ∈ L, r ≠ []) → L.length ≤ L.flatten.length := by
      intro L
      induction L with
      | nil => intro _; simp
      | cons r L ih =>
        intro h
        have := ih (fun x hx => h x (by simp [hx]))
        have h0 := List.length_pos_iff.2 (h r (by simp))
        simp only [List.flatten_cons, List.length_append, List.length_cons]
        omega
    have := hfl (rowsW P W F) (by
      intro r hr
      rcases List.mem_append.1 hr with hr | hr
      · obtain ⟨p, _, rfl⟩ := List.mem_map.1 hr; simp [vWords]
      · obtain ⟨f, _, rfl⟩ := List.mem_map.1 hr; simp [fWords])
    simpa [rowsW] using this
  obtain ⟨k, hk⟩ : ∃ k, ts.length = P.length + (F.length + k) := ⟨ts.length - (P.length + F.length), by omega⟩
  rw [rowsW, List.flatten_append] at hts
  obtain ⟨a, b, rfl, ha, hb⟩ := List.map_eq_append_iff.1 hts
  rw [hk, loop_P h2 h3 P h1 a b _ _ ha rfl (.inl rfl), if_neg hP]
  have := loop_F (end_ := end_) (a := 0) F b [] k { P := [] ++ P, W := W, F := [] } (by simpa using h4) hb (notNum_nil end_)
  rw [List.append_nil] at this
  rw [this, rloop_stop (.inl rfl)]
  simp
end Go.Proofs.YtbmgajddhfjchaaDoor.Obj
namespace Go.Proofs.YtbmgajddhfjchaaDoor.Obj
open Go.RowKit Go.Proofs.YtbmgajddhfjchaaDoorW.PrintWords Go.Proofs.YtbmgajddhfjchaaDoorW.PrintLast Go.Proofs.YtbmgajddhfjchaaDoorW.PrintMore

end Go.Proofs.YtbmgajddhfjchaaDoor.Obj
namespace Go.Proofs.YtbmgajddhfjchaaDoor.Obj
open Go.RowKit Go.Proofs.YtbmgajddhfjchaaDoorW.PrintWords Go.Proofs.YtbmgajddhfjchaaDoorW.PrintLast Go.Proofs.YtbmgajddhfjchaaDoorW.PrintMore

theorem w64 {x : Int} (h1 : -9223372036854775808 ≤ x) (h2 : x ≤ 9223372036854775807) : wrap64 x = x := by unfold wrap64; omega
theorem Ev.one {α : Type} {g : Nat → Option α} {r : α} (h : ∀ k, g (k + 1) = some r) : Ev g r := Ev.step (f := fun _ => some r) h (Ev.now r)
/-! ### too many -/
theorem many_l (P : List Pt) (W : Int) (F : List (List Int)) : ∀ (d i : Nat) (n : Int), F.length = i + d → (F.length : Int) ≤ n →
    ∃ b, Ev (fun k => parquetlaw21_many.l0 k n i P W F) b ∧ (b = false → P.length ≤ 150 ∧ n ≤ 200 ∧ ∀ j, i ≤ j → j < F.length → (F.getD j []).length ≤ 200) := by
  intro d
  induction d with
  | zero =>
    intro i n hd hn
    have hi : ¬ ((i : Int) < (F.length : Int)) := by omega
    by_cases h200 : n > 200
    · exact ⟨true, Ev.one (fun k => by simp only [parquetlaw21_many.l0]; rw [if_neg hi, if_pos h200]), fun h => by cases h⟩
    · refine ⟨decide ((P.length : Int) > 150), Ev.one (fun k => by simp only [parquetlaw21_many.l0]; rw [if_neg hi, if_neg h200]), fun h => ?_⟩
      have := of_decide_eq_false h
      exact ⟨by omega, by omega, fun j h1 h2 => by omega⟩
  | succ d ih =>
    intro i n hd hn
    have hi : (i : Int) < (F.length : Int) := by omega
    by_cases h200 : n ≤ 200
    · have hmn : 0 ≤ mn ((rd_L13 F i).length : Int) 200 ∧ mn ((rd_L13 F i).length : Int) 200 ≤ 200 ∧ (mn ((rd_L13 F i).length : Int) 200 < 200 → ((rd_L13 F i).length : Int) ≤ 200) := by
        unfold mn; split <;> omega
      have hw1 : wrap64 (n + mn ((rd_L13 F i).length : Int) 200) = n + mn ((rd_L13 F i).length : Int) 200 := w64 (by omega) (by omega)
      have hw2 : wrap64 ((i : Int) + 1) = ((i + 1 : Nat) : Int) := by rw [w64 (by omega) (by omega)]; omega
      obtain ⟨b, hb, hbf⟩ := ih (i + 1) (n + mn ((rd_L13 F i).length : Int) 200) (by omega) (by omega)
      refine ⟨b, Ev.step (fun k => ?_) hb, fun h => ?_⟩
      · simp only [parquetlaw21_many.l0]; rw [if_pos hi, if_pos h200, if_pos (by omega), hw1, hw2]
      · obtain ⟨h1, h2, h3⟩ := hbf h
        refine ⟨h1, h200, fun j hj1 hj2 => ?_⟩
        by_cases hji : j = i
        · subst hji
          have hlt := hmn.2.2 (by omega)
          have : rd_L13 F (j : Int) = F.getD j [] := by simp [rd_L13, rdOf]
          rw [this] at hlt
          omega
        · exact h3 j (by omega) hj2
    · refine ⟨true, Ev.one (fun k => by simp only [parquetlaw21_many.l0]; rw [if_pos hi, if_neg h200, if_pos (by omega)]), fun h => by cases h⟩
theorem many_ev (P : List Pt) (W : Int) (F : List (List Int)) : ∃ b, Ev (fun k => parquetlaw21_many.f k P W F) b ∧ (b = false → P.length ≤ 150 ∧ F.length ≤ 200 ∧ ∀ f ∈ F, f.length ≤ 200) := by
  obtain ⟨b, hb, h⟩ := many_l P W F F.length 0 F.length (by omega) (by omega)
  refine ⟨b, hb, fun hf => ?_⟩
  obtain ⟨h1, h2, h3⟩ := h hf
  refine ⟨h1, by omega, fun f hmem => ?_⟩
  obtain ⟨j, hj, rfl⟩ := List.getElem_of_mem hmem
  have := h3 j (by omega) hj
  simpa [List.getD_eq_getElem?_getD, hj] using this
/-! ### the same -/
theorem sameInts_ev (l : List Int) (hl : l.length ≤ 1000000) : Ev (fun k => parquetref00_SameInts.f k l l) true := by
  have key : ∀ (d i : Nat), l.length = i + d → Ev (fun k => parquetref00_SameInts.l0 k l l i) true := by
    intro d
    induction d with
    | zero =>
      intro i hd
      exact Ev.one (fun k => by simp only [parquetref00_SameInts.l0]; rw [if_neg (by omega)])
    | succ d ih =>
      intro i hd
      refine Ev.step (fun k => ?_) (ih (i + 1) (by omega))
      have hw2 : wrap64 ((i : Int) + 1) = ((i + 1 : Nat) : Int) := by rw [w64 (by omega) (by omega)]; omega
      simp only [parquetref00_SameInts.l0]
      rw [if_pos (by omega), if_pos (by omega), if_pos (by omega), hw2]
      simp only [if_true]
  exact Ev.congr (fun k => by unfold parquetref00_SameInts.f; rw [if_pos rfl]; rfl) (key l.length 0 (by omega))
theorem samePoints_ev (l : List Pt) (hl : l.length ≤ 1000000) : Ev (fun k => parquetref05_SamePoints.f k l l) true := by
  have key : ∀ (d i : Nat), l.length = i + d → Ev (fun k => parquetref05_SamePoints.l0 k l l i) true := by
    intro d
    induction d with
    | zero =>
      intro i hd
      exact Ev.one (fun k => by simp only [parquetref05_SamePoints.l0]; rw [if_neg (by omega)])
    | succ d ih =>
      intro i hd
      refine Ev.step (fun k => ?_) (ih (i + 1) (by omega))
      have hw2 : wrap64 ((i : Int) + 1) = ((i + 1 : Nat) : Int) := by rw [w64 (by omega) (by omega)]; omega
      simp only [parquetref05_SamePoints.l0]
      rw [if_pos (by omega), if_pos (by omega), if_pos (by omega), if_neg (by simp), hw2]
  exact Ev.congr (fun k => by unfold parquetref05_SamePoints.f; rw [if_pos rfl]; rfl) (key l.length 0 (by omega))
theorem same_ev (P : List Pt) (W : Int) (F : List (List Int)) (hP : P.length ≤ 1000000) (hF : F.length ≤ 1000000) (hf : ∀ f ∈ F, f.length ≤ 1000000) : Ev (fun k => parquetref21_Same.f k P W F P W F) true := by
  have key : ∀ (d i : Nat), F.length = i + d → Ev (fun k => parquetref21_Same.l0 k i P W F P W F) true := by
    intro d
    induction d with
    | zero =>
      intro i hd
      exact Ev.one (fun k => by simp only [parquetref21_Same.l0]; rw [if_neg (by omega)])
    | succ d ih =>
      intro i hd
      have hw2 : wrap64 ((i : Int) + 1) = ((i + 1 : Nat) : Int) := by rw [w64 (by omega) (by omega)]; omega
      have hlen : (rd_L13 F (i : Int)).length ≤ 1000000 := by
        have e : rd_L13 F (i : Int) = F.getD i [] := by simp [rd_L13, rdOf]
        rw [e]
        have hi : i < F.length := by omega
        simp only [List.getD_eq_getElem?_getD, List.getElem?_eq_getElem hi, Option.getD_some]
        exact hf _ (List.getElem_mem hi)
      refine Ev.step (f := fun k => (parquetref00_SameInts.f k (rd_L13 F i) (rd_L13 F i)).bind fun t => if t = true then parquetref21_Same.l0 k ((i + 1 : Nat) : Int) P W F P W F else some false) (fun k => ?_) ?_
      · simp only [parquetref21_Same.l0]
        rw [if_pos (by omega), if_pos (by omega), if_pos (by omega), hw2]
      · refine Ev.bind (sameInts_ev _ hlen) ?_
        simp only [if_true]
        exact ih (i + 1) (by omega)
  refine Ev.congr (f := fun k => (parquetref05_SamePoints.f k P P).bind fun t => if t = true then parquetref21_Same.j0 k false P W F P W F else parquetref21_Same.j0 k true P W F P W F) (fun k => ?_) ?_
  · unfold parquetref21_Same.f
    simp
  · refine Ev.bind (samePoints_ev P hP) ?_
    simp only [if_true]
    exact Ev.step (f := fun k => parquetref21_Same.l0 k 0 P W F P W F) (fun k => by simp only [parquetref21_Same.j0]; rw [if_neg (by simp)]) (key F.length 0 (by omega))
/-! ### the document's words are the same words -/
section
variable {x0 : List Int} {x4 : List Tok} {x5 : Bool} {x6 x7 c : Int} {r : List Tok × Int}
theorem all_j1 (h : Ev (fun k => parquetref02_All.j2 k x0 x4 x5 x6 x7 c (isBlank c)) r) : Ev (fun k => parquetref02_All.j1 k x0 x4 x5 x6 x7 c) r := by
  refine Ev.step (fun k => ?_) h
  simp only [parquetref02_All.j1]
  unfold isBlank
  by_cases h1 : c = 32
  · subst h1; rfl
  · by_cases h2 : c = 9
    · subst h2; rfl
    · by_cases h3 : c = 13
      · subst h3; rfl
      · rw [if_neg h1, if_neg h2, if_neg h3, beq_eq_false_iff_ne.2 h1, beq_eq_false_iff_ne.2 h2, beq_eq_false_iff_ne.2 h3]; rfl
theorem all_com (h : Ev (fun k => parquetref02_All.l0 k x0 x4 (c != 10) x6 (wrap64 (x7 + 1))) r) : Ev (fun k => parquetref02_All.j1 k x0 x4 true x6 x7 c) r :=
  all_j1 (Ev.step (fun k => by simp only [parquetref02_All.j2]; rw [if_pos trivial]) h)
theorem all_end (hc : isBlank c = true) (h6 : 0 ≤ x6) (h67 : x6 ≤ x7) (h7 : x7 ≤ (x0.length : Int)) (hl : x4.length < 5864062014805) (h : Ev (fun k => parquetref02_All.l0 k x0 (x4 ++ [⟨x6, strOfNums ((x0.take x7.toNat).drop x6.toNat)⟩]) false (-1) (wrap64 (x7 + 1))) r) : Ev (fun k => parquetref02_All.j1 k x0 x4 false x6 x7 c) r := by
  refine all_j1 (Ev.step (f := fun k => parquetref02_All.j3 k x0 x4 false x6 x7 c true true) (fun k => ?_) (Ev.step (fun k => ?_) h))
  · simp only [parquetref02_All.j2, hc]; rw [if_neg (by simp), if_pos h6]
  · simp only [parquetref02_All.j3]; rw [if_pos trivial, if_pos h6, if_pos h67, if_pos h7, if_pos hl]
theorem all_in (hc : isBlank c = false) (h6 : 0 ≤ x6) (h : Ev (fun k => parquetref02_All.l0 k x0 x4 false x6 (wrap64 (x7 + 1))) r) : Ev (fun k => parquetref02_All.j1 k x0 x4 false x6 x7 c) r := by
  refine all_j1 (Ev.step (f := fun k => parquetref02_All.j3 k x0 x4 false x6 x7 c false false) (fun k => ?_) (Ev.step (f := fun k => parquetref02_All.j4 k x0 x4 false x6 x7 false false) (fun k => ?_) (Ev.step (fun k => ?_) h)))
  · simp only [parquetref02_All.j2, hc]; rw [if_neg (by simp), if_pos h6]
  · simp only [parquetref02_All.j3]; rw [if_neg (by simp), if_neg (by omega)]
  · simp only [parquetref02_All.j4]; rw [if_neg (by simp), if_neg (by omega)]
theorem all_sharp (h : Ev (fun k => parquetref02_All.l0 k x0 x4 true (-1) (wrap64 (x7 + 1))) r) : Ev (fun k => parquetref02_All.j1 k x0 x4 false (-1) x7 35) r := by
  refine all_j1 (Ev.step (f := fun k => parquetref02_All.j3 k x0 x4 false (-1) x7 35 false false) (fun k => ?_) (Ev.step (f := fun k => parquetref02_All.j4 k x0 x4 false (-1) x7 false true) (fun k => ?_) (Ev.step (fun k => ?_) h)))
  · simp only [parquetref02_All.j2]; rw [if_neg (by simp), if_neg (by omega)]; rfl
  · simp only [parquetref02_All.j3]; rw [if_neg (by simp), if_pos (by omega)]; rfl
  · simp only [parquetref02_All.j4]; rw [if_pos trivial]
theorem all_blank (hc : isBlank c = true) (h : Ev (fun k => parquetref02_All.l0 k x0 x4 false (-1) (wrap64 (x7 + 1))) r) : Ev (fun k => parquetref02_All.j1 k x0 x4 false (-1) x7 c) r := by
  have h35 : (c == 35) = false := by
    cases hq : (c == 35) with
    | false => rfl
    | true => rw [beq_iff_eq.1 hq] at hc; exact absurd hc (by decide)
  refine all_j1 (Ev.step (f := fun k => parquetref02_All.j3 k x0 x4 false (-1) x7 c true false) (fun k => ?_) (Ev.step (f := fun k => parquetref02_All.j4 k x0 x4 false (-1) x7 true false) (fun k => ?_) (Ev.step (fun k => ?_) h)))
  · simp only [parquetref02_All.j2, hc]; rw [if_neg (by simp), if_neg (by omega)]
  · simp only [parquetref02_All.j3, h35]; rw [if_neg (by simp), if_pos (by omega)]
  · simp only [parquetref02_All.j4]; rw [if_neg (by simp), if_pos (by omega), if_pos trivial]
theorem all_begin (hc : isBlank c = false) (h35 : c ≠ 35) (h : Ev (fun k => parquetref02_All.l0 k x0 x4 false x7 (wrap64 (x7 + 1))) r) : Ev (fun k => parquetref02_All.j1 k x0 x4 false (-1) x7 c) r := by
  refine all_j1 (Ev.step (f := fun k => parquetref02_All.j3 k x0 x4 false (-1) x7 c false false) (fun k => ?_) (Ev.step (f := fun k => parquetref02_All.j4 k x0 x4 false (-1) x7 false false) (fun k => ?_) (Ev.step (fun k => ?_) h)))
  · simp only [parquetref02_All.j2, hc]; rw [if_neg (by simp), if_neg (by omega)]
  · simp only [parquetref02_All.j3, beq_eq_false_iff_ne.2 h35]; rw [if_neg (by simp), if_pos (by omega)]
  · simp only [parquetref02_All.j4]; rw [if_neg (by simp), if_pos (by omega), if_neg (by simp)]
end
theorem all_fin (l : List Int) (x4 : List Tok) (x5 : Bool) (x6 : Int) : Ev (fun k => parquetref02_All.l0 k l x4 x5 x6 ((l.length : Int) + 1)) (x4, 0) :=
  Ev.one (fun k => by simp only [parquetref02_All.l0]; rw [if_neg (by omega)])
inductive WSt where | out | com | word (b : Nat)
def WSt.x5 : WSt → Bool | .com => true | _ => false
def WSt.x6 : WSt → Int | .word b => (b : Int) | _ => -1
def WSt.tm (l : List Int) (i : Nat) : WSt → TM | .out => .out | .com => .com | .word b => .word (b : Int) ((l.take i).drop b)
theorem all_l (l : List Int) (hl : l.length ≤ 1048576) : ∀ (d i : Nat) (x4 : List Tok) (s : WSt), l.length = i + d → x4.length ≤ i → (∀ b, s = .word b → b < i) →
    Ev (fun k => parquetref02_All.l0 k l x4 s.x5 s.x6 i) (x4 ++ (tok (l.drop i) i (s.tm l i)).map toTok, 0) := by
  intro d
  induction d with
  | zero =>
    intro i x4 s hd hx4 hs
    obtain rfl : i = l.length := by omega
    have e : l.drop l.length = [] := List.drop_length
    have hw : wrap64 ((l.length : Int) + 1) = (l.length : Int) + 1 := w64 (by omega) (by omega)
    refine Ev.step (f := fun k => parquetref02_All.j1 k l x4 s.x5 s.x6 l.length 10) (fun k => by simp only [parquetref02_All.l0]; rw [if_pos (by omega), if_neg (by omega)]) ?_
    rw [e]
    cases s with
    | out => simp only [WSt.tm, tok, List.map_nil, List.append_nil]; exact all_blank (by decide) (by rw [hw]; exact all_fin _ _ _ _)
    | com => simp only [WSt.tm, tok, List.map_nil, List.append_nil]; exact all_com (by rw [hw]; exact all_fin _ _ _ _)
    | word b =>
      have := hs b rfl
      refine all_end (by decide) (by simp [WSt.x6]) (by simp only [WSt.x6]; omega) (by omega) (by omega) ?_
      rw [hw]
      have e2 : (x4 ++ [(⟨(b : Int), strOfNums ((l.take l.length).drop b)⟩ : Tok)]) = x4 ++ List.map toTok (tok [] (l.length : Int) (WSt.tm l l.length (.word b))) := by
        simp [WSt.tm, tok, toTok]
      rw [← e2]
      exact all_fin _ _ _ _
  | succ d ih =>
    intro i x4 s hd hx4 hs
    have hi : i < l.length := by omega
    have hw : wrap64 ((i : Int) + 1) = ((i + 1 : Nat) : Int) := by rw [w64 (by omega) (by omega)]; omega
    have hcast : (i : Int) + 1 = ((i + 1 : Nat) : Int) := by omega
    refine Ev.step (f := fun k => parquetref02_All.j1 k l x4 s.x5 s.x6 i (rd l i)) (fun k => by simp only [parquetref02_All.l0]; rw [if_pos (by omega), if_pos (by omega), if_pos (by omega)]) ?_
    rw [drop_rd l i hi]
    obtain ⟨c, hc⟩ : ∃ c, rd l (i : Int) = c := ⟨_, rfl⟩
    rw [hc]
    cases s with
    | com =>
      refine all_com ?_
      rw [hw]
      simp only [WSt.tm, tok]
      by_cases h10 : c = 10
      · rw [if_pos h10]
        have := ih (i + 1) x4 .out (by omega) (by omega) (fun b h => by cases h)
        rw [show (c != 10) = WSt.x5 .out by rw [h10]; rfl, hcast]
        exact this
      · rw [if_neg h10]
        have := ih (i + 1) x4 .com (by omega) (by omega) (fun b h => by cases h)
        rw [show (c != 10) = WSt.x5 .com by rw [bne_iff_ne.2 h10]; rfl, hcast]
        exact this
    | word b =>
      have hb := hs b rfl
      simp only [WSt.tm, tok]
      by_cases hbl : isBlank c = true
      · rw [if_pos hbl]
        refine all_end hbl (by simp [WSt.x6]) (by simp only [WSt.x6]; omega) (by omega) (by omega) ?_
        rw [hw]
        have := ih (i + 1) (x4 ++ [⟨(b : Int), strOfNums ((l.take i).drop b)⟩]) .out (by omega) (by simp; omega) (fun b h => by cases h)
        rw [hcast, List.map_cons]
        simp only [List.append_assoc, List.singleton_append] at this
        exact this
      · rw [if_neg hbl]
        refine all_in (by simpa using hbl) (by simp [WSt.x6]) ?_
        rw [hw]
        have := ih (i + 1) x4 (.word b) (by omega) (by omega) (fun b' h => by cases h; omega)
        simp only [WSt.tm] at this
        rw [take_drop_snoc l b i (by omega) hi, hc] at this
        rw [hcast]
        exact this
    | out =>
      simp only [WSt.tm, tok]
      by_cases hbl : isBlank c = true
      · rw [if_pos hbl]
        refine all_blank hbl ?_
        rw [hw]
        have := ih (i + 1) x4 .out (by omega) (by omega) (fun b h => by cases h)
        rw [hcast]
        exact this
      · rw [if_neg hbl]
        by_cases h35 : c = 35
        · subst h35
          rw [if_pos rfl]
          refine all_sharp ?_
          rw [hw]
          have := ih (i + 1) x4 .com (by omega) (by omega) (fun b h => by cases h)
          rw [hcast]
          exact this
        · rw [if_neg h35]
          refine all_begin (by simpa using hbl) h35 ?_
          rw [hw]
          have := ih (i + 1) x4 (.word i) (by omega) (by omega) (fun b' h => by cases h; omega)
          simp only [WSt.tm] at this
          rw [take_drop_snoc l i i (Nat.le_refl i) hi, hc, List.drop_of_length_le (l := l.take i) (by rw [List.length_take]; omega), List.nil_append] at this
          rw [hcast]
          exact this
theorem all_ev (l : List Int) (hl : l.length ≤ 1048576) : Ev (fun k => parquetref02_All.f k l) (toks l, 0) := by
  have := all_l l hl l.length 0 [] .out (by omega) (by simp) (fun b h => by cases h)
  simp only [List.nil_append, List.drop_zero] at this
  refine Ev.congr (fun k => ?_) this
  unfold parquetref02_All.f
  rw [if_neg (by omega)]
  rfl
end Go.Proofs.YtbmgajddhfjchaaDoor.Obj
namespace Go.Proofs.YtbmgajddhfjchaaDoor.Obj
open Go.RowKit Go.Proofs.YtbmgajddhfjchaaDoorW.PrintWords Go.Proofs.YtbmgajddhfjchaaDoorW.PrintLast Go.Proofs.YtbmgajddhfjchaaDoorW.PrintMore

theorem kind_faces {n : Int} {F : List (List Int)} (h : known_kind n F = 0) : 0 ≤ n ∧ n ≤ 1048576 ∧ ∀ f ∈ F, faceOk n f := by
  unfold known_kind at h
  by_cases h1 : n < 0 ∨ 1048576 < n
  · rw [if_pos h1] at h; cases h
  · rw [if_neg h1] at h
    by_cases h2 : ¬ ∀ f ∈ F, faceOk n f
    · rw [if_pos h2] at h; cases h
    · exact ⟨by omega, by omega, Decidable.not_not.1 h2⟩
theorem ok_of {P : List Pt} {W : Int} {F : List (List Int)} (h : objOk P W F) : OkObj P W F ∧ P ≠ [] ∧ F ≠ [] := by
  obtain ⟨h1, h2, h3, h4, h5, h6, h7, h8⟩ := h
  obtain ⟨_, _, hk⟩ := kind_faces h5
  refine ⟨⟨h4, h2, h3, fun f hf => ⟨by have := h7 f hf; have := (hk f hf).1; omega, fun i hi => (hk f hf).2.1 i hi⟩⟩, ?_, h1⟩
  intro hP
  subst hP
  cases F with
  | nil => exact h1 rfl
  | cons f F =>
    have hf := hk f (by simp)
    cases f with
    | nil => have := hf.1; simp at this
    | cons i f => have := hf.2.1 i (by simp); simp at this; omega
theorem tok_sub (l : List Int) : ∀ (p : Int) (s : TM) (Q : Int → Prop), (∀ c ∈ l, Q c) → (∀ f a, s = .word f a → ∀ c ∈ a, Q c) → ∀ x ∈ tok l p s, ∀ c ∈ x.2, Q c := by
  induction l with
  | nil =>
    intro p s Q _ hs x hx
    cases s with
    | out => simp [tok] at hx
    | com => simp [tok] at hx
    | word f a => simp only [tok, List.mem_singleton] at hx; subst hx; exact hs f a rfl
  | cons c l ih =>
    intro p s Q hl hs x hx
    have hc := hl c (by simp)
    have hl' : ∀ d ∈ l, Q d := fun d hd => hl d (by simp [hd])
    cases s with
    | com =>
      simp only [tok] at hx
      refine ih _ _ Q hl' (fun f a h => ?_) x hx
      split at h <;> cases h
    | out =>
      simp only [tok] at hx
      split at hx
      · exact ih _ _ Q hl' (fun f a h => by cases h) x hx
      · split at hx
        · exact ih _ _ Q hl' (fun f a h => by cases h) x hx
        · refine ih _ _ Q hl' (fun f a h => ?_) x hx
          cases h
          intro d hd
          rw [List.mem_singleton.1 hd]; exact hc
    | word f a =>
      simp only [tok] at hx
      split at hx
      · rcases List.mem_cons.1 hx with rfl | hx
        · exact hs f a rfl
        · exact ih _ _ Q hl' (fun f a h => by cases h) x hx
      · refine ih _ _ Q hl' (fun f' a' h => ?_) x hx
        cases h
        intro d hd
        rcases List.mem_append.1 hd with hd | hd
        · exact hs f a rfl d hd
        · rw [List.mem_singleton.1 hd]; exact hc
theorem toks_txt {l : List Int} (hl : Bytes l) : (toks l).map txt = (tok l 0 .out).map (·.2) := by
  unfold toks
  rw [List.map_map]
  refine List.map_congr_left (fun x hx => ?_)
  exact bytesOf_str (tok_sub l 0 .out _ hl (fun f a h => by cases h) x hx)
theorem text_words (P : List Pt) (W : Int) (F : List (List Int)) : (toks (bI (textOf P W F))).map txt = (rowsW P W F).flatten := by
  rw [toks_txt (bytes_bI _), textOf_cat]
  have := tok_cat (pairsW P W F) (good_pairs P W F) 0 []
  rw [List.append_nil] at this
  rw [this, tok, List.append_nil, tokW_words, pairs_words]
theorem flat_len {α : Type} {L : List (List α)} {m : Nat} (h : ∀ r ∈ L, r.length ≤ m) : L.flatten.length ≤ L.length * m := by
  induction L with
  | nil => simp
  | cons r L ih =>
    have h1 := h r (by simp)
    have h2 := ih (fun x hx => h x (by simp [hx]))
    simp only [List.flatten_cons, List.length_append, List.length_cons]
    rw [Nat.succ_mul]
    omega
theorem text_len {P : List Pt} {W : Int} {F : List (List Int)} (hok : OkObj P W F) (hP : P.length ≤ 1048576) : (textOf P W F).length ≤ (P.length + F.length) * 200 := by
  obtain ⟨h1, h2, h3, h4⟩ := hok
  have hrow : ∀ r ∈ (rowsOf P W F).map rowText, r.length ≤ 200 := by
    intro r hr
    obtain ⟨x, hx, rfl⟩ := List.mem_map.1 hr
    rcases List.mem_append.1 hx with hx | hx
    · obtain ⟨p, hp, rfl⟩ := List.mem_map.1 hx
      have hf := h1 p hp
      unfold fitsP at hf
      have := rowT_len [118] [p.f0, p.f1, 0, W] (by
        intro y hy
        simp only [List.mem_cons, List.not_mem_nil, or_false] at hy
        rcases hy with rfl | rfl | rfl | rfl <;> omega)
      simp only [List.map_cons, List.map_nil, List.length_cons, List.length_nil] at this ⊢
      omega
    · obtain ⟨f, hf, rfl⟩ := List.mem_map.1 hx
      have hff := h4 f hf
      have := rowT_len [102] (f.map (· + 1)) (by
        intro y hy
        obtain ⟨i, hi, rfl⟩ := List.mem_map.1 hy
        have := hff.2 i hi
        unfold InP at this
        omega)
      rw [List.map_map] at this
      simp only [List.length_cons, List.length_nil, List.length_map] at this
      have e : (rowText ([102] :: f.map (fun i => Lib.itoa (i + 1)))).length = (rowText ([102] :: List.map (Lib.itoa ∘ fun x => x + 1) f)).length := rfl
      rw [e]
      have := hff.1
      omega
  unfold textOf
  rw [List.flatMap_def]
  have := flat_len hrow
  have hl : ((rowsOf P W F).map rowText).length = P.length + F.length := by simp [rowsOf]
  rw [hl] at this
  exact this
/-- What was written is read as it was. -/
theorem read_text {P : List Pt} {W : Int} {F : List (List Int)} (hok : objOk P W F) (hl : (textOf P W F).length ≤ 1048576) : object_Read.f (bI (textOf P W F)) = some (P, W, F, 0, 0) := by
  obtain ⟨h1, hP, _⟩ := ok_of hok
  have hlen : (bI (textOf P W F)).length ≤ 1048576 := by unfold bI; rw [List.length_map]; exact hl
  unfold object_Read.f
  rw [if_pos hlen]
  simp only
  rw [loop_all h1 hP _ (text_words P W F)]
  simp only
  rw [if_neg (by simp), if_pos hok]
theorem write_ok {P : List Pt} {W : Int} {F : List (List Int)} (hs : small_obj P F) (hok : objOk P W F) : object_Write.f P W F = some (⟨(textOf P W F).toArray⟩, 0) := by
  unfold object_Write.f; rw [if_pos hs, if_pos hok]
theorem write_no {P : List Pt} {W : Int} {F : List (List Int)} (hs : small_obj P F) (hok : ¬ objOk P W F) : object_Write.f P W F = some (⟨#[]⟩, 2) := by
  unfold object_Write.f; rw [if_pos hs, if_neg hok]
theorem conv_ok {s : ByteArray} (h : s.size ≤ 140737488355328) : conv_bytes.f s = some (bytesOf s) := by unfold conv_bytes.f; rw [if_pos h]
/-! ### the chapter's example -/
def exP : List Pt := [⟨0, 0⟩, ⟨4, 0⟩, ⟨0, 4⟩]
def exF : List (List Int) := [[0, 1, 2]]
theorem ex_ok : objOk exP 2 exF := by decide
theorem ex_small : small_obj exP exF := by decide
theorem it1 {n : Nat} (h : n < 10) : Lib.itoa (n : Int) = [UInt8.ofNat (48 + n)] := by rw [Lib.itoa_nonneg, Lib.decDigits_one h]
theorem ex_text : textOf exP 2 exF = [118, 32, 48, 32, 48, 32, 48, 32, 50, 10, 118, 32, 52, 32, 48, 32, 48, 32, 50, 10, 118, 32, 48, 32, 52, 32, 48, 32, 50, 10, 102, 32, 49, 32, 50, 32, 51, 10] := by
  have h0 : Lib.itoa 0 = [48] := it1 (n := 0) (by decide)
  have h1 : Lib.itoa 1 = [49] := it1 (n := 1) (by decide)
  have h2 : Lib.itoa 2 = [50] := it1 (n := 2) (by decide)
  have h3 : Lib.itoa 3 = [51] := it1 (n := 3) (by decide)
  have h4 : Lib.itoa 4 = [52] := it1 (n := 4) (by decide)
  simp [textOf, rowsOf, exP, exF, rowText, h0, h1, h2, h3, h4]
theorem ex_bad1 : object_Read.f (bytesOf ⟨#[118, 32, 48, 32, 48, 32, 48, 32, 50, 32, 120]⟩) = some ([], 0, [], 10, 11) := by kernel_rfl
theorem ex_bad2 : object_Read.f (bytesOf ⟨#[102, 32, 49, 32, 50, 32, 51]⟩) = some ([], 0, [], 2, 10) := by kernel_rfl
theorem check_ev (P : List Pt) (W : Int) (F : List (List Int)) (hs : small_obj P F) : Ev (fun k => object_Check.f k P W F) (if objOk P W F then 0 else 2) := by
  obtain ⟨k, hk⟩ := check_spec P W F hs
  exact Ev.of (object_Check.mono P W F) hk
theorem known_ev : Ev (fun k => parquetlaw21_known.f k) true := by
  have e1 : object_Write.f exP 2 exF = some (⟨(textOf exP 2 exF).toArray⟩, 0) := write_ok ex_small ex_ok
  have e2 : object_Read.f (bytesOf ⟨(textOf exP 2 exF).toArray⟩) = some (exP, 2, exF, 0, 0) := read_text ex_ok (by rw [ex_text]; decide)
  have e3 : conv_bytes.f ⟨(textOf exP 2 exF).toArray⟩ = some (bytesOf ⟨(textOf exP 2 exF).toArray⟩) := conv_ok (by rw [ex_text]; decide)
  have e4 : conv_const.f (⟨#[118, 32, 48, 32, 48, 32, 48, 32, 50, 32, 120]⟩ : ByteArray) = some (bytesOf ⟨#[118, 32, 48, 32, 48, 32, 48, 32, 50, 32, 120]⟩) := conv_ok (by decide)
  have e5 : conv_const.f (⟨#[102, 32, 49, 32, 50, 32, 51]⟩ : ByteArray) = some (bytesOf ⟨#[102, 32, 49, 32, 50, 32, 51]⟩) := conv_ok (by decide)
  have e6 : (⟨(textOf exP 2 exF).toArray⟩ : ByteArray).toList = [118, 32, 48, 32, 48, 32, 48, 32, 50, 10, 118, 32, 52, 32, 48, 32, 48, 32, 50, 10, 118, 32, 48, 32, 52, 32, 48, 32, 50, 10, 102, 32, 49, 32, 50, 32, 51, 10] := by
    rw [ByteArray.toList_eq, ex_text]
  have hno : ¬ objOk exP 1 [] := fun h => h.1 rfl
  have hch := check_ev exP 1 [] (by decide)
  rw [if_neg hno] at hch
  have hsame := same_ev exP 2 exF (by decide) (by decide) (by decide)
  refine Ev.congr (f := fun k => (parquetref21_Same.f k exP 2 exF exP 2 exF).bind fun t179 => if t179 = true then (object_Check.f k exP 1 ([] : List (List Int))).bind fun t180 => some (t180 == 2) else none) (fun k => ?_) ?_
  · show parquetlaw21_known.f k = _
    unfold parquetlaw21_known.f
    simp only [Option.bind_some]
    rw [show ([(⟨0, 0⟩ : Pt), (⟨4, 0⟩ : Pt), (⟨0, 4⟩ : Pt)] : List Pt) = exP from rfl, show ([[0, 1, 2]] : List (List Int)) = exF from rfl, e1]
    simp only [Option.bind_some]
    rw [e3]
    simp only [Option.bind_some]
    rw [e2]
    simp only [Option.bind_some]
    rw [e4]
    simp only [Option.bind_some]
    rw [ex_bad1]
    simp only [Option.bind_some]
    rw [e5]
    simp only [Option.bind_some]
    rw [ex_bad2]
    simp only [Option.bind_some]
    rw [if_pos e6]
    simp
  · refine Ev.bind hsame ?_
    simp only [if_true]
    refine Ev.bind hch ?_
    exact Ev.now true
end Go.Proofs.YtbmgajddhfjchaaDoor.Obj
namespace Go.Proofs.YtbmgajddhfjchaaDoor.Obj
open Go.RowKit Go.Deep Go.ChangeShapes Go.WideShapes Go.Proofs.YtbmgajddhfjchaaDoorW.PrintWords Go.Proofs.YtbmgajddhfjchaaDoorW.PrintLast Go.Proofs.YtbmgajddhfjchaaDoorW.PrintMore

section
variable {H : Type} {enc : TypeId × Value → H} {P : Program} {w : World} {base : Nat} {spare : Nat → Bool} {held : Bool}
/-- Cells of type t that can be read are some value of the kind d, with Q. -/
def Opens {α : Type} (enc : TypeId × Value → H) (P : Program) (w : World) (base : Nat) (spare : Nat → Bool) (held : Bool) (t : TypeId) (d : Kd α) (Q : α → Prop) : Prop :=
  ∀ n cs x, DataW.trod enc P w base spare held n t cs = some x → ∃ v, d.K w v cs ∧ Q v
theorem opens_int {t : TypeId} {k : IntKind} (ht : P.underlying t = some (.int k)) : Opens enc P w base spare held t (Kd.int k) (fun z => (Lit.int k z).wf = true) := by
  intro n cs x h
  obtain ⟨z, rfl, _, hz⟩ := DataW.trod_int ht h
  exact ⟨z, rfl, hz⟩
theorem opens_slice {α : Type} {t e : TypeId} {d : Kd α} {Q : α → Prop} (ht : P.underlying t = some (.slice e)) (hc : P.cellsOf e = d.sz) (he : Opens enc P w base spare held e d Q) :
    Opens enc P w base spare held t (Kd.slice e d) (fun l => ∀ x ∈ l, Q x) := by
  intro n cs x h
  rcases open_slice ht h with ⟨rfl, _⟩ | ⟨a, len, cap, m, n', D, Pl, rfl, _, hl, hm, hmm, _, hi⟩
  · exact ⟨[], ⟨none, 0, rfl, Nat.le_refl _, rfl, by simp, fun h => by simp at h⟩, fun x hx => by simp at hx⟩
  · have hle : len ≤ m := by rw [hmm]; split <;> omega
    have hel : ∀ i : Fin len, ∃ v, (∃ c, d.K w v c ∧ ∀ j u, c[j]? = some u → w.cell? (a.add (i.1 * d.sz + j)) = some u) ∧ Q v := by
      intro i
      obtain ⟨cs', hcs, htr⟩ := hi i.1 (by have := i.2; omega)
      obtain ⟨v, hv, hq⟩ := he _ _ _ htr
      obtain ⟨_, hlen, hat⟩ := World.cells?_some hcs
      refine ⟨v, ⟨cs', hv, fun j u hj => ?_⟩, hq⟩
      have hjl := (List.getElem?_eq_some_iff.1 hj).1
      have := hat j (by omega)
      rw [hj, hc] at this
      rw [← this, Go.Deep.add_add]
    have hex : ∃ l : List α, l.length = len ∧ ∀ i v, l[i]? = some v → (∃ c, d.K w v c ∧ ∀ j u, c[j]? = some u → w.cell? (a.add (i * d.sz + j)) = some u) ∧ Q v := by
      refine ⟨(List.finRange len).map fun i => Classical.choose (hel i), by simp, fun i v hv => ?_⟩
      rw [List.getElem?_map] at hv
      obtain ⟨j, hj, rfl⟩ := Option.map_eq_some_iff.1 hv
      have hij : j.1 = i := by
        obtain ⟨h1, h2⟩ := List.getElem?_eq_some_iff.1 hj
        rw [← h2]; simp
      subst hij
      exact Classical.choose_spec (hel j)
    obtain ⟨l, hll, hlv⟩ := hex
    subst hll
    refine ⟨l, ⟨some a, cap, rfl, hl, rfl, by unfold maxLen at hm; omega, fun _ => ⟨a, rfl, fun j p hp => ?_⟩⟩, fun x hx => ?_⟩
    · obtain ⟨⟨c, hk, hcell⟩, _⟩ := hlv j p hp
      exact ⟨c, d.K_len hk, hk, hcell⟩
    · obtain ⟨i, hi, rfl⟩ := List.getElem_of_mem hx
      exact (hlv i _ (List.getElem?_eq_getElem hi)).2
theorem opens_struct2 {α β γ : Type} {t : TypeId} {f0 f1 : Field} {d0 : Kd α} {d1 : Kd β} {f : γ → α × β} {g : α × β → γ} {Q0 : α → Prop} {Q1 : β → Prop} (hfg : ∀ x, f (g x) = x) (ht : P.underlying t = some (.struct #[f0, f1])) (hc : P.cellsOf t = d0.sz + d1.sz)
    (h0 : f0.offset = 0 ∧ P.cellsOf f0.type = d0.sz) (h1 : f1.offset = d0.sz ∧ P.cellsOf f1.type = d1.sz) (o0 : Opens enc P w base spare held f0.type d0 Q0) (o1 : Opens enc P w base spare held f1.type d1 Q1) :
    Opens enc P w base spare held t (Kd.iso (Kd.pair d0 d1) f) (fun x => Q0 (f x).1 ∧ Q1 (f x).2) := by
  intro n cs x h
  obtain ⟨xs, n', _, _, hlen, hxl, hg⟩ := DataW.trod_struct ht h
  have e0 := hg 0 f0 rfl
  have e1 := hg 1 f1 rfl
  simp only [List.size_toArray, List.length_cons, List.length_nil] at hxl
  rw [List.getElem?_eq_getElem (by omega)] at e0 e1
  obtain ⟨a, ha, qa⟩ := o0 _ _ _ e0
  obtain ⟨b, hb, qb⟩ := o1 _ _ _ e1
  rw [h0.1, h0.2, List.drop_zero] at ha
  rw [h1.1, h1.2] at hb
  have e2 : (cs.drop d0.sz).take d1.sz = cs.drop d0.sz := List.take_of_length_le (by rw [List.length_drop]; omega)
  rw [e2] at hb
  refine ⟨g (a, b), ?_, ?_⟩
  · show (Kd.pair d0 d1).K w (f (g (a, b))) cs
    rw [hfg]
    exact ⟨_, _, (List.take_append_drop d0.sz cs).symm, ha, hb⟩
  · show Q0 (f (g (a, b))).1 ∧ Q1 (f (g (a, b))).2
    rw [hfg]; exact ⟨qa, qb⟩
theorem opens_struct3 {α β γ δ : Type} {t : TypeId} {f0 f1 f2 : Field} {d0 : Kd α} {d1 : Kd β} {d2 : Kd δ} {f : γ → α × β × δ} {g : α × β × δ → γ} {Q0 : α → Prop} {Q1 : β → Prop} {Q2 : δ → Prop} (hfg : ∀ x, f (g x) = x) (ht : P.underlying t = some (.struct #[f0, f1, f2])) (hc : P.cellsOf t = d0.sz + (d1.sz + d2.sz))
    (h0 : f0.offset = 0 ∧ P.cellsOf f0.type = d0.sz) (h1 : f1.offset = d0.sz ∧ P.cellsOf f1.type = d1.sz) (h2 : f2.offset = d0.sz + d1.sz ∧ P.cellsOf f2.type = d2.sz) (o0 : Opens enc P w base spare held f0.type d0 Q0) (o1 : Opens enc P w base spare held f1.type d1 Q1) (o2 : Opens enc P w base spare held f2.type d2 Q2) :
    Opens enc P w base spare held t (Kd.iso (Kd.pair d0 (Kd.pair d1 d2)) f) (fun x => Q0 (f x).1 ∧ Q1 (f x).2.1 ∧ Q2 (f x).2.2) := by
  intro n cs x h
  obtain ⟨xs, n', _, _, hlen, hxl, hg⟩ := DataW.trod_struct ht h
  have e0 := hg 0 f0 rfl
  have e1 := hg 1 f1 rfl
  have e2 := hg 2 f2 rfl
  simp only [List.size_toArray, List.length_cons, List.length_nil] at hxl
  rw [List.getElem?_eq_getElem (by omega)] at e0 e1 e2
  obtain ⟨a, ha, qa⟩ := o0 _ _ _ e0
  obtain ⟨b, hb, qb⟩ := o1 _ _ _ e1
  obtain ⟨c, hc', qc⟩ := o2 _ _ _ e2
  rw [h0.1, h0.2, List.drop_zero] at ha
  rw [h1.1, h1.2] at hb
  rw [h2.1, h2.2] at hc'
  have e3 : (cs.drop (d0.sz + d1.sz)).take d2.sz = (cs.drop d0.sz).drop d1.sz := by rw [List.drop_drop]; exact List.take_of_length_le (by rw [List.length_drop]; omega)
  rw [e3] at hc'
  refine ⟨g (a, b, c), ?_, ?_⟩
  · show (Kd.pair d0 (Kd.pair d1 d2)).K w (f (g (a, b, c))) cs
    rw [hfg]
    exact ⟨_, _, (List.take_append_drop d0.sz cs).symm, ha, _, _, (List.take_append_drop d1.sz _).symm, hb, hc'⟩
  · show Q0 (f (g (a, b, c))).1 ∧ Q1 (f (g (a, b, c))).2.1 ∧ Q2 (f (g (a, b, c))).2.2
    rw [hfg]; exact ⟨qa, qb, qc⟩
end
end Go.Proofs.YtbmgajddhfjchaaDoor.Obj
