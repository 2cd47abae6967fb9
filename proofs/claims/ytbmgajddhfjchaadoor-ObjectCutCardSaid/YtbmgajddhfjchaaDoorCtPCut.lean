/- Plain: the law ObjectCut of the printed functions. -/
import Derived.Test.YtbmgajddhfjchaaDoorCtG6
import Derived.Test.YtbmgajddhfjchaaDoorCtObjx4
import Derived.PlainAid
import Derived.OpenShut
set_option linter.unusedVariables false
set_option linter.unusedSimpArgs false
namespace Go.Proofs.YtbmgajddhfjchaaDoor.Obj
open Go.RowKit Go.Proofs.YtbmgajddhfjchaaDoorW.PrintWords Go.Proofs.YtbmgajddhfjchaaDoorW.PrintLast Go.Proofs.YtbmgajddhfjchaaDoorW.PrintMore

theorem known_some' : Ev (fun k => (parquetlaw21_known.f k).bind fun t => some t) true := Ev.bind known_ev (Ev.now true)
theorem dec_row {α β : Type} (g : α → List β) : ∀ (L : List α) (k : Nat), k < (L.map g).flatten.length → ∃ A x B j, L = A ++ x :: B ∧ j < (g x).length ∧ k = (A.map g).flatten.length + j := by
  intro L
  induction L with
  | nil => intro k hk; simp at hk
  | cons y L ih =>
    intro k hk
    by_cases h : k < (g y).length
    · exact ⟨[], y, L, k, rfl, h, by simp⟩
    · simp only [List.map_cons, List.flatten_cons, List.length_append] at hk
      obtain ⟨A, x, B, j, rfl, hj, hkj⟩ := ih (k - (g y).length) (by omega)
      exact ⟨y :: A, x, B, j, rfl, hj, by simp only [List.map_cons, List.flatten_cons, List.length_append]; omega⟩
theorem fl_len {L : List (List (List Int))} (h : ∀ r ∈ L, r ≠ []) : L.length ≤ L.flatten.length := by
  induction L with
  | nil => simp
  | cons r L ih =>
    have := ih (fun x hx => h x (by simp [hx]))
    have h0 := List.length_pos_iff.2 (h r (by simp))
    simp only [List.flatten_cons, List.length_append, List.length_cons]
    omega
def BadTok (t : Tok) : Prop := txt t ≠ [118] ∧ txt t ≠ [102]
def Rest (j : Nat) (rest : List Tok) : Prop := (∃ b r, rest = b :: r ∧ BadTok b) ∨ (rest = [] ∧ 0 < j)
/-- A place's row that is broken off at its word j. -/
theorem err_v {end_ W : Int} {p : Pt} {o : RO} {ts rest : List Tok} {j k : Nat} (hp : fitsP p) (hj : j < 5) (hts : ts.map txt = (vWords W p).take j) (hb : NotNum end_ rest) (hr : Rest j rest) (hF : o.F = []) :
    Er (rloop end_ (k + 1) ⟨ts ++ rest, 0, 0⟩ o).1 ((RS.mk rest 0 0).peek end_).f0 := by
  unfold fitsP at hp
  match j, hj, hts, hr with
  | 0, _, hts, hr =>
    obtain rfl : ts = [] := by simpa using hts
    rcases hr with ⟨b, r, rfl, hbad⟩ | ⟨_, h⟩
    · exact loop_bad (fun h => absurd h hbad.1) hbad.2
    · omega
  | 1, _, hts, _ =>
    simp only [vWords, List.take_succ_cons, List.take_zero] at hts
    obtain ⟨t0, ts, rfl, h0, hts⟩ := List.map_eq_cons_iff.1 hts
    obtain rfl : ts = [] := by simpa using hts
    simp only [List.cons_append, List.nil_append]
    rw [loop_v h0 hF]
    exact loop_er (place_bad0 hb)
  | 2, _, hts, _ =>
    simp only [vWords, List.take_succ_cons, List.take_zero] at hts
    obtain ⟨t0, ts, rfl, h0, hts⟩ := List.map_eq_cons_iff.1 hts
    obtain ⟨t1, ts, rfl, h1, hts⟩ := List.map_eq_cons_iff.1 hts
    obtain rfl : ts = [] := by simpa using hts
    simp only [List.cons_append, List.nil_append]
    rw [loop_v h0 hF]
    exact loop_er (place_bad1 ⟨hp.1, hp.2.1⟩ h1 hb)
  | 3, _, hts, _ =>
    simp only [vWords, List.take_succ_cons, List.take_zero] at hts
    obtain ⟨t0, ts, rfl, h0, hts⟩ := List.map_eq_cons_iff.1 hts
    obtain ⟨t1, ts, rfl, h1, hts⟩ := List.map_eq_cons_iff.1 hts
    obtain ⟨t2, ts, rfl, h2, hts⟩ := List.map_eq_cons_iff.1 hts
    obtain rfl : ts = [] := by simpa using hts
    simp only [List.cons_append, List.nil_append]
    rw [loop_v h0 hF]
    exact loop_er (place_bad2 ⟨hp.1, hp.2.1⟩ h1 hp.2.2 h2 hb)
  | 4, _, hts, _ =>
    simp only [vWords, List.take_succ_cons, List.take_zero] at hts
    obtain ⟨t0, ts, rfl, h0, hts⟩ := List.map_eq_cons_iff.1 hts
    obtain ⟨t1, ts, rfl, h1, hts⟩ := List.map_eq_cons_iff.1 hts
    obtain ⟨t2, ts, rfl, h2, hts⟩ := List.map_eq_cons_iff.1 hts
    obtain ⟨t3, ts, rfl, h3, hts⟩ := List.map_eq_cons_iff.1 hts
    obtain rfl : ts = [] := by simpa using hts
    simp only [List.cons_append, List.nil_append]
    rw [loop_v h0 hF]
    exact loop_er (place_bad3 ⟨hp.1, hp.2.1⟩ h1 hp.2.2 h2 h3 hb)
/-- A face's row that is broken off at its word j. -/
theorem err_f {end_ : Int} {f : List Int} {o : RO} {ts rest : List Tok} {j k : Nat} (hf : (f.length = 3 ∨ f.length = 4) ∧ ∀ i ∈ f, InP o.P.length i) (hj : j < f.length + 1) (hts : ts.map txt = (fWords f).take j) (hb : NotNum end_ rest) (hr : Rest j rest) (h4 : j = 4 → rest ≠ []) :
    Er (rloop end_ (k + 2) ⟨ts ++ rest, 0, 0⟩ o).1 ((RS.mk rest 0 0).peek end_).f0 := by
  obtain ⟨a, b, c, g, rfl⟩ : ∃ a b c g, f = a :: b :: c :: g := by
    match f, hf.1 with
    | a :: b :: c :: g, _ => exact ⟨a, b, c, g, rfl⟩
    | [], h => simp at h
    | [_], h => simp at h
    | [_, _], h => simp at h
  have ha := hf.2 a (by simp)
  have hb' := hf.2 b (by simp)
  have hc := hf.2 c (by simp)
  have hj5 : j < 5 := by have := hf.1; omega
  match j, hj5, hts, hr, h4, hj with
  | 0, _, hts, hr, _, _ =>
    obtain rfl : ts = [] := by simpa using hts
    rcases hr with ⟨b, r, rfl, hbad⟩ | ⟨_, h⟩
    · exact loop_bad (fun h => absurd h hbad.1) hbad.2
    · omega
  | 1, _, hts, _, _, _ =>
    simp only [fWords, List.map_cons, List.take_succ_cons, List.take_zero] at hts
    obtain ⟨t0, ts, rfl, h0, hts⟩ := List.map_eq_cons_iff.1 hts
    obtain rfl : ts = [] := by simpa using hts
    simp only [List.cons_append, List.nil_append]
    rw [loop_f h0]
    exact loop_er (face_bad0 hb)
  | 2, _, hts, _, _, _ =>
    simp only [fWords, List.map_cons, List.take_succ_cons, List.take_zero] at hts
    obtain ⟨t0, ts, rfl, h0, hts⟩ := List.map_eq_cons_iff.1 hts
    obtain ⟨t1, ts, rfl, h1, hts⟩ := List.map_eq_cons_iff.1 hts
    obtain rfl : ts = [] := by simpa using hts
    simp only [List.cons_append, List.nil_append]
    rw [loop_f h0]
    exact loop_er (face_bad1 ha h1 hb)
  | 3, _, hts, _, _, _ =>
    simp only [fWords, List.map_cons, List.take_succ_cons, List.take_zero] at hts
    obtain ⟨t0, ts, rfl, h0, hts⟩ := List.map_eq_cons_iff.1 hts
    obtain ⟨t1, ts, rfl, h1, hts⟩ := List.map_eq_cons_iff.1 hts
    obtain ⟨t2, ts, rfl, h2, hts⟩ := List.map_eq_cons_iff.1 hts
    obtain rfl : ts = [] := by simpa using hts
    simp only [List.cons_append, List.nil_append]
    rw [loop_f h0]
    exact loop_er (face_bad2 ha h1 hb' h2 hb)
  | 4, _, hts, hr, h4, _ =>
    simp only [fWords, List.map_cons, List.take_succ_cons, List.take_zero] at hts
    obtain ⟨t0, ts, rfl, h0, hts⟩ := List.map_eq_cons_iff.1 hts
    obtain ⟨t1, ts, rfl, h1, hts⟩ := List.map_eq_cons_iff.1 hts
    obtain ⟨t2, ts, rfl, h2, hts⟩ := List.map_eq_cons_iff.1 hts
    obtain ⟨t3, ts, rfl, h3, hts⟩ := List.map_eq_cons_iff.1 hts
    obtain rfl : ts = [] := by simpa using hts
    simp only [List.cons_append, List.nil_append]
    rw [loop_f h0, face_ok3 ha hb' hc h1 h2 h3 hb]
    rcases hr with ⟨b, r, rfl, hbad⟩ | ⟨h, _⟩
    · exact loop_bad (fun h => absurd h hbad.1) hbad.2
    · exact absurd h (h4 rfl)
/-- Whatever place a text is broken off at. -/
theorem err_all {P : List Pt} {W : Int} {F : List (List Int)} (hok : OkObj P W F) (hP : P ≠ []) {kk : Nat} (hkk : kk < (rowsW P W F).flatten.length) : ∃ (r : List (List Int)) (j : Nat), j < r.length ∧ j ≤ kk ∧ (∀ m, m ≤ j → (rowsW P W F).flatten[kk - j + m]? = r[m]?) ∧ (r.head? = some [118] ∨ r.head? = some [102]) ∧ (∀ m, 0 < m → m < r.length → ∃ n, r[m]? = some (itI n)) ∧
    ∀ (end_ : Int) (ts rest : List Tok), ts.map txt = (rowsW P W F).flatten.take kk → NotNum end_ rest → Rest j rest → (j = 4 ∧ r.head? = some [102] → rest ≠ []) → Er (rloop end_ (ts ++ rest).length ⟨ts ++ rest, 0, 0⟩ ⟨[], 0, []⟩).1 ((RS.mk rest 0 0).peek end_).f0 := by
  obtain ⟨h1, h2, h3, h4⟩ := hok
  rw [rowsW, List.flatten_append] at hkk ⊢
  have hvne : ∀ (A : List Pt), ∀ r ∈ A.map (vWords W), r ≠ [] := fun A r hr => by obtain ⟨p, _, rfl⟩ := List.mem_map.1 hr; simp [vWords]
  have hfne : ∀ (A : List (List Int)), ∀ r ∈ A.map fWords, r ≠ [] := fun A r hr => by obtain ⟨p, _, rfl⟩ := List.mem_map.1 hr; simp [fWords]
  by_cases hc : kk < ((P.map (vWords W)).flatten).length
  · obtain ⟨A, p, B, j, rfl, hj, hk⟩ := dec_row (vWords W) P kk hc
    have hj5 : j < 5 := by simpa [vWords] using hj
    have hfl : (((A ++ p :: B).map (vWords W)).flatten ++ (F.map fWords).flatten) = (A.map (vWords W)).flatten ++ (vWords W p ++ ((B.map (vWords W)).flatten ++ (F.map fWords).flatten)) := by simp
    rw [hfl]
    refine ⟨vWords W p, j, hj, by omega, fun m hm => ?_, .inl rfl, fun m hm0 hm => ?_, ?_⟩
    · rw [List.getElem?_append_right (by omega), List.getElem?_append_left (by omega)]
      congr 1; omega
    · have hm5 : m < 5 := by simpa [vWords] using hm
      match m, hm0, hm5 with
      | 1, _, _ => exact ⟨_, rfl⟩
      | 2, _, _ => exact ⟨_, rfl⟩
      | 3, _, _ => exact ⟨_, rfl⟩
      | 4, _, _ => exact ⟨_, rfl⟩
    · intro end_ ts rest hts hb hr _
      rw [hk, List.take_length_add_append, List.take_append_of_le_length (by omega)] at hts
      obtain ⟨ta, tb, rfl, hta, htb⟩ := List.map_eq_append_iff.1 hts
      have hla := fl_len (hvne A)
      rw [← hta, List.length_map, List.length_map] at hla
      have hlr : 0 < tb.length + rest.length := by
        rcases hr with ⟨b, r, rfl, _⟩ | ⟨_, h0⟩
        · simp; omega
        · have := congrArg List.length htb
          rw [List.length_map, List.length_take] at this
          omega
      obtain ⟨k, hkl⟩ : ∃ k, ((ta ++ tb) ++ rest).length = A.length + (k + 1) := ⟨ta.length + tb.length + rest.length - A.length - 1, by simp only [List.length_append]; omega⟩
      rw [hkl, List.append_assoc, loop_P h2 h3 A (fun q hq => h1 q (by simp [hq])) ta (tb ++ rest) _ _ hta rfl (.inl rfl)]
      refine err_v (h1 p (by simp)) hj5 htb hb hr ?_
      split <;> rfl
  · obtain ⟨A, f, B, j, rfl, hj, hk⟩ := dec_row fWords F (kk - ((P.map (vWords W)).flatten).length) (by rw [List.length_append] at hkk; omega)
    have hff := h4 f (by simp)
    have hfl : ((P.map (vWords W)).flatten ++ ((A ++ f :: B).map fWords).flatten) = ((P.map (vWords W)).flatten ++ (A.map fWords).flatten) ++ (fWords f ++ (B.map fWords).flatten) := by simp
    rw [hfl]
    have hkl : kk = ((P.map (vWords W)).flatten ++ (A.map fWords).flatten).length + j := by rw [List.length_append]; omega
    refine ⟨fWords f, j, hj, by omega, fun m hm => ?_, .inr rfl, fun m hm0 hm => ?_, ?_⟩
    · rw [List.getElem?_append_right (by omega), List.getElem?_append_left (by omega)]
      congr 1; omega
    · obtain ⟨m, rfl⟩ : ∃ m', m = m' + 1 := ⟨m - 1, by omega⟩
      simp only [fWords, List.length_cons, List.length_map] at hm
      exact ⟨f[m]'(by omega) + 1, by simp [fWords, show m < f.length by omega]⟩
    · intro end_ ts rest hts hb hr h4'
      rw [hkl, List.take_length_add_append, List.take_append_of_le_length (by omega)] at hts
      obtain ⟨tpa, tb, rfl, htpa, htb⟩ := List.map_eq_append_iff.1 hts
      obtain ⟨tp, ta, rfl, htp, hta⟩ := List.map_eq_append_iff.1 htpa
      have hlp := fl_len (hvne P)
      rw [← htp, List.length_map, List.length_map] at hlp
      have hla := fl_len (hfne A)
      rw [← hta, List.length_map, List.length_map] at hla
      have hP0 := List.length_pos_iff.2 hP
      have hlp5 : P.length + 1 ≤ tp.length := by
        have : ((P.map (vWords W)).flatten).length = P.length * 5 := by
          clear hkk hc hkl hk hlp htp hts hfl hfne hvne h1 h4 hff htpa hP hP0 h4'
          induction P with
          | nil => rfl
          | cons q P ih => simp only [List.map_cons, List.flatten_cons, List.length_append, ih, List.length_cons, vWords, List.length_nil]; omega
        have e := congrArg List.length htp
        rw [List.length_map, this] at e
        omega
      have hlr : 0 < tb.length + rest.length := by
        rcases hr with ⟨b, r, rfl, _⟩ | ⟨_, h0⟩
        · simp; omega
        · have := congrArg List.length htb
          rw [List.length_map, List.length_take] at this
          omega
      obtain ⟨k, hkl2⟩ : ∃ k, (((tp ++ ta) ++ tb) ++ rest).length = P.length + (A.length + (k + 2)) := ⟨tp.length + ta.length + tb.length + rest.length - A.length - P.length - 2, by simp only [List.length_append]; omega⟩
      rw [hkl2, show ((tp ++ ta) ++ tb) ++ rest = tp ++ (ta ++ (tb ++ rest)) by simp, loop_P h2 h3 P h1 tp _ _ _ htp rfl (.inl rfl), if_neg hP]
      have hnn : NotNum end_ (tb ++ rest) := by
        cases j with
        | zero =>
          obtain rfl : tb = [] := by simpa using htb
          exact hb
        | succ j =>
          simp only [fWords, List.take_succ_cons] at htb
          obtain ⟨t0, tb', rfl, h0, _⟩ := List.map_eq_cons_iff.1 htb
          exact notNum_f h0
      rw [loop_F A ta (tb ++ rest) _ { P := [] ++ P, W := W, F := [] } (fun g hg => by have := h4 g (by simp [hg]); simpa using this) hta hnn]
      exact err_f (by simpa using hff) (by simpa [fWords] using hj) htb hb hr (fun h => h4' ⟨h, rfl⟩)
/-! ### what is read -/
theorem read_err {l : List Int} {p : Int} (hl : l.length ≤ 1048576) (h : Er (rloop (l.length : Int) (toks l).length ⟨toks l, 0, 0⟩ ⟨[], 0, []⟩).1 p) : object_Read.f l = some ([], 0, [], p, 11) := by
  unfold object_Read.f
  rw [if_pos hl]
  simp only
  rw [if_pos (by rw [h.1]; decide), h.1, h.2]
theorem tokW_get (l : List (List Int × List Int)) : ∀ (p : Int) (k : Nat) (h : k < l.length), (tokW p l)[k]? = some (p + ((catW (l.take k)).length : Int), (l[k]).1) := by
  induction l with
  | nil => intro p k h; simp at h
  | cons x l ih =>
    intro p k h
    cases k with
    | zero => simp [tokW, catW]
    | succ k =>
      simp only [tokW, List.getElem?_cons_succ, List.take_succ_cons, List.getElem_cons_succ]
      rw [ih _ k (by simpa using h)]
      congr 2
      simp only [catW, List.flatMap_cons, List.length_append]
      omega
theorem bytesOf_extract (s : ByteArray) (a b : Nat) : bytesOf (s.extract a b) = ((bytesOf s).take b).drop a := by
  unfold bytesOf
  rw [ByteArray.data_extract, Array.toList_extract, List.extract_eq_take_drop, ← List.drop_take, List.map_drop, List.map_take]
theorem bytesOf_append (a b : ByteArray) : bytesOf (a ++ b) = bytesOf a ++ bytesOf b := by
  unfold bytesOf
  simp
def badL : List ByteArray := [⟨#[120]⟩, ⟨#[49, 46, 53]⟩, ⟨#[45, 45, 49]⟩, ⟨#[48, 49]⟩, ⟨#[118, 118]⟩, ⟨#[45, 48]⟩]
theorem bad_ok : ∀ b ∈ badL, Clean (bytesOf b) ∧ (∀ m, tokNum (bytesOf b) m = (0, 11)) ∧ bytesOf b ≠ [118] ∧ bytesOf b ≠ [102] ∧ b.size ≤ 3 := by
  intro b hb
  simp only [badL, List.mem_cons, List.not_mem_nil, or_false] at hb
  rcases hb with rfl | rfl | rfl | rfl | rfl | rfl
  all_goals
    refine ⟨⟨by decide, by decide, by decide⟩, fun m => ?_, by decide, by decide, by decide⟩
  · show tokNum [120] m = _; simp [tokNum, numLoop]
  · show tokNum [49, 46, 53] m = _; simp [tokNum, numLoop]
  · show tokNum [45, 45, 49] m = _; simp [tokNum, numLoop]
  · show tokNum [48, 49] m = _; simp [tokNum]
  · show tokNum [118, 118] m = _; simp [tokNum, numLoop]
  · show tokNum [45, 48] m = _; simp [tokNum]
section
variable {P : List Pt} {W : Int} {F : List (List Int)}
theorem pairs_len : (pairsW P W F).length = (rowsW P W F).flatten.length := by
  have := congrArg List.length (pairs_words P W F)
  simpa using this
theorem take_words (kk : Nat) : ((pairsW P W F).take kk).map (·.1) = (rowsW P W F).flatten.take kk := by
  rw [← pairs_words, List.map_take]
theorem good_take (kk : Nat) : Good ((pairsW P W F).take kk) := fun x hx => good_pairs P W F x (List.mem_of_mem_take hx)
theorem cat_split {kk : Nat} (hkk : kk < (pairsW P W F).length) : catW (pairsW P W F) = catW ((pairsW P W F).take kk) ++ ((pairsW P W F)[kk].1 ++ ((pairsW P W F)[kk].2 ++ catW ((pairsW P W F).drop (kk + 1)))) := by
  have e : pairsW P W F = (pairsW P W F).take kk ++ ((pairsW P W F)[kk] :: (pairsW P W F).drop (kk + 1)) := by rw [← List.drop_eq_getElem_cons hkk, List.take_append_drop]
  have e2 := congrArg catW e
  rw [catW_append] at e2
  rw [e2]
  simp only [catW, List.flatMap_cons, List.append_assoc]
/-- The text with another word in a word's place: the words ahead, that word, and more. -/
theorem toks_bad {kk : Nat} (hkk : kk < (pairsW P W F).length) {b : List Int} (hb : Clean b) {l : List Int} (hl : l = catW ((pairsW P W F).take kk) ++ (b ++ ((pairsW P W F)[kk].2 ++ catW ((pairsW P W F).drop (kk + 1))))) (hby : Bytes l) :
    ∃ ts t more, toks l = ts ++ (t :: more) ∧ ts.map txt = (rowsW P W F).flatten.take kk ∧ txt t = b ∧ t.f0 = ((catW ((pairsW P W F).take kk)).length : Int) := by
  obtain ⟨_, ⟨c, g, hg, hc⟩, _⟩ := good_pairs P W F _ (List.getElem_mem hkk)
  have ht : tok l 0 .out = tokW 0 ((pairsW P W F).take kk) ++ ((((catW ((pairsW P W F).take kk)).length : Int), b) :: tok (c :: (g ++ catW ((pairsW P W F).drop (kk + 1)))) (((catW ((pairsW P W F).take kk)).length : Int) + b.length) .out) := by
    rw [hl, tok_cat _ (good_take kk), hg, List.cons_append, tok_word hb _ c _ hc, Int.zero_add]
  have h1 := toks_txt hby
  unfold toks at h1 ⊢
  rw [ht, List.map_append, List.map_append, List.map_append, tokW_words, take_words] at h1
  have h2 := List.append_inj h1 (by rw [List.length_map, List.length_map, tokW_length, List.length_take, pairs_len, List.length_take])
  rw [ht, List.map_append, List.map_cons]
  refine ⟨_, _, _, rfl, h2.1, ?_, rfl⟩
  have h3 := h2.2
  simp only [List.map_cons, List.cons.injEq] at h3
  exact h3.1
theorem toks_cut {kk : Nat} (hby : Bytes (catW ((pairsW P W F).take kk))) : (toks (catW ((pairsW P W F).take kk))).map txt = (rowsW P W F).flatten.take kk := by
  have ht := tok_cat _ (good_take (P := P) (W := W) (F := F) kk) 0 []
  rw [List.append_nil, tok, List.append_nil] at ht
  rw [toks_txt hby, ht, tokW_words, take_words]
end
theorem w_sub {a b c : Nat} (h : a = b + c) (ha : a ≤ 1000000) : wrap64 ((a : Int) - (b : Int)) = (c : Int) := by rw [w64 (by omega) (by omega)]; omega
theorem w_add {a b c : Nat} (h : a + b = c) (ha : c ≤ 1000000) : wrap64 ((a : Int) + (b : Int)) = (c : Int) := by rw [w64 (by omega) (by omega)]; omega
theorem w_pred {a c : Nat} (h : a = c + 1) (ha : a ≤ 1000000) : wrap64 ((a : Int) - 1) = (c : Int) := by rw [w64 (by omega) (by omega)]; omega
theorem idx_ok (a : Int) (n : Nat) (h0 : 0 < n) (hn : n ≤ 1048576) : ∃ kk : Nat, kk < n ∧ wrap64 (Int.tmod (IntKind.u64.wrap a) (IntKind.u64.wrap (n : Int))) = (kk : Int) := by
  have hn2 : IntKind.u64.wrap (n : Int) = n := PlainAid.u64_nonneg (by omega) (by omega)
  have hu : 0 ≤ IntKind.u64.wrap a := by rw [IntKind.wrap_u64]; omega
  rw [hn2, Int.tmod_eq_emod_of_nonneg hu]
  have h1 := Int.emod_nonneg (IntKind.u64.wrap a) (show (n : Int) ≠ 0 by omega)
  have h2 := Int.emod_lt_of_pos (IntKind.u64.wrap a) (show (0 : Int) < n by omega)
  refine ⟨(IntKind.u64.wrap a % (n : Int)).toNat, by omega, ?_⟩
  rw [w64 (by omega) (by omega)]
  omega
theorem six_ok (a : Int) (h0 : 0 ≤ a) (h1 : a ≤ 255) : ∃ i : Nat, i < 6 ∧ wrap64 (Int.tmod a 6) = (i : Int) := by
  rw [Int.tmod_eq_emod_of_nonneg h0]
  exact ⟨(a % 6).toNat, by omega, by rw [w64 (by omega) (by omega)]; omega⟩
section
variable {P : List Pt} {W : Int} {F : List (List Int)}
def txtT (P : List Pt) (W : Int) (F : List (List Int)) : ByteArray := ⟨(textOf P W F).toArray⟩
theorem txtT_cat : bytesOf (txtT P W F) = catW (pairsW P W F) := by unfold txtT; rw [bytesOf_bI, textOf_cat]
theorem txtT_words : (toks (bytesOf (txtT P W F))).map txt = (rowsW P W F).flatten := by unfold txtT; rw [bytesOf_bI, text_words]
theorem txtT_toks : toks (bytesOf (txtT P W F)) = (tokW 0 (pairsW P W F)).map toTok := by
  rw [txtT_cat]
  have := tok_cat (pairsW P W F) (good_pairs P W F) 0 []
  rw [List.append_nil, tok, List.append_nil] at this
  unfold toks
  rw [this]
set_option maxHeartbeats 1000000 in
theorem cut_ev (hok : objOk P W F) (hP : P.length ≤ 150) (hF : F.length ≤ 200) (a1 a2 : Int) (h2 : 0 ≤ a2 ∧ a2 ≤ 255) : Ev (fun k => parquetlaw21_ObjectCut.j0 k a1 a2 (txtT P W F) (toks (bytesOf (txtT P W F))) false) true := by
  obtain ⟨hko, hPne, hFne⟩ := ok_of hok
  have htl := text_len hko (by omega)
  have hsz : (txtT P W F).size ≤ 70000 := by show (textOf P W F).toArray.size ≤ _; rw [List.size_toArray]; omega
  have hbl : (bytesOf (txtT P W F)).length = (txtT P W F).size := bytesOf_length _
  obtain ⟨tk, htk⟩ : ∃ tk, toks (bytesOf (txtT P W F)) = tk := ⟨_, rfl⟩
  have hww : tk.map txt = (rowsW P W F).flatten := by rw [← htk]; exact txtT_words
  have hnl : tk.length = (rowsW P W F).flatten.length := by rw [← hww, List.length_map]
  have hnp : tk.length = (pairsW P W F).length := by rw [hnl, pairs_len]
  have hn1 : 0 < tk.length := by
    have := fl_len (L := rowsW P W F) (by
      intro r hr
      rcases List.mem_append.1 hr with hr | hr
      · obtain ⟨p, _, rfl⟩ := List.mem_map.1 hr; simp [vWords]
      · obtain ⟨f, _, rfl⟩ := List.mem_map.1 hr; simp [fWords])
    have h0 := List.length_pos_iff.2 hPne
    have h3 : (rowsW P W F).length = P.length + F.length := by simp [rowsW]
    omega
  have hn2 : tk.length ≤ 70000 := by rw [← htk]; have := toks_length (bytesOf (txtT P W F)); omega
  obtain ⟨kk, hkn, hKK⟩ := idx_ok a1 tk.length hn1 (by omega)
  obtain ⟨bi, hbi, hBI⟩ := six_ok a2 h2.1 h2.2
  have HKK := Lib.hid hKK
  have HBI := Lib.hid hBI
  clear hKK hBI
  have hkp : kk < (pairsW P W F).length := by omega
  -- the word at kk
  obtain ⟨p, hp⟩ : ∃ p, (catW ((pairsW P W F).take kk)).length = p := ⟨_, rfl⟩
  have hget : tk[kk]? = some ⟨(p : Int), strOfNums (pairsW P W F)[kk].1⟩ := by
    rw [← htk, txtT_toks, List.getElem?_map, tokW_get _ _ _ hkp, hp]
    simp [toTok]
  have hTK : rd_T40 tk (kk : Int) = ⟨(p : Int), strOfNums (pairsW P W F)[kk].1⟩ := by
    simp only [rd_T40, Int.toNat_natCast, List.getD_eq_getElem?_getD, hget, Option.getD_some]
  have hwl : (strOfNums (pairsW P W F)[kk].1).size = (pairsW P W F)[kk].1.length := by
    unfold strOfNums
    show (List.map _ _).toArray.size = _
    simp
  have hsplit := cat_split hkp
  have hlen := congrArg List.length hsplit
  simp only [List.length_append] at hlen
  rw [hp, ← txtT_cat, hbl] at hlen
  have hpend : p + (pairsW P W F)[kk].1.length ≤ (txtT P W F).size := by omega
  -- what stands ahead, and behind
  have hfirst : bytesOf ((txtT P W F).extract 0 p) = catW ((pairsW P W F).take kk) := by
    rw [bytesOf_extract, List.drop_zero, txtT_cat, hsplit, ← hp, List.take_append_of_le_length (Nat.le_refl _), List.take_of_length_le (Nat.le_refl _)]
  have hlast : bytesOf ((txtT P W F).extract (p + (pairsW P W F)[kk].1.length) (txtT P W F).size) = (pairsW P W F)[kk].2 ++ catW ((pairsW P W F).drop (kk + 1)) := by
    rw [bytesOf_extract, ← hbl, List.take_of_length_le (Nat.le_refl _), txtT_cat, hsplit, ← List.append_assoc, List.drop_append_of_le_length (by rw [List.length_append, hp]; omega), List.drop_of_length_le (by rw [List.length_append, hp]; omega), List.nil_append]
  obtain ⟨b, hb⟩ : ∃ b, rdOf ByteArray.empty badL (bi : Int) = b := ⟨_, rfl⟩
  have hbm : b ∈ badL := by
    rw [← hb]
    have hlb : bi < badL.length := by simpa [badL] using hbi
    simp only [rdOf, Int.toNat_natCast, List.getD_eq_getElem?_getD, List.getElem?_eq_getElem hlb, Option.getD_some]
    exact List.getElem_mem hlb
  obtain ⟨hbc, hbn, hb118, hb102, hbs⟩ := bad_ok b hbm
  obtain ⟨r, j, hjr, hjk, hrow, hhead, hnum, H⟩ := err_all hko hPne (kk := kk) (by omega)
  -- the broken text is told at the word
  have hbig : (((txtT P W F).extract 0 p ++ b) ++ (txtT P W F).extract (p + (pairsW P W F)[kk].1.length) (txtT P W F).size).size ≤ 140003 := by
    have e1 : ((txtT P W F).extract 0 p).size ≤ (txtT P W F).size := by rw [← bytesOf_length, bytesOf_extract, List.drop_zero, List.length_take, hbl]; omega
    have e2 : ((txtT P W F).extract (p + (pairsW P W F)[kk].1.length) (txtT P W F).size).size ≤ (txtT P W F).size := by rw [← bytesOf_length, bytesOf_extract, List.length_drop, List.length_take, hbl]; omega
    rw [ByteArray.size_append, ByteArray.size_append]
    omega
  obtain ⟨N, hN⟩ : ∃ N, ((txtT P W F).extract 0 p ++ b) ++ (txtT P W F).extract (p + (pairsW P W F)[kk].1.length) (txtT P W F).size = N := ⟨_, rfl⟩
  rw [hN] at hbig
  have hNb : bytesOf N = catW ((pairsW P W F).take kk) ++ (bytesOf b ++ ((pairsW P W F)[kk].2 ++ catW ((pairsW P W F).drop (kk + 1)))) := by
    rw [← hN, bytesOf_append, bytesOf_append, hfirst, hlast, List.append_assoc]
  obtain ⟨ts, t, more, htoks, htsw, htb, htf⟩ := toks_bad hkp hbc hNb (bytes_bytesOf _)
  have hread : object_Read.f (bytesOf N) = some ([], 0, [], (p : Int), 11) := by
    refine read_err (by rw [bytesOf_length]; omega) ?_
    rw [htoks, ← hp, ← htf]
    refine H _ ts (t :: more) htsw ?_ (.inl ⟨t, more, rfl, by rw [BadTok, htb]; exact ⟨hb118, hb102⟩⟩) (fun _ => by simp)
    intro m _
    show tokNum (txt t) m = _
    rw [htb]; exact hbn m
  have hcN : conv_bytes.f N = some (bytesOf N) := conv_ok (by omega)
  -- the row that the word stands in
  have hwat : ∀ m, m ≤ j → txt (rd_T40 tk ((kk - j + m : Nat) : Int)) = r.getD m [] := by
    intro m hm
    have h1 := hrow m hm
    rw [← hww, List.getElem?_map] at h1
    have hlt : kk - j + m < tk.length := by omega
    rw [List.getElem?_eq_getElem hlt, Option.map_some] at h1
    simp only [rd_T40, Int.toNat_natCast, List.getD_eq_getElem?_getD, List.getElem?_eq_getElem hlt, Option.getD_some, ← h1]
  have hj4 : ∀ (row : Int), row = ((kk - j : Nat) : Int) → Ev (fun k => parquetlaw21_ObjectCut.j3 k (txtT P W F) tk kk p row) true := by
    intro row hrowq
    subst hrowq
    have hj0' : Ev (fun k => parquetlaw21_ObjectCut.j4 k (txtT P W F) p true) true := Ev.step (fun k => by simp only [parquetlaw21_ObjectCut.j4]; rw [if_pos trivial]) known_some'
    by_cases hj0 : j = 0
    · refine Ev.step (fun k => ?_) hj0'
      simp only [parquetlaw21_ObjectCut.j3]
      rw [if_pos (by omega)]
    · have hcutw : Ev (fun k => parquetlaw21_ObjectCut.j4 k (txtT P W F) p false) true ∨ (j = 4 ∧ r.head? = some [102]) := by
        by_cases hjf : j = 4 ∧ r.head? = some [102]
        · exact .inr hjf
        · left
          have hb2 : bytesOf ((txtT P W F).extract 0 p) = catW ((pairsW P W F).take kk) := hfirst
          have hpl : ((txtT P W F).extract 0 p).size = p := by rw [← bytesOf_length, hb2, hp]
          have hread2 : object_Read.f (bytesOf ((txtT P W F).extract 0 p)) = some ([], 0, [], (p : Int), 11) := by
            refine read_err (by rw [bytesOf_length]; omega) ?_
            have htc := toks_cut (P := P) (W := W) (F := F) (kk := kk) (by rw [← hb2]; exact bytes_bytesOf _)
            rw [← hb2] at htc
            have := H ((bytesOf ((txtT P W F).extract 0 p)).length : Int) (toks (bytesOf ((txtT P W F).extract 0 p))) [] htc (notNum_nil _) (.inr ⟨rfl, by omega⟩) (fun h => absurd h hjf)
            rw [List.append_nil] at this
            have e : ((RS.mk [] 0 0).peek ((bytesOf ((txtT P W F).extract 0 p)).length : Int)).f0 = (p : Int) := by
              show ((bytesOf ((txtT P W F).extract 0 p)).length : Int) = p
              rw [bytesOf_length, hpl]
            rw [e] at this
            exact this
          have hcv : conv_bytes.f ((txtT P W F).extract 0 p) = some (bytesOf ((txtT P W F).extract 0 p)) := conv_ok (by omega)
          refine Ev.step (fun k => ?_) known_some'
          simp only [parquetlaw21_ObjectCut.j4]
          rw [if_neg (by simp), if_pos (by omega), if_pos (by omega), Int.toNat_natCast, hcv]
          simp only [Option.bind_some]
          rw [hread2]
          simp only [Option.bind_some, if_true]
      have hne : ¬ ((kk - j : Nat) : Int) = (kk : Int) := by omega
      have hw4 := Lib.hid (show wrap64 ((kk : Int) - ((kk - j : Nat) : Int)) = (j : Int) from w_sub (by omega) (by omega))
      by_cases hj4 : j = 4
      · have hh := hwat 0 (by omega)
        rw [Nat.add_zero] at hh
        have hr0 : r.head? = some (r.getD 0 []) := by
          cases r with
          | nil => simp at hjr
          | cons a b => rfl
        refine Ev.step (f := fun k => parquetlaw21_ObjectCut.j4 k (txtT P W F) p (((rd_T40 tk ((kk - j : Nat) : Int)).f1).toList == ([102] : List UInt8))) (fun k => ?_) ?_
        · simp only [parquetlaw21_ObjectCut.j3]
          rw [if_neg hne, hw4.out, if_pos (by omega), if_pos (by omega), if_pos (by omega)]
        · cases hq : (((rd_T40 tk ((kk - j : Nat) : Int)).f1).toList == ([102] : List UInt8)) with
          | true => exact hj0'
          | false =>
            rcases hcutw with h | ⟨_, hf⟩
            · exact h
            · have h3 := beq_eq_false_iff_ne.1 hq
              refine absurd ((str_is _ 102).2 (bytesOf_inj ?_)) h3
              show txt _ = _
              rw [hh]
              rw [hr0] at hf
              injection hf
      · rcases hcutw with h | ⟨h4, _⟩
        · refine Ev.step (fun k => ?_) h
          simp only [parquetlaw21_ObjectCut.j3]
          rw [if_neg hne, hw4.out, if_neg (by omega)]
        · exact absurd h4 hj4
  have hl0 : ∀ m, m ≤ j → Ev (fun k => parquetlaw21_ObjectCut.l0 k (txtT P W F) tk kk p ((kk - j + m : Nat) : Int)) true := by
    intro m
    induction m with
    | zero =>
      intro _
      rw [Nat.add_zero]
      by_cases h0 : ((kk - j : Nat) : Int) > 0
      · refine Ev.step (fun k => ?_) (hj4 _ rfl)
        have hh := hwat 0 (by omega)
        rw [Nat.add_zero] at hh
        have hr0 : r.head? = some (r.getD 0 []) := by
          cases r with
          | nil => simp at hjr
          | cons a b => rfl
        simp only [parquetlaw21_ObjectCut.l0]
        rw [if_pos h0, if_pos (by omega), if_pos (by omega)]
        rcases hhead with hv | hf
        · rw [if_pos]
          refine (str_is _ 118).2 (bytesOf_inj ?_)
          show txt _ = _
          rw [hh]; rw [hr0] at hv; injection hv
        · by_cases h118 : ((rd_T40 tk ((kk - j : Nat) : Int)).f1).toList = ([118] : List UInt8)
          · rw [if_pos h118]
          · rw [if_neg h118, if_pos]
            refine (str_is _ 102).2 (bytesOf_inj ?_)
            show txt _ = _
            rw [hh]; rw [hr0] at hf; injection hf
      · refine Ev.step (fun k => ?_) (hj4 _ rfl)
        simp only [parquetlaw21_ObjectCut.l0]
        rw [if_neg h0]
    | succ m ih =>
      intro hm
      obtain ⟨n, hn⟩ := hnum (m + 1) (by omega) (by omega)
      have hh := hwat (m + 1) hm
      rw [List.getD_eq_getElem?_getD, hn, Option.getD_some] at hh
      have hne : ∀ c, (c = 118 ∨ c = 102) → ¬ ((rd_T40 tk ((kk - j + (m + 1) : Nat) : Int)).f1).toList = ([c] : List UInt8) := by
        intro c hc h
        have e := congrArg bytesOf ((str_is _ c).1 h)
        have e2 : txt (rd_T40 tk ((kk - j + (m + 1) : Nat) : Int)) = [(c.toNat : Int)] := e
        rw [hh] at e2
        have := (itI_chars n).2 (c.toNat : Int) (by rw [e2]; simp)
        unfold isDig at this
        rcases hc with rfl | rfl <;> simp at this
      have hw := Lib.hid (show wrap64 (((kk - j + (m + 1) : Nat) : Int) - 1) = ((kk - j + m : Nat) : Int) from w_pred (by omega) (by omega))
      refine Ev.step (fun k => ?_) (ih (by omega))
      simp only [parquetlaw21_ObjectCut.l0]
      rw [if_pos (by omega), if_pos (by omega), if_pos (by omega), if_neg (hne 118 (.inl rfl)), if_neg (hne 102 (.inr rfl)), hw.out]
  -- all together
  have hwp := Lib.hid (show wrap64 ((p : Int) + ((pairsW P W F)[kk].1.length : Int)) = ((p + (pairsW P W F)[kk].1.length : Nat) : Int) from w_add rfl (by omega))
  have hfin := hl0 j (Nat.le_refl j)
  rw [show kk - j + j = kk by omega] at hfin
  rw [htk]
  refine Ev.step (f := fun k => parquetlaw21_ObjectCut.j1 k (txtT P W F) tk kk p false) (fun k => ?_) (Ev.step (fun k => by simp only [parquetlaw21_ObjectCut.j1]; rw [if_neg (by simp)]) hfin)
  have e1 : ((txtT P W F).extract 0 p).size + b.size ≤ 9223372036854775807 := by
    have : ((txtT P W F).extract 0 p).size ≤ (txtT P W F).size := by rw [← bytesOf_length, bytesOf_extract, List.drop_zero, List.length_take, hbl]; omega
    omega
  have e2 : (((txtT P W F).extract 0 p) ++ b).size + ((txtT P W F).extract (p + (pairsW P W F)[kk].1.length) (txtT P W F).size).size ≤ 9223372036854775807 := by
    rw [← ByteArray.size_append, hN]; omega
  simp only [parquetlaw21_ObjectCut.j0]
  rw [if_neg (by simp), if_neg (by rw [PlainAid.u64_nonneg (by omega) (by omega)]; omega), HKK.out, if_pos (by omega), if_pos (by omega)]
  simp only [Option.bind_some]
  rw [HBI.out, show ([(⟨#[120]⟩ : ByteArray), (⟨#[49, 46, 53]⟩ : ByteArray), (⟨#[45, 45, 49]⟩ : ByteArray), (⟨#[48, 49]⟩ : ByteArray), (⟨#[118, 118]⟩ : ByteArray), (⟨#[45, 48]⟩ : ByteArray)] : List ByteArray) = badL from rfl, if_pos (by omega), if_pos (by show (bi : Int) < ((badL.length : Nat) : Int); simp [badL]; omega), hb, hTK]
  simp only [hwl, hwp.out, Int.toNat_natCast]
  rw [if_pos (by omega), if_pos (by omega), if_pos e1, if_pos (by omega), if_pos (by omega), if_pos e2, hN, hcN]
  simp only [Option.bind_some]
  rw [hread]
  simp only [Option.bind_some, if_true]
  rfl
end
/-- ObjectCut, of the printed functions. -/
theorem cut_pure (P : List Pt) (W : Int) (F : List (List Int)) (a1 a2 : Int) (_w1 : (Lit.int .i64 a1).wf = true) (w2 : (Lit.int .u8 a2).wf = true) : ∃ k, parquetlaw21_ObjectCut.f k P W F a1 a2 = some true := by
  obtain ⟨m, hm, hmf⟩ := many_ev P W F
  refine Ev.rounds (Ev.congr (g := fun k => parquetlaw21_ObjectCut.f k P W F a1 a2) (fun k => rfl) (Ev.bind hm ?_))
  cases m with
  | true => simp only [if_true]; exact known_some'
  | false =>
    obtain ⟨h1, h2, h3⟩ := hmf rfl
    simp only [Bool.false_eq_true, if_false]
    have hs : small_obj P F := ⟨by omega, by omega, fun f h => by have := h3 f h; omega⟩
    by_cases hok : objOk P W F
    · have htl := text_len (ok_of hok).1 (by omega)
      have hsz : (txtT P W F).size ≤ 70000 := by show (textOf P W F).toArray.size ≤ _; rw [List.size_toArray]; omega
      have e1 : object_Write.f P W F = some (txtT P W F, 0) := write_ok hs hok
      have e2 : conv_bytes.f (txtT P W F) = some (bytesOf (txtT P W F)) := conv_ok (by omega)
      have hn : 0 < (toks (bytesOf (txtT P W F))).length := by
        have h := congrArg List.length (txtT_words (P := P) (W := W) (F := F))
        rw [List.length_map] at h
        have h4 := fl_len (L := rowsW P W F) (by
          intro r hr
          rcases List.mem_append.1 hr with hr | hr
          · obtain ⟨p, _, rfl⟩ := List.mem_map.1 hr; simp [vWords]
          · obtain ⟨f, _, rfl⟩ := List.mem_map.1 hr; simp [fWords])
        have h0 := List.length_pos_iff.2 (ok_of hok).2.1
        have h5 : (rowsW P W F).length = P.length + F.length := by simp [rowsW]
        omega
      refine Ev.congr (f := fun k => (parquetref02_All.f k (bytesOf (txtT P W F))).bind fun bt242 => if bt242.2 = 0 then parquetlaw21_ObjectCut.j0 k a1 a2 (txtT P W F) bt242.1 ((bt242.1.length : Int) == 0) else parquetlaw21_ObjectCut.j0 k a1 a2 (txtT P W F) bt242.1 true) (fun k => ?_) (Ev.bind (all_ev _ (by rw [bytesOf_length]; omega)) ?_)
      · rw [e1]
        simp only [Option.bind_some, if_true]
        rw [e2]
        simp only [Option.bind_some]
      · simp only [if_true]
        rw [show (((toks (bytesOf (txtT P W F))).length : Int) == 0) = false from beq_eq_false_iff_ne.2 (by omega)]
        exact cut_ev hok h1 h2 a1 a2 (bounds_u8 w2)
    · refine Ev.congr (fun k => ?_) known_some'
      rw [write_no hs hok]
      simp only [Option.bind_some]
      rw [if_neg (by decide)]
end Go.Proofs.YtbmgajddhfjchaaDoor.Obj
