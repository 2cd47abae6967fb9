/- Plain: the law ObjectLoose of the printed functions. -/
import Derived.Test.YtbmgajddhfjchaaDoorLsG6
import Derived.Test.YtbmgajddhfjchaaDoorLsObjx5
import Derived.PlainAid
import Derived.OpenShut
set_option linter.unusedVariables false
set_option linter.unusedSimpArgs false
namespace Go.Proofs.YtbmgajddhfjchaaDoor.Obj
open Go.RowKit Go.Proofs.YtbmgajddhfjchaaDoorW.PrintWords Go.Proofs.YtbmgajddhfjchaaDoorW.PrintLast Go.Proofs.YtbmgajddhfjchaaDoorW.PrintMore

theorem known_some2 : Ev (fun k => (parquetlaw21_known.f k).bind fun t => some t) true := Ev.bind known_ev (Ev.now true)
/-- Any text with a mesh's words is read as the mesh. -/
theorem read_words {P : List Pt} {W : Int} {F : List (List Int)} (hok : objOk P W F) {l : List Int} (hl : l.length ≤ 1048576) (hw : (toks l).map txt = (rowsW P W F).flatten) : object_Read.f l = some (P, W, F, 0, 0) := by
  obtain ⟨h1, hP, _⟩ := ok_of hok
  unfold object_Read.f
  rw [if_pos hl]
  simp only
  rw [loop_all h1 hP _ hw]
  simp only
  rw [if_neg (by simp), if_pos hok]
theorem bytesOf_app (a b : ByteArray) : bytesOf (a ++ b) = bytesOf a ++ bytesOf b := by
  unfold bytesOf
  simp
def gapL : List ByteArray := [⟨#[32]⟩, ⟨#[10]⟩, ⟨#[9, 13, 32]⟩, ⟨#[32, 35, 32, 118, 32, 49, 10]⟩, ⟨#[10, 10, 35, 10]⟩]
theorem gap_ok : ∀ g ∈ gapL, Gap (bytesOf g) ∧ g.size ≤ 7 := by
  intro g hg
  simp only [gapL, List.mem_cons, List.not_mem_nil, or_false] at hg
  rcases hg with rfl | rfl | rfl | rfl | rfl
  all_goals refine ⟨⟨⟨_, _, rfl, by decide⟩, fun r p => ?_⟩, by decide⟩
  · show tok (32 :: r) p .out = _; simp [tok, isBlank]; rfl
  · show tok (10 :: r) p .out = _; simp [tok, isBlank]; rfl
  · show tok (9 :: 13 :: 32 :: r) p .out = _; simp [tok, isBlank, bytesOf, Int.add_assoc]
  · show tok (32 :: 35 :: 32 :: 118 :: 32 :: 49 :: 10 :: r) p .out = _; simp [tok, isBlank, bytesOf, Int.add_assoc]
  · show tok (10 :: 10 :: 35 :: 10 :: r) p .out = _; simp [tok, isBlank, bytesOf, Int.add_assoc]
theorem five_ok (a : Int) (h0 : 0 ≤ a) (h1 : a ≤ 255) : ∃ i : Nat, i < 5 ∧ wrap64 (Int.tmod a 5) = (i : Int) := by
  rw [Int.tmod_eq_emod_of_nonneg h0]
  exact ⟨(a % 5).toNat, by omega, by rw [w64 (by omega) (by omega)]; omega⟩
theorem words_le (L : List (List Int × List Int)) : (L.map (·.1)).flatten.length ≤ (catW L).length := by
  induction L with
  | nil => simp [catW]
  | cons x L ih =>
    simp only [catW, List.map_cons, List.flatten_cons, List.flatMap_cons, List.length_append] at ih ⊢
    omega
theorem words_cnt (L : List (List Int × List Int)) (h : Good L) : L.length ≤ (catW L).length := by
  induction L with
  | nil => simp [catW]
  | cons x L ih =>
    have := ih (fun y hy => h y (by simp [hy]))
    have h0 := List.length_pos_iff.2 (h x (by simp)).1.1
    simp only [catW, List.flatMap_cons, List.length_append, List.length_cons] at this ⊢
    omega
theorem cat_le (L : List (List Int × List Int)) (h : ∀ x ∈ L, x.2.length ≤ 7) : (catW L).length ≤ (L.map (·.1)).flatten.length + 7 * L.length := by
  induction L with
  | nil => simp [catW]
  | cons x L ih =>
    have := ih (fun y hy => h y (by simp [hy]))
    have h0 := h x (by simp)
    simp only [catW, List.map_cons, List.flatten_cons, List.flatMap_cons, List.length_append, List.length_cons] at this ⊢
    omega
theorem take_le (ws : List (List Int)) (i : Nat) : (ws.take i).flatten.length ≤ ws.flatten.length := by
  have := congrArg (fun l => (List.flatten l).length) (List.take_append_drop i ws)
  simp only [List.flatten_append, List.length_append] at this
  omega
section
variable {P : List Pt} {W : Int} {F : List (List Int)}
def txtL (P : List Pt) (W : Int) (F : List (List Int)) : ByteArray := ⟨(textOf P W F).toArray⟩
theorem txtL_cat : bytesOf (txtL P W F) = catW (pairsW P W F) := by unfold txtL; rw [bytesOf_bI, textOf_cat]
theorem txtL_words : (toks (bytesOf (txtL P W F))).map txt = (rowsW P W F).flatten := by unfold txtL; rw [bytesOf_bI, text_words]
theorem txtL_inj {W' : Int} (hP : P ≠ []) (h : txtL P W' F = txtL P W F) : W' = W := by
  have h1 : (rowsW P W' F).flatten = (rowsW P W F).flatten := by rw [← txtL_words, ← txtL_words, h]
  obtain ⟨p, P, rfl⟩ := List.exists_cons_of_ne_nil hP
  simp only [rowsW, List.map_cons, List.cons_append, List.flatten_cons, vWords, List.cons.injEq, true_and] at h1
  exact itI_inj h1.1
theorem last_ok (hok : objOk P W F) (hP : P.length ≤ 150) (hF : F.length ≤ 200) (hf : ∀ f ∈ F, f.length ≤ 200) (hs : small_obj P F) (a2 : Int) {t : ByteArray} (ht : t.size ≤ 1048576) (hw : (toks (bytesOf t)).map txt = (rowsW P W F).flatten) :
    Ev (fun k => (conv_bytes.f t).bind fun t369 => (object_Read.f t369).bind fun bt372 => (object_Write.f P a2 F).bind fun bt383 => (if bt372.2.2.2.2 = 0 then ((parquetref21_Same.f k P W F bt372.1 bt372.2.1 bt372.2.2.1).bind fun t385 => (if t385 = true then (if bt383.2 = 0 then (if ((bt383.1.toList == (txtL P W F).toList) == (a2 == W)) = true then ((parquetlaw21_known.f k).bind fun t386 => (some t386)) else (none)) else ((parquetlaw21_known.f k).bind fun t387 => (some t387))) else (none))) else (none))) true := by
  rw [conv_ok (by omega)]
  simp only [Option.bind_some]
  rw [read_words hok (by rw [bytesOf_length]; omega) hw]
  simp only [Option.bind_some]
  by_cases hok2 : objOk P a2 F
  · rw [show object_Write.f P a2 F = some (txtL P a2 F, 0) from write_ok hs hok2]
    simp only [Option.bind_some, if_true]
    refine Ev.bind (same_ev P W F (by omega) (by omega) (fun f h => by have := hf f h; omega)) ?_
    have e : (((txtL P a2 F).toList == (txtL P W F).toList) == (a2 == W)) = true := by
      by_cases h : a2 = W
      · subst h; simp
      · have h2 : ¬ (txtL P a2 F).toList = (txtL P W F).toList := fun e => h (txtL_inj (ok_of hok).2.1 (by
          have e2 : (txtL P a2 F).data.toList = (txtL P W F).data.toList := by rw [← ByteArray.toList_eq, ← ByteArray.toList_eq, e]
          exact bytesOf_inj (by unfold bytesOf; rw [e2])))
        rw [beq_eq_false_iff_ne.2 h2, beq_eq_false_iff_ne.2 h]
        rfl
    simp only [e, if_true]
    exact known_some2
  · rw [write_no hs hok2]
    simp only [Option.bind_some, if_true]
    refine Ev.bind (same_ev P W F (by omega) (by omega) (fun f h => by have := hf f h; omega)) ?_
    simp only [show ¬ ((2 : Int) = 0) by decide, if_false, if_true]
    exact known_some2
theorem loose_l (hok : objOk P W F) (hP : P.length ≤ 150) (hF : F.length ≤ 200) (hf : ∀ f ∈ F, f.length ≤ 200) (hs : small_obj P F) (l1 : List Int) (h1 : ∀ x ∈ l1, 0 ≤ x ∧ x ≤ 255) (a2 : Int) {tk : List Tok} (hww : tk.map txt = (rowsW P W F).flatten) (hfl : (rowsW P W F).flatten.flatten.length ≤ 70000) (hn : tk.length ≤ 70000) :
    ∀ (d i : Nat) (L : List (List Int × List Int)) (t : ByteArray), tk.length = i + d → Good L → (∀ x ∈ L, x.2.length ≤ 7) → L.map (·.1) = (rowsW P W F).flatten.take i → bytesOf t = catW L →
    Ev (fun k => parquetlaw21_ObjectLoose.l0 k l1 a2 (txtL P W F) tk gapL t (i : Int) P W F) true := by
  have hnl : tk.length = (rowsW P W F).flatten.length := by rw [← hww, List.length_map]
  have hsz : ∀ (i : Nat) (L : List (List Int × List Int)) (t : ByteArray), i ≤ tk.length → (∀ x ∈ L, x.2.length ≤ 7) → L.map (·.1) = (rowsW P W F).flatten.take i → bytesOf t = catW L → t.size ≤ 560000 := by
    intro i L t hi h7 hm hb
    have e1 := cat_le L h7
    have e2 := take_le (rowsW P W F).flatten i
    have e3 := congrArg List.length hm
    rw [List.length_map, List.length_take] at e3
    rw [← bytesOf_length, hb]
    rw [hm] at e1
    omega
  intro d
  induction d with
  | zero =>
    intro i L t hi hg h7 hm hb
    have hts := hsz i L t (by omega) h7 hm hb
    have hw : (toks (bytesOf t)).map txt = (rowsW P W F).flatten := by
      rw [toks_txt (bytes_bytesOf _), hb]
      have := tok_cat L hg 0 []
      rw [List.append_nil, tok, List.append_nil] at this
      rw [this, tokW_words, hm, List.take_of_length_le (by omega)]
    refine Ev.step (fun k => ?_) (last_ok hok hP hF hf hs a2 (t := t) (by omega) hw)
    simp only [parquetlaw21_ObjectLoose.l0]
    rw [if_neg (by omega)]
  | succ d ih =>
    intro i L t hi hg h7 hm hb
    have hts := hsz i L t (by omega) h7 hm hb
    have hlt : i < tk.length := by omega
    have hltw : i < (rowsW P W F).flatten.length := by omega
    have hTK : bytesOf (rd_T40 tk (i : Int)).f1 = (rowsW P W F).flatten[i] := by
      have h2 : (tk.map txt)[i]? = (rowsW P W F).flatten[i]? := by rw [hww]
      rw [List.getElem?_map, List.getElem?_eq_getElem hlt, List.getElem?_eq_getElem hltw, Option.map_some] at h2
      injection h2 with h2
      simp only [rd_T40, Int.toNat_natCast, List.getD_eq_getElem?_getD, List.getElem?_eq_getElem hlt, Option.getD_some]
      exact h2
    have hmem : (rowsW P W F).flatten[i] ∈ (rowsW P W F).flatten := List.getElem_mem hltw
    have hclean : Clean (rowsW P W F).flatten[i] := by
      obtain ⟨r, hr, hw⟩ := List.mem_flatten.1 hmem
      exact clean_rows P W F r hr _ hw
    have hwi := Lib.hid (show wrap64 ((i : Int) + 1) = ((i + 1 : Nat) : Int) by rw [w64 (by omega) (by omega)]; omega)
    have hgo : ∀ g ∈ gapL, (t ++ (rd_T40 tk (i : Int)).f1 ++ g).size ≤ 560000 ∧ Ev (fun k => parquetlaw21_ObjectLoose.l0 k l1 a2 (txtL P W F) tk gapL (t ++ (rd_T40 tk (i : Int)).f1 ++ g) (wrap64 ((i : Int) + 1)) P W F) true := by
      intro g hgm
      obtain ⟨hgg, hg7⟩ := gap_ok g hgm
      have b1 : Good (L ++ [((rowsW P W F).flatten[i], bytesOf g)]) := by
        intro x hx
        rcases List.mem_append.1 hx with hx | hx
        · exact hg x hx
        · obtain rfl := List.mem_singleton.1 hx; exact ⟨hclean, hgg⟩
      have b2 : ∀ x ∈ L ++ [((rowsW P W F).flatten[i], bytesOf g)], x.2.length ≤ 7 := by
        intro x hx
        rcases List.mem_append.1 hx with hx | hx
        · exact h7 x hx
        · obtain rfl := List.mem_singleton.1 hx; simp only [bytesOf_length]; exact hg7
      have b3 : (L ++ [((rowsW P W F).flatten[i], bytesOf g)]).map (·.1) = (rowsW P W F).flatten.take (i + 1) := by
        rw [List.map_append, hm, List.take_add_one, List.getElem?_eq_getElem hltw]
        rfl
      have b4 : bytesOf (t ++ (rd_T40 tk (i : Int)).f1 ++ g) = catW (L ++ [((rowsW P W F).flatten[i], bytesOf g)]) := by
        rw [bytesOf_app, bytesOf_app, hb, hTK, catW_append]
        simp [catW]
      refine ⟨hsz (i + 1) _ _ (by omega) b2 b3 b4, ?_⟩
      rw [hwi.out]
      exact ih (i + 1) _ _ (by omega) b1 b2 b3 b4
    have hsize : ∀ g ∈ gapL, t.size + (rd_T40 tk (i : Int)).f1.size ≤ 9223372036854775807 ∧ (t ++ (rd_T40 tk (i : Int)).f1).size + g.size ≤ 9223372036854775807 := by
      intro g hgm
      have h := (hgo g hgm).1
      rw [ByteArray.size_append] at h
      have h3 : (t ++ (rd_T40 tk (i : Int)).f1).size = t.size + (rd_T40 tk (i : Int)).f1.size := ByteArray.size_append
      omega
    have hgl : gapL.length = 5 := rfl
    have hget : ∀ j : Nat, j < 5 → rdOf ByteArray.empty gapL (j : Int) ∈ gapL := by
      intro j hj
      simp only [rdOf, Int.toNat_natCast, List.getD_eq_getElem?_getD, List.getElem?_eq_getElem (show j < gapL.length by omega), Option.getD_some]
      exact List.getElem_mem _
    by_cases hil : i < l1.length
    · obtain ⟨j, hj, hJ⟩ := five_ok (rd l1 (i : Int)) (by
        simp only [rd, Int.toNat_natCast, List.getD_eq_getElem?_getD, List.getElem?_eq_getElem hil, Option.getD_some]; exact (h1 _ (List.getElem_mem hil)).1) (by
        simp only [rd, Int.toNat_natCast, List.getD_eq_getElem?_getD, List.getElem?_eq_getElem hil, Option.getD_some]; exact (h1 _ (List.getElem_mem hil)).2)
      have HJ := Lib.hid hJ
      clear hJ
      have hm := hget j hj
      refine Ev.step (fun k => ?_) (hgo _ hm).2
      have hq := hsize _ hm
      simp only [parquetlaw21_ObjectLoose.l0]
      rw [if_pos (by omega), if_pos (by omega), if_pos (by omega), if_pos hq.1, HJ.out, if_pos (by omega), if_pos (by rw [hgl]; omega), if_pos hq.2]
    · have hm : rdOf ByteArray.empty gapL 0 ∈ gapL := hget 0 (by omega)
      refine Ev.step (fun k => ?_) (hgo _ hm).2
      have hq := hsize _ hm
      simp only [parquetlaw21_ObjectLoose.l0]
      rw [if_pos (by omega), if_neg (by omega), if_pos (by omega), if_pos hq.1, if_pos (by rw [hgl]; omega), if_pos hq.2]
end
/-- ObjectLoose, of the printed functions. -/
theorem loose_pure (P : List Pt) (W : Int) (F : List (List Int)) (l1 : List Int) (a2 : Int) (w1 : ∀ x ∈ l1, (Lit.int .u8 x).wf = true) (_w2 : (Lit.int .i64 a2).wf = true) : ∃ k, parquetlaw21_ObjectLoose.f k P W F l1 a2 = some true := by
  obtain ⟨m, hm, hmf⟩ := many_ev P W F
  refine Ev.rounds (Ev.congr (g := fun k => parquetlaw21_ObjectLoose.f k P W F l1 a2) (fun k => rfl) (Ev.bind hm ?_))
  have hknown : Ev (fun k => parquetlaw21_ObjectLoose.j0 k l1 a2 true P W F) true := Ev.step (fun k => by simp only [parquetlaw21_ObjectLoose.j0]; rw [if_pos trivial]) known_some2
  cases m with
  | true => simp only [if_true]; exact hknown
  | false =>
    obtain ⟨h1, h2, h3⟩ := hmf rfl
    simp only [Bool.false_eq_true, if_false]
    cases hd : decide ((l1.length : Int) > 3000) with
    | true => exact hknown
    | false =>
    have hs : small_obj P F := ⟨by omega, by omega, fun f h => by have := h3 f h; omega⟩
    by_cases hok : objOk P W F
    · have htl := text_len (ok_of hok).1 (by omega)
      have hsz : (txtL P W F).size ≤ 70000 := by show (textOf P W F).toArray.size ≤ _; rw [List.size_toArray]; omega
      have e1 : object_Write.f P W F = some (txtL P W F, 0) := write_ok hs hok
      have e2 : conv_bytes.f (txtL P W F) = some (bytesOf (txtL P W F)) := conv_ok (by omega)
      have hwl := words_le (pairsW P W F)
      have hwc := words_cnt (pairsW P W F) (good_pairs P W F)
      rw [← txtL_cat, bytesOf_length] at hwc hwl
      rw [pairs_words] at hwl
      have hcn : (pairsW P W F).length = (rowsW P W F).flatten.length := by rw [← pairs_words, List.length_map]
      have htk : (toks (bytesOf (txtL P W F))).length = (rowsW P W F).flatten.length := by rw [← txtL_words, List.length_map]
      have hn : 0 < (rowsW P W F).flatten.length := by
        obtain ⟨p, P', rfl⟩ := List.exists_cons_of_ne_nil (ok_of hok).2.1
        simp [rowsW, vWords]
      refine Ev.step (f := fun k => (parquetref02_All.f k (bytesOf (txtL P W F))).bind fun bt242 => if bt242.2 = 0 then parquetlaw21_ObjectLoose.j1 k l1 a2 (txtL P W F) bt242.1 ((bt242.1.length : Int) == 0) P W F else parquetlaw21_ObjectLoose.j1 k l1 a2 (txtL P W F) bt242.1 true P W F) (fun k => ?_) (Ev.bind (all_ev _ (by rw [bytesOf_length]; omega)) ?_)
      · simp only [parquetlaw21_ObjectLoose.j0]
        rw [if_neg (by simp), e1]
        simp only [Option.bind_some, if_true]
        rw [e2]
        simp only [Option.bind_some]
      · simp only [if_true]
        rw [show (((toks (bytesOf (txtL P W F))).length : Int) == 0) = false from beq_eq_false_iff_ne.2 (by omega)]
        refine Ev.step (fun k => by simp only [parquetlaw21_ObjectLoose.j1]; rw [if_neg (by simp)]; rfl) (loose_l hok h1 h2 h3 hs l1 (fun x hx => bounds_u8 (w1 x hx)) a2 txtL_words (by omega) (by omega) _ 0 [] ⟨#[]⟩ (Nat.zero_add _).symm (by intro x hx; simp at hx) (by intro x hx; simp at hx) (by simp) rfl)
    · refine Ev.step (fun k => ?_) known_some2
      simp only [parquetlaw21_ObjectLoose.j0]
      rw [if_neg (by simp), write_no hs hok]
      simp only [Option.bind_some]
      rw [if_neg (by decide)]
end Go.Proofs.YtbmgajddhfjchaaDoor.Obj
