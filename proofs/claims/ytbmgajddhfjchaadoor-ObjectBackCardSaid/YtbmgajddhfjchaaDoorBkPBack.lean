/- Plain: the law ObjectBack of the printed functions. -/
import Derived.Test.YtbmgajddhfjchaaDoorBkG6
import Derived.Test.YtbmgajddhfjchaaDoorBkObjx3
set_option linter.unusedVariables false
set_option linter.unusedSimpArgs false
namespace Go.Proofs.YtbmgajddhfjchaaDoor.Obj
open Go.RowKit Go.Proofs.YtbmgajddhfjchaaDoorW.PrintWords Go.Proofs.YtbmgajddhfjchaaDoorW.PrintLast Go.Proofs.YtbmgajddhfjchaaDoorW.PrintMore

/-! ### where a fault is told -/
def AtOk (end_ : Int) (r : RS) : Prop := 0 ≤ r.at_ ∧ r.at_ ≤ end_ ∧ ∀ t ∈ r.l, 0 ≤ t.f0 ∧ t.f0 ≤ end_
theorem at_peek {end_ : Int} {r : RS} (h0 : 0 ≤ end_) (h : AtOk end_ r) : 0 ≤ (r.peek end_).f0 ∧ (r.peek end_).f0 ≤ end_ := by
  unfold RS.peek
  cases hl : r.l with
  | nil => exact ⟨h0, Int.le_refl _⟩
  | cons t l => exact h.2.2 t (by rw [hl]; simp)
theorem at_next {end_ : Int} {r : RS} (h : AtOk end_ r) : AtOk end_ r.next := ⟨h.1, h.2.1, fun t ht => h.2.2 t (List.mem_of_mem_tail ht)⟩
theorem at_wrong {end_ : Int} {r : RS} {t : Tok} {e : Int} (h : AtOk end_ r) (ht : 0 ≤ t.f0 ∧ t.f0 ≤ end_) : AtOk end_ (r.wrong t e) := by
  unfold RS.wrong
  split
  · exact ⟨ht.1, ht.2, h.2.2⟩
  · exact h
theorem at_number {end_ low high : Int} {r : RS} (h0 : 0 ≤ end_) (h : AtOk end_ r) : AtOk end_ (r.number end_ low high).2 := by
  unfold RS.number
  simp only
  split <;> split <;> first | exact at_wrong (at_next h) (at_peek h0 h) | exact at_next h
theorem at_zero {end_ : Int} {r : RS} (h0 : 0 ≤ end_) (h : AtOk end_ r) : AtOk end_ (r.zero end_) := by
  unfold RS.zero
  simp only
  split
  · exact at_next (at_wrong h (at_peek h0 h))
  · exact at_next h
theorem at_place {end_ : Int} {r : RS} {o : RO} (h0 : 0 ≤ end_) (h : AtOk end_ r) : AtOk end_ (rplace end_ r o).1 := by
  rw [rplace_eq rfl rfl rfl rfl]
  have h3 := at_zero h0 (at_number (low := -4294967296) (high := 4294967296) h0 (at_number (low := -4294967296) (high := 4294967296) h0 h))
  show AtOk end_ (if _ then _ else _)
  split
  · exact at_wrong (at_number h0 h3) (at_peek h0 h3)
  · exact at_number h0 h3
theorem at_fk {end_ n : Int} {r : RS} (h0 : 0 ≤ end_) (h : AtOk end_ r) : ∀ k, AtOk end_ (fk end_ n r k).1
  | 0 => h
  | k + 1 => at_number h0 (at_fk h0 h k)
theorem at_face {end_ : Int} {r : RS} {o : RO} (h0 : 0 ≤ end_) (h : AtOk end_ r) : AtOk end_ (rface end_ r o).1 := by
  by_cases he : (tokNum (bytesOf ((fk end_ o.P.length r 3).1.peek end_).f1) o.P.length).2 = 11
  · rw [rface_eq3 he]; exact at_fk h0 h 3
  · rw [rface_eq4 he]; exact at_fk h0 h 4
theorem at_loop {end_ : Int} (h0 : 0 ≤ end_) : ∀ (k : Nat) (r : RS) (o : RO), AtOk end_ r → AtOk end_ (rloop end_ k r o).1
  | 0, r, o, h => h
  | k + 1, r, o, h => by
    rw [rloop]
    split
    · exact h
    · simp only
      split
      · exact at_loop h0 k _ _ (at_place h0 (at_next h))
      · split
        · exact at_loop h0 k _ _ (at_face h0 (at_next h))
        · exact at_wrong (at_next h) (at_peek h0 h)
theorem tok_pos (lo : Int) (l : List Int) : ∀ (p : Int) (s : TM), lo ≤ p → (∀ f a, s = .word f a → lo ≤ f ∧ f ≤ p) → ∀ x ∈ tok l p s, lo ≤ x.1 ∧ x.1 ≤ p + l.length := by
  induction l with
  | nil =>
    intro p s hp hs x hx
    cases s with
    | out => simp [tok] at hx
    | com => simp [tok] at hx
    | word f a => simp only [tok, List.mem_singleton] at hx; subst hx; have := hs f a rfl; exact ⟨this.1, by simp; omega⟩
  | cons c l ih =>
    intro p s hp hs x hx
    have hlen : ((c :: l).length : Int) = (l.length : Int) + 1 := by simp
    have go : ∀ s', (∀ f a, s' = TM.word f a → lo ≤ f ∧ f ≤ p + 1) → x ∈ tok l (p + 1) s' → lo ≤ x.1 ∧ x.1 ≤ p + (c :: l).length := by
      intro s' h1 h2
      have := ih (p + 1) s' (by omega) h1 x h2
      omega
    cases s with
    | com =>
      simp only [tok] at hx
      exact go _ (fun f a h => by split at h <;> cases h) hx
    | out =>
      simp only [tok] at hx
      split at hx
      · exact go _ (fun f a h => by cases h) hx
      · split at hx
        · exact go _ (fun f a h => by cases h) hx
        · exact go _ (fun f a h => by cases h; omega) hx
    | word f a =>
      simp only [tok] at hx
      have hf := hs f a rfl
      split at hx
      · rcases List.mem_cons.1 hx with rfl | hx
        · exact ⟨hf.1, by simp only; omega⟩
        · exact go _ (fun f a h => by cases h) hx
      · exact go _ (fun f' a' h => by cases h; omega) hx
theorem read_at {l : List Int} {P W F n e} (h : object_Read.f l = some (P, W, F, n, e)) (he : e ≠ 0) : P = [] ∧ 0 ≤ n ∧ n ≤ (l.length : Int) := by
  obtain ⟨hlen, Z, hZ, hr⟩ := read_unfold h
  by_cases h1 : Z.1.e ≠ 0
  · rw [if_pos h1] at hr
    injection hr with hP hr; injection hr with hW hr; injection hr with hF hr; injection hr with hn he'
    have := at_loop (end_ := (l.length : Int)) (by omega) (toks l).length ⟨toks l, 0, 0⟩ ⟨[], 0, []⟩ ⟨by simp, by simp, fun t ht => by
      obtain ⟨x, hx, rfl⟩ := List.mem_map.1 ht
      have := tok_pos 0 l 0 .out (by omega) (fun f a h => by cases h) x hx
      exact ⟨this.1, by show x.1 ≤ _; omega⟩⟩
    rw [hZ] at this
    exact ⟨hP, by rw [hn]; exact this.1, by rw [hn]; exact this.2.1⟩
  · rw [if_neg h1] at hr
    by_cases h2 : objOk Z.2.P Z.2.W Z.2.F
    · rw [if_pos h2] at hr
      injection hr with hP hr; injection hr with hW hr; injection hr with hF hr; injection hr with hn he'
      exact absurd he' he
    · rw [if_neg h2] at hr
      injection hr with hP hr; injection hr with hW hr; injection hr with hF hr; injection hr with hn he'
      exact ⟨hP, by omega, by omega⟩
theorem read_good {l : List Int} {P W F n} (h : object_Read.f l = some (P, W, F, n, 0)) : n = 0 ∧ objOk P W F ∧ (toks l).map txt = (rowsW P W F).flatten := by
  obtain ⟨hlen, Z, hZ, hr⟩ := read_unfold h
  by_cases h1 : Z.1.e ≠ 0
  · rw [if_pos h1] at hr
    injection hr with hP hr; injection hr with hW hr; injection hr with hF hr; injection hr with hn he'
    exact absurd he'.symm h1
  · rw [if_neg h1] at hr
    by_cases h2 : objOk Z.2.P Z.2.W Z.2.F
    · rw [if_pos h2] at hr
      injection hr with hP hr; injection hr with hW hr; injection hr with hF hr; injection hr with hn he'
      subst hP hW hF
      refine ⟨hn, h2, ?_⟩
      have := loop_inv (end_ := (l.length : Int)) (toks l).length ⟨toks l, 0, 0⟩ ⟨[], 0, []⟩ (Nat.le_refl _) (by rw [hZ]; exact Decidable.not_not.1 h1)
      obtain ⟨P', F', W', hq, hw, _⟩ := this
      rw [hZ] at hq
      simp only at hw
      rw [hw, hq]
      simp [rowsW]
    · rw [if_neg h2] at hr
      injection hr with hP hr; injection hr with hW hr; injection hr with hF hr; injection hr with hn he'
      cases he'
theorem read_some {l : List Int} (h : l.length ≤ 1048576) : ∃ P W F n e, object_Read.f l = some (P, W, F, n, e) := by
  unfold object_Read.f
  rw [if_pos h]
  simp only
  split
  · exact ⟨_, _, _, _, _, rfl⟩
  · split <;> exact ⟨_, _, _, _, _, rfl⟩
theorem ok_small {P : List Pt} {W : Int} {F : List (List Int)} (hok : objOk P W F) (hF : F.length ≤ 2000000) : small_obj P F := by
  obtain ⟨h, _⟩ := ok_of hok
  have := (kind_faces hok.2.2.2.2.1).2.1
  exact ⟨by omega, hF, fun f hf => by have := (h.2.2.2 f hf).1; omega⟩
theorem words_len {l : List Int} {P W F} (h : (toks l).map txt = (rowsW P W F).flatten) : P.length + F.length ≤ l.length := by
  have h1 := congrArg List.length h
  rw [List.length_map] at h1
  have h2 := toks_length l
  have hfl : ∀ L : List (List (List Int)), (∀ r ∈ L, r ≠ []) → L.length ≤ L.flatten.length := by
    intro L
    induction L with
    | nil => intro _; simp
    | cons r L ih =>
      intro h
      have := ih (fun x hx => h x (by simp [hx]))
      have h0 := List.length_pos_iff.2 (h r (by simp))
      simp only [List.flatten_cons, List.length_append, List.length_cons]
      omega
  have h3 := hfl (rowsW P W F) (by
    intro r hr
    rcases List.mem_append.1 hr with hr | hr
    · obtain ⟨p, _, rfl⟩ := List.mem_map.1 hr; simp [vWords]
    · obtain ⟨f, _, rfl⟩ := List.mem_map.1 hr; simp [fWords])
  have h4 : (rowsW P W F).length = P.length + F.length := by simp [rowsW]
  omega
theorem known_some : Ev (fun k => (parquetlaw21_known.f k).bind fun t => some t) true := Ev.bind known_ev (Ev.now true)
theorem back_l0 {x y : List Tok} (h : x.map txt = y.map txt) (hx : x.length ≤ 1048576) : ∀ (d i : Nat), x.length = i + d → Ev (fun k => parquetlaw21_ObjectBack.l0 k x y i) true := by
  have hl : x.length = y.length := by simpa using congrArg List.length h
  intro d
  induction d with
  | zero =>
    intro i hd
    exact Ev.step (fun k => by simp only [parquetlaw21_ObjectBack.l0]; rw [if_neg (by omega)]) known_some
  | succ d ih =>
    intro i hd
    have hw : wrap64 ((i : Int) + 1) = ((i + 1 : Nat) : Int) := by rw [w64 (by omega) (by omega)]; omega
    refine Ev.step (fun k => ?_) (ih (i + 1) (by omega))
    have hi : i < x.length := by omega
    have e : (rd_T40 x (i : Int)).f1 = (rd_T40 y (i : Int)).f1 := by
      have h2 : (x.map txt)[i]? = (y.map txt)[i]? := by rw [h]
      simp only [List.getElem?_map, List.getElem?_eq_getElem hi, List.getElem?_eq_getElem (show i < y.length by omega), Option.map_some, Option.some.injEq] at h2
      have h3 := bytesOf_inj h2
      simp only [rd_T40, Int.toNat_natCast, List.getD_eq_getElem?_getD, List.getElem?_eq_getElem hi, List.getElem?_eq_getElem (show i < y.length by omega), Option.getD_some]
      exact h3
    simp only [parquetlaw21_ObjectBack.l0]
    rw [if_pos (by omega), if_pos (by omega), if_pos (by omega), if_pos (by rw [e]), hw]
theorem back_j1 (l : List Int) (hl : l.length ≤ 4000) : Ev (fun k => parquetlaw21_ObjectBack.j1 k l) true := by
  obtain ⟨P, W, F, n, e, hr⟩ := read_some (l := l) (by omega)
  by_cases he : e = 0
  · subst he
    obtain ⟨hn, hok, hw⟩ := read_good hr
    have hlen := words_len hw
    have hs := ok_small hok (by omega)
    have htl := text_len (ok_of hok).1 (by omega)
    have htxt : (bytesOf ⟨(textOf P W F).toArray⟩).length ≤ 1048576 := by
      rw [bytesOf_bI]; unfold bI; rw [List.length_map]; omega
    have e1 := write_ok hs hok
    have e2 : conv_bytes.f ⟨(textOf P W F).toArray⟩ = some (bytesOf ⟨(textOf P W F).toArray⟩) := conv_ok (by
      show (textOf P W F).toArray.size ≤ _
      rw [List.size_toArray]; omega)
    have hch := check_ev P W F hs
    rw [if_pos hok] at hch
    have h2 : (toks l).map txt = (toks (bytesOf ⟨(textOf P W F).toArray⟩)).map txt := by rw [hw, bytesOf_bI, text_words]
    have hl2 : (toks l).length = (toks (bytesOf ⟨(textOf P W F).toArray⟩)).length := by simpa using congrArg List.length h2
    refine Ev.step (f := fun k => (parquetref02_All.f k l).bind fun bt218 => (parquetref02_All.f k (bytesOf ⟨(textOf P W F).toArray⟩)).bind fun bt225 => (object_Check.f k P W F).bind fun t229 => if t229 = 0 then parquetlaw21_ObjectBack.j2 k bt218.1 bt225.1 ((bt218.1.length : Int) != (bt225.1.length : Int)) else parquetlaw21_ObjectBack.j2 k bt218.1 bt225.1 true) (fun k => ?_) ?_
    · simp only [parquetlaw21_ObjectBack.j1]
      rw [hr]
      simp only [Option.bind_some, if_true]
      rw [e1]
      simp only [Option.bind_some, if_true]
      rw [e2]
      simp only [Option.bind_some]
    · refine Ev.bind (all_ev l (by omega)) ?_
      refine Ev.bind (all_ev _ htxt) ?_
      refine Ev.bind hch ?_
      simp only [if_true]
      rw [show (((toks l).length : Int) != ((toks (bytesOf ⟨(textOf P W F).toArray⟩)).length : Int)) = false by rw [hl2]; simp]
      refine Ev.step (fun k => ?_) (back_l0 h2 (by have := toks_length l; omega) (toks l).length 0 (by omega))
      simp only [parquetlaw21_ObjectBack.j2]
      rw [if_neg (by simp)]
      rfl
  · obtain ⟨hP, h0, h1⟩ := read_at hr he
    refine Ev.step (fun k => ?_) known_some
    simp only [parquetlaw21_ObjectBack.j1]
    rw [hr]
    simp only [Option.bind_some]
    rw [if_neg he, hP]
    simp only [List.length_nil, Int.natCast_zero, if_true]
    rw [if_pos (by omega), if_pos (by omega)]
theorem back_j0 (P : List Pt) (W : Int) (F : List (List Int)) (b : List Int) (hP : P.length ≤ 150) (hF : F.length ≤ 200) (hf : ∀ f ∈ F, f.length ≤ 200) (hb : b.length ≤ 4000) : Ev (fun k => parquetlaw21_ObjectBack.j0 k b false P W F) true := by
  have hs : small_obj P F := ⟨by omega, by omega, fun f h => by have := hf f h; omega⟩
  by_cases hok : objOk P W F
  · have htl := text_len (ok_of hok).1 (by omega)
    have e1 := write_ok hs hok
    have e2 : conv_bytes.f ⟨(textOf P W F).toArray⟩ = some (bytesOf ⟨(textOf P W F).toArray⟩) := conv_ok (by
      show (textOf P W F).toArray.size ≤ _
      rw [List.size_toArray]; omega)
    have e3 : object_Read.f (bytesOf ⟨(textOf P W F).toArray⟩) = some (P, W, F, 0, 0) := read_text hok (by omega)
    refine Ev.step (f := fun k => (parquetref21_Same.f k P W F P W F).bind fun t204 => if t204 = true then parquetlaw21_ObjectBack.j1 k b else none) (fun k => ?_) ?_
    · simp only [parquetlaw21_ObjectBack.j0]
      rw [if_neg (by simp), e1]
      simp only [Option.bind_some, if_true]
      rw [e2]
      simp only [Option.bind_some]
      rw [e3]
      simp only [Option.bind_some, if_true]
    · refine Ev.bind (same_ev P W F (by omega) (by omega) (fun f h => by have := hf f h; omega)) ?_
      simp only [if_true]
      exact back_j1 b hb
  · refine Ev.step (fun k => ?_) (back_j1 b hb)
    simp only [parquetlaw21_ObjectBack.j0]
    rw [if_neg (by simp), write_no hs hok]
    simp only [Option.bind_some]
    rw [if_neg (by decide)]
/-- ObjectBack, of the printed functions: whatever the mesh and the bytes. -/
theorem back_pure (P : List Pt) (W : Int) (F : List (List Int)) (b : List Int) : ∃ k, parquetlaw21_ObjectBack.f k P W F b = some true := by
  obtain ⟨m, hm, hmf⟩ := many_ev P W F
  have hkn : Ev (fun k => parquetlaw21_ObjectBack.j0 k b true P W F) true := Ev.step (fun k => by simp only [parquetlaw21_ObjectBack.j0]; rw [if_pos trivial]) known_some
  refine Ev.rounds (Ev.congr (g := fun k => parquetlaw21_ObjectBack.f k P W F b) (fun k => rfl) (Ev.bind hm ?_))
  cases m with
  | true => simp only [if_true]; exact hkn
  | false =>
    obtain ⟨h1, h2, h3⟩ := hmf rfl
    simp only [Bool.false_eq_true, if_false]
    by_cases hb : (b.length : Int) > 4000
    · rw [decide_eq_true hb]; exact hkn
    · rw [decide_eq_false hb]
      exact back_j0 P W F b h1 h2 h3 (by omega)
end Go.Proofs.YtbmgajddhfjchaaDoor.Obj
