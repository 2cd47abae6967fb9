/- token.Number: the number of a word. (Printed by wip/tools/number_tpl.py.) The reader of meshes: next, peek, wrong, number. The reader's number. The reader's place: two numbers, a nought, a number, behind a v. The reader's face: three numbers or four, behind an f. -/
import Derived.Test.YtbmgajddhfjchaaDoorCtG1
import Derived.Lib.OthersKept
import Derived.Laws.RangeAny
import Derived.Laws.RangeString
import Derived.WalkSmall
import Derived.LoopTactic
import Derived.Outline
import Derived.Lib.Hide
import Derived.Deep.Heap
import Derived.Deep.RegionHeld3
import Derived.BigQuiet
import Derived.Deep.QuietTactic
set_option linter.unusedVariables false
set_option linter.unusedSimpArgs false
namespace Go.Proofs.YtbmgajddhfjchaaDoor.Obj
open Go.RowKit Go.Proofs.YtbmgajddhfjchaaDoorW.PrintWords Go.Proofs.YtbmgajddhfjchaaDoorW.PrintLast Go.Proofs.YtbmgajddhfjchaaDoorW.PrintMore

theorem toList_nil {s : ByteArray} : s.toList = [] ↔ s.size = 0 := by
  rw [ByteArray.toList_eq, ← data_length, List.length_eq_zero_iff]
structure NRel (w wr : World) (D : ByteArray) (most n : Int) (far : Bool) (pos : Nat) : Prop where
  it : wr.heap[w.heap.size]? = some (.stringIter D pos)
  below : Below w.heap.size w wr
  eq : numLoop most (bytesOf D) 0 (decide (most < 0)) = numLoop most ((bytesOf D).drop pos) n far
  n0 : 0 ≤ n
  n1 : n ≤ most ∨ n = 0
theorem NRel.start (w : World) (D : ByteArray) (most : Int) : NRel w (w.iter D 0) D most 0 (decide (most < 0)) 0 := ⟨World.iter_heap w D 0, below_alloc (Below.refl _ _) _, rfl, Int.le_refl _, .inr rfl⟩
theorem bytes_drop (D : ByteArray) (pos : Nat) (h : pos < D.size) : (bytesOf D).drop pos = ((D[pos]'h).toNat : Int) :: (bytesOf D).drop (pos + 1) := by
  rw [List.drop_eq_getElem_cons (by rw [bytesOf_length]; exact h)]
  congr 1
  simp [bytesOf, ByteArray.getElem_eq_getElem_data]
/-- What a digit does. -/
def stepFar (most n c : Int) (far : Bool) : Bool := far || decide (n > Int.tdiv (most - (c - 48)) 10) || decide (c - 48 > most)
theorem numLoop_bad {most n c : Int} {far : Bool} {r : List Int} (h : c < 48 ∨ 57 < c) : numLoop most (c :: r) n far = none := by simp [numLoop, h]
theorem numLoop_good {most n c : Int} {far : Bool} {r : List Int} (h : ¬ (c < 48 ∨ 57 < c)) : numLoop most (c :: r) n far = numLoop most r (if stepFar most n c far then n else 10 * n + (c - 48)) (stepFar most n c far) := by
  rw [numLoop, if_neg h]; rfl
theorem NRel.next {w wr : World} {D : ByteArray} {most n c : Int} {far : Bool} {pos : Nat} (h : NRel w wr D most n far pos) (hp : pos < D.size) (hc : ((D[pos]'hp).toNat : Int) = c) (hg : ¬ (c < 48 ∨ 57 < c)) (n' : Int) (far' : Bool) (hf : stepFar most n c far = far') (hn : (if far' then n else 10 * n + (c - 48)) = n') (hb0 : 0 ≤ n') (hb1 : n' ≤ most ∨ n' = 0) :
    NRel w (wr.iterAt w.heap.size D (pos + 1)) D most n' far' (pos + 1) where
  it := Lib.iterAt_heap wr _ D pos (pos + 1) h.it
  below := Lib.below_iterAt h.below (Nat.le_refl _) D (pos + 1)
  eq := by rw [h.eq, bytes_drop D pos hp, hc, numLoop_good hg, hf, hn]
  n0 := hb0
  n1 := hb1
theorem NRel.bad {w wr : World} {D : ByteArray} {most n c : Int} {far : Bool} {pos : Nat} (h : NRel w wr D most n far pos) (hp : pos < D.size) (hc : ((D[pos]'hp).toNat : Int) = c) (hg : c < 48 ∨ 57 < c) : numLoop most (bytesOf D) 0 (decide (most < 0)) = none := by
  rw [h.eq, bytes_drop D pos hp, hc, numLoop_bad hg]
theorem NRel.last {w wr : World} {D : ByteArray} {most n : Int} {far : Bool} {pos : Nat} (h : NRel w wr D most n far pos) (hp : ¬ pos < D.size) : numLoop most (bytesOf D) 0 (decide (most < 0)) = some (n, far) := by
  rw [h.eq, List.drop_eq_nil_of_le (by rw [bytesOf_length]; omega)]; rfl
def endV (most : Int) (minus : Bool) : Option (Int × Bool) → Int × Int
  | none => (0, 11)
  | some (n, far) => if far then (0, 10) else if minus then (-n, 0) else (n, 0)

theorem tok_minus (most : Int) (T : List Int) : tokNum (45 :: T) most = if T = [] ∨ T.head? = some 48 then (0, 11) else endV most true (numLoop most T 0 (decide (most < 0))) := by
  have e : (45 :: T : List Int) ≠ [48] := by simp
  unfold tokNum
  simp only [List.head?_cons, decide_true, if_true, List.tail_cons]
  by_cases h : T = [] ∨ T.head? = some 48
  · rw [if_pos h, if_pos (by rcases h with h | h; exact .inl h; exact .inr ⟨h, e⟩)]
  · rw [if_neg h, if_neg (by rintro (h1 | h1); exact h (.inl h1); exact h (.inr h1.1))]
    cases numLoop most T 0 (decide (most < 0)) with
    | none => rfl
    | some x => rfl
theorem tok_plain (most c : Int) (T : List Int) (hc : c ≠ 45) : tokNum (c :: T) most = if c = 48 ∧ T ≠ [] then (0, 11) else endV most false (numLoop most (c :: T) 0 (decide (most < 0))) := by
  unfold tokNum
  have e0 : decide ((c :: T).head? = some (45 : Int)) = false := by simp [hc]
  simp only [e0, Bool.false_eq_true, if_false]
  have e : (c :: T = [] ∨ (c :: T).head? = some 48 ∧ c :: T ≠ [48]) ↔ (c = 48 ∧ T ≠ []) := by
    constructor
    · rintro (h | ⟨h1, h2⟩)
      · cases h
      · have h3 : c = 48 := by simpa using h1
        exact ⟨h3, fun h4 => h2 (by rw [h3, h4])⟩
    · rintro ⟨h1, h2⟩
      exact .inr ⟨by rw [List.head?_cons, h1], fun h3 => h2 (by simpa using (List.cons.inj h3).2)⟩
  by_cases h : c = 48 ∧ T ≠ []
  · rw [if_pos h, if_pos (e.2 h)]
  · rw [if_neg h, if_neg (fun k => h (e.1 k))]
    cases numLoop most (c :: T) 0 (decide (most < 0)) with
    | none => rfl
    | some x => rfl
theorem bytes_cons {s : ByteArray} (h : 0 < s.size) : bytesOf s = ((s[0]'h).toNat : Int) :: (bytesOf s).drop 1 := by
  have := bytes_drop s 0 h
  simpa using this
theorem bytes_tail (s : ByteArray) : bytesOf (s.extract 1 s.size) = (bytesOf s).drop 1 := by
  have h : (s.extract 1 s.size).data.toList = s.data.toList.drop 1 := by
    rw [ByteArray.data_extract, Array.toList_extract, ← data_length s]
    simp [List.take_of_length_le]
  simp only [bytesOf, h, List.map_drop]
theorem one_iff {s : ByteArray} (h : 0 < s.size) : s.toList = [48] ↔ (((s[0]'h).toNat : Int) = 48 ∧ (bytesOf s).drop 1 = []) := by
  rw [ByteArray.toList_eq]
  have hb := bytes_cons h
  constructor
  · intro h1
    have h2 : bytesOf s = [48] := by simp [bytesOf, h1]
    rw [h2] at hb
    simp at hb
    exact ⟨hb.symm, by rw [h2]; rfl⟩
  · rintro ⟨h1, h2⟩
    rw [h1, h2] at hb
    unfold bytesOf at hb
    cases h3 : s.data.toList with
    | nil => rw [h3] at hb; simp at hb
    | cons x r =>
      rw [h3] at hb
      simp only [List.map_cons, List.cons.injEq, List.map_eq_nil_iff] at hb
      obtain ⟨h4, rfl⟩ := hb
      congr 1
      have h5 : x.toNat = 48 := by omega
      exact UInt8.toNat_inj.1 h5

set_option maxHeartbeats 4000000 in
set_option maxRecDepth 100000 in
theorem number_calls (s : ByteArray) (most : Int) (hm0 : -4611686018427387904 ≤ most) (hm1 : most ≤ 461168601842738790) (w : World) :
    Calls Tryd.prog 35 #[.string s, .int .i64 most] w fun e w' => e = .returned (.tuple #[.int .i64 (tokNum (bytesOf s) most).1, .int .i64 (tokNum (bytesOf s) most).2]) ∧ Below w.heap.size w w' := by
  by_cases h0 : s = ⟨#[]⟩
  · subst h0
    go_enter Tryd.func35, Tryd.ntmps35
    go_wp2_with fail
    go_ret2
    exact ⟨rfl, Below.refl _ _⟩
  · have hsz : 0 < s.size := by
      rcases Nat.eq_zero_or_pos s.size with h | h
      · exact absurd (ByteArray.size_eq_zero_iff.1 h) h0
      · exact h
    have hE : ¬ s.toList = [] := fun h => by have := toList_nil.1 h; omega
    have hE2 : s.toList.isEmpty = false := by simp [List.isEmpty_iff, hE]
    obtain ⟨R, hR⟩ : ∃ R, tokNum (bytesOf s) most = R := ⟨_, rfl⟩
    rw [hR]
    replace hR := Lib.hid hR
    clear h0
    have hbc := bytes_cons hsz
    by_cases h1 : (((s[0]'hsz).toNat : Int) == 45) = true
    · have h1' : ((s[0]'hsz).toNat : Int) = 45 := by simpa using h1
      have htm := hR.out
      rw [hbc, h1', tok_minus] at htm
      by_cases h2 : s.size = 1
      · have hD : (s.extract 1 s.size).toList = [] := toList_nil.2 (by simp [h2])
        have hd0 : (bytesOf s).drop 1 = [] := List.drop_eq_nil_of_le (by rw [bytesOf_length]; omega)
        rw [if_pos (.inl hd0)] at htm
        subst htm
        clear hbc h1' hR hd0
        go_enter Tryd.func35, Tryd.ntmps35
        go_wp2_with fail
        go_ret2
        exact ⟨rfl, Below.refl _ _⟩
      · have hDb := bytes_tail s
        have hs0 : (s.toList == [48]) = false := by
          have := mt (one_iff hsz).1 (by rintro ⟨h, _⟩; omega)
          simpa using this
        obtain ⟨D, hDD⟩ : ∃ D, s.extract 1 s.size = D := ⟨_, rfl⟩
        rw [hDD] at hDb
        have hDs : 0 < D.size := by rw [← hDD]; simp; omega
        have hD : ¬ D.toList = [] := fun h => by have := toList_nil.1 h; omega
        have hD2 : D.toList.isEmpty = false := by simp [List.isEmpty_iff, hD]
        have hDc := bytes_cons hDs
        rw [← hDb, hDc] at htm
        by_cases h3 : (((D[0]'hDs).toNat : Int) == 48) = true
        · have h3' : ((D[0]'hDs).toNat : Int) = 48 := by simpa using h3
          rw [if_pos (.inr (by rw [List.head?_cons, h3']))] at htm
          subst htm
          clear hbc h1' hR hDc hDb h3'
          go_enter Tryd.func35, Tryd.ntmps35
          go_wp2_with fail
          go_ret2
          exact ⟨rfl, Below.refl _ _⟩
        · have h3' : ¬ ((D[0]'hDs).toNat : Int) = 48 := by simpa using h3
          rw [if_neg (by rintro (h | h); exact List.cons_ne_nil _ _ h; exact h3' (by simpa using h)), ← hDc] at htm
          have hend : Hid (R = endV most true (numLoop most (bytesOf D) 0 (decide (most < 0)))) := Lib.hid htm.symm
          clear hbc h1' hDc hDb h3' htm
          go_enter Tryd.func35, Tryd.ntmps35
          go_wp2_with fail
          have H0 : Hid (NRel w (w.iter D 0) D most 0 (decide (most < 0)) 0) := Lib.hid (NRel.start w D most)
          go_loopw [8, 9] (fun v8 v9 wr => ∃ (n : Int) (far : Bool) (pos : Nat), v8 = .int .i64 n ∧ v9 = .bool far ∧ Hid (NRel w wr D most n far pos)) (fun _ _ wr => (D).size - wr.iterPos w.heap.size)
          case atStart => exact ⟨0, _, 0, rfl, rfl, H0⟩
          case round =>
            clear H0
            obtain ⟨n, far, pos, rfl, rfl, hr⟩ := hrel
            by_cases hp : pos < (D).size
            · by_cases ha : ((D)[pos]'hp).toNat < 128
              · have hnx : ∀ ty, (Instr.next (.pointer (some ⟨w.heap.size, 0, none⟩)) true ty).run Tryd.prog wr = _ := fun ty => Lib.run_next_ascii_at wr w.heap.size (D) pos ty hr.out.it hp ha
                obtain ⟨c, hc⟩ : ∃ c : Int, (((D)[pos]'hp).toNat : Int) = c := ⟨_, rfl⟩
                have hmea : Hid (((wr.iterAt w.heap.size D (pos + 1)).iterPos w.heap.size) = pos + 1 ∧ wr.iterPos w.heap.size = pos) := Lib.hid ⟨by simp only [World.iterPos, Lib.iterAt_heap wr _ D pos (pos + 1) hr.out.it], by simp only [World.iterPos, hr.out.it]⟩
                have hc0 : 0 ≤ c ∧ c < 128 := by omega
                rw [hc] at hnx
                replace hc := Lib.hid hc
                clear ha
                by_cases hg : c < 48 ∨ 57 < c
                · have hb := hr.out.bad hp hc.out hg
                  rw [hb] at hend
                  have hR' : R = (0, 11) := hend.out
                  have hbw := Lib.hid (Lib.below_iterAt hr.out.below (Nat.le_refl _) D (pos + 1))
                  subst hR'
                  rcases hg with hg | hg
                  · have hg2 : decide (c < 48) = true := by simp [hg]
                    go_wp2_with fail
                    go_ret2
                    exact ⟨rfl, hbw.out⟩
                  · have hg1 : ¬ c < 48 := by omega
                    have hg2 : decide (c < 48) = false := by simp [hg1]
                    go_wp2_with fail
                    go_ret2
                    exact ⟨rfl, hbw.out⟩
                · have hg1 : ¬ c < 48 := by omega
                  have hg2 : ¬ 57 < c := by omega
                  have hg3 : decide (c < 48) = false := by simp [hg1]
                  have hg4 : decide (57 < c) = false := by simp [hg2]
                  have hn0 := hr.out.n0
                  have hn1 := hr.out.n1
                  obtain ⟨d, hd⟩ : ∃ d, c - 48 = d := ⟨_, rfl⟩
                  have hd0 : 0 ≤ d ∧ d ≤ 9 := by omega
                  have hw1 : wrap32 d = d := by unfold wrap32; omega
                  have hw2 : wrap64 d = d := by unfold wrap64; omega
                  have hw3 : wrap64 (most - d) = most - d := by unfold wrap64; omega
                  have hend' := hend
                  clear hend
                  have hw6 : Hid (10 * n + d ≤ most ∨ ¬ (n ≤ (most - d).tdiv 10 ∧ d ≤ most)) := Lib.hid (by
                    by_cases h : n ≤ (most - d).tdiv 10 ∧ d ≤ most
                    · have h7 := Int.tdiv_eq_ediv_of_nonneg (a := most - d) (b := 10) (by omega)
                      left
                      omega
                    · exact .inr h)
                  have hq : Hid (-4611686018427387914 ≤ (most - d).tdiv 10 ∧ (most - d).tdiv 10 ≤ 4611686018427387914) := Lib.hid (by
                    by_cases h : 0 ≤ most - d
                    · have h7 := Int.tdiv_eq_ediv_of_nonneg (a := most - d) (b := 10) h
                      omega
                    · have h7 : (most - d).tdiv 10 = -((-(most - d)).tdiv 10) := by rw [Int.neg_tdiv, Int.neg_neg]
                      have h8 := Int.tdiv_eq_ediv_of_nonneg (a := -(most - d)) (b := 10) (by omega)
                      omega)
                  have hw4 : wrap64 ((most - d).tdiv 10) = (most - d).tdiv 10 := by have := hq.out; unfold wrap64; omega
                  cases far with
                  | true =>
                    go_wp2_with fail
                    exact ⟨⟨n, true, pos + 1, rfl, by simp, Lib.hid (hr.out.next hp hc.out hg n true (by simp [stepFar]) rfl hr.out.n0 hr.out.n1)⟩, by rw [hmea.out.1, hmea.out.2]; omega⟩
                  | false =>
                    by_cases t1 : (most - d).tdiv 10 < n
                    · have ht1 : decide ((most - d).tdiv 10 < n) = true := by simp [t1]
                      go_wp2_with fail
                      exact ⟨⟨n, true, pos + 1, rfl, by simp [t1], Lib.hid (hr.out.next hp hc.out hg n true (by simp [stepFar, hd, t1]) rfl hr.out.n0 hr.out.n1)⟩, by rw [hmea.out.1, hmea.out.2]; omega⟩
                    · have ht1 : decide ((most - d).tdiv 10 < n) = false := by simp [t1]
                      by_cases t2 : most < d
                      · have ht2 : decide (most < d) = true := by simp [t2]
                        go_wp2_with fail
                        exact ⟨⟨n, true, pos + 1, rfl, by simp [t1, t2], Lib.hid (hr.out.next hp hc.out hg n true (by simp [stepFar, hd, t2]) rfl hr.out.n0 hr.out.n1)⟩, by rw [hmea.out.1, hmea.out.2]; omega⟩
                      · have ht2 : decide (most < d) = false := by simp [t2]
                        have h9 : 10 * n + d ≤ most := by rcases hw6.out with h | h <;> omega
                        have hw7 : wrap64 (10 * n) = 10 * n := by unfold wrap64; omega
                        have hw8 : wrap64 (10 * n + d) = 10 * n + d := by unfold wrap64; omega
                        have h7 := Int.tdiv_eq_ediv_of_nonneg (a := most - d) (b := 10) (by omega)
                        have t3 : ¬ (most - d) / 10 < n := by rw [← h7]; exact t1
                        have ht3 : decide ((most - d) / 10 < n) = false := by simp [t3]
                        replace h7 := Lib.hid h7
                        go_wp2_with fail
                        exact ⟨⟨10 * n + d, false, pos + 1, by simp, by simp [t2, t3], Lib.hid (hr.out.next hp hc.out hg (10 * n + d) false (by simp only [stepFar, hd, h7.out, ht3, ht2, gt_iff_lt, Bool.or_false]) (by simp [hd]) (by omega) (.inl h9))⟩, by rw [hmea.out.1, hmea.out.2]; omega⟩
              · have hnx : ∀ ty, (Instr.next (.pointer (some ⟨w.heap.size, 0, none⟩)) true ty).run Tryd.prog wr = _ := fun ty => Lib.run_next_any_at wr w.heap.size (D) pos ty hr.out.it hp
                have hhi := Go.decode_high (D) pos hp (by omega)
                have hb := hr.out.bad hp rfl (by right; omega)
                rw [hb] at hend
                have hR' : R = (0, 11) := hend.out
                have hbw := Lib.hid (Lib.below_iterAt hr.out.below (Nat.le_refl _) D (pos + (Utf8.decode (D) pos).2))
                subst hR'
                obtain ⟨wd, hwd⟩ : ∃ wd, (Utf8.decode (D) pos).2 = wd := ⟨_, rfl⟩
                obtain ⟨c, hc⟩ : ∃ c : Int, ((Utf8.decode (D) pos).1 : Int) = c := ⟨_, rfl⟩
                have hg1 : ¬ c < 48 := by omega
                have hg3 : 57 < c := by omega
                have hg2 : decide (c < 48) = false := by simp [hg1]
                rw [hwd, hc] at hnx
                rw [hwd] at hbw
                clear hhi hwd hc
                go_wp2_with fail
                go_ret2
                exact ⟨rfl, hbw.out⟩
            · have hl := hr.out.last hp
              rw [hl] at hend
              have hnx : ∀ ty, (Instr.next (.pointer (some ⟨w.heap.size, 0, none⟩)) true ty).run Tryd.prog wr = _ := fun ty => Lib.run_next_end_at wr w.heap.size (D) pos ty hr.out.it hp
              have hR' : R = endV most true (some (n, far)) := hend.out
              subst hR'
              have hn0 := hr.out.n0
              have hn1 := hr.out.n1
              have hwn : wrap64 (-n) = -n := by unfold wrap64; omega
              have hbw := Lib.hid hr.out.below
              clear hend hR hn0 hn1
              cases far with
              | true =>
                go_wp2_with fail
                go_ret2
                exact ⟨rfl, hbw.out⟩
              | false =>
                go_wp2_with fail
                go_ret2
                exact ⟨by first | rfl | simp [endV, hwn], hbw.out⟩
    · have h1' : ¬ ((s[0]'hsz).toNat : Int) = 45 := by simpa using h1
      have htm := hR.out
      rw [hbc, tok_plain _ _ _ h1', ← hbc] at htm
      have h1i := one_iff hsz
      by_cases h3 : (((s[0]'hsz).toNat : Int) == 48) = true
      · have h3' : ((s[0]'hsz).toNat : Int) = 48 := by simpa using h3
        by_cases h4 : s.toList = [48]
        · have h4' : (s.toList == [48]) = true := by simpa using h4
          rw [if_neg (by rintro ⟨_, h⟩; exact h (h1i.1 h4).2)] at htm
          have hend : Hid (R = endV most false (numLoop most (bytesOf s) 0 (decide (most < 0)))) := Lib.hid htm.symm
          clear hbc h1' h3' htm h1i
          go_enter Tryd.func35, Tryd.ntmps35
          go_wp2_with fail
          have H0 : Hid (NRel w (w.iter s 0) s most 0 (decide (most < 0)) 0) := Lib.hid (NRel.start w s most)
          go_loopw [8, 9] (fun v8 v9 wr => ∃ (n : Int) (far : Bool) (pos : Nat), v8 = .int .i64 n ∧ v9 = .bool far ∧ Hid (NRel w wr s most n far pos)) (fun _ _ wr => (s).size - wr.iterPos w.heap.size)
          case atStart => exact ⟨0, _, 0, rfl, rfl, H0⟩
          case round =>
            clear H0
            obtain ⟨n, far, pos, rfl, rfl, hr⟩ := hrel
            by_cases hp : pos < (s).size
            · by_cases ha : ((s)[pos]'hp).toNat < 128
              · have hnx : ∀ ty, (Instr.next (.pointer (some ⟨w.heap.size, 0, none⟩)) true ty).run Tryd.prog wr = _ := fun ty => Lib.run_next_ascii_at wr w.heap.size (s) pos ty hr.out.it hp ha
                obtain ⟨c, hc⟩ : ∃ c : Int, (((s)[pos]'hp).toNat : Int) = c := ⟨_, rfl⟩
                have hmea : Hid (((wr.iterAt w.heap.size s (pos + 1)).iterPos w.heap.size) = pos + 1 ∧ wr.iterPos w.heap.size = pos) := Lib.hid ⟨by simp only [World.iterPos, Lib.iterAt_heap wr _ s pos (pos + 1) hr.out.it], by simp only [World.iterPos, hr.out.it]⟩
                have hc0 : 0 ≤ c ∧ c < 128 := by omega
                rw [hc] at hnx
                replace hc := Lib.hid hc
                clear ha
                by_cases hg : c < 48 ∨ 57 < c
                · have hb := hr.out.bad hp hc.out hg
                  rw [hb] at hend
                  have hR' : R = (0, 11) := hend.out
                  have hbw := Lib.hid (Lib.below_iterAt hr.out.below (Nat.le_refl _) s (pos + 1))
                  subst hR'
                  rcases hg with hg | hg
                  · have hg2 : decide (c < 48) = true := by simp [hg]
                    go_wp2_with fail
                    go_ret2
                    exact ⟨rfl, hbw.out⟩
                  · have hg1 : ¬ c < 48 := by omega
                    have hg2 : decide (c < 48) = false := by simp [hg1]
                    go_wp2_with fail
                    go_ret2
                    exact ⟨rfl, hbw.out⟩
                · have hg1 : ¬ c < 48 := by omega
                  have hg2 : ¬ 57 < c := by omega
                  have hg3 : decide (c < 48) = false := by simp [hg1]
                  have hg4 : decide (57 < c) = false := by simp [hg2]
                  have hn0 := hr.out.n0
                  have hn1 := hr.out.n1
                  obtain ⟨d, hd⟩ : ∃ d, c - 48 = d := ⟨_, rfl⟩
                  have hd0 : 0 ≤ d ∧ d ≤ 9 := by omega
                  have hw1 : wrap32 d = d := by unfold wrap32; omega
                  have hw2 : wrap64 d = d := by unfold wrap64; omega
                  have hw3 : wrap64 (most - d) = most - d := by unfold wrap64; omega
                  have hend' := hend
                  clear hend
                  have hw6 : Hid (10 * n + d ≤ most ∨ ¬ (n ≤ (most - d).tdiv 10 ∧ d ≤ most)) := Lib.hid (by
                    by_cases h : n ≤ (most - d).tdiv 10 ∧ d ≤ most
                    · have h7 := Int.tdiv_eq_ediv_of_nonneg (a := most - d) (b := 10) (by omega)
                      left
                      omega
                    · exact .inr h)
                  have hq : Hid (-4611686018427387914 ≤ (most - d).tdiv 10 ∧ (most - d).tdiv 10 ≤ 4611686018427387914) := Lib.hid (by
                    by_cases h : 0 ≤ most - d
                    · have h7 := Int.tdiv_eq_ediv_of_nonneg (a := most - d) (b := 10) h
                      omega
                    · have h7 : (most - d).tdiv 10 = -((-(most - d)).tdiv 10) := by rw [Int.neg_tdiv, Int.neg_neg]
                      have h8 := Int.tdiv_eq_ediv_of_nonneg (a := -(most - d)) (b := 10) (by omega)
                      omega)
                  have hw4 : wrap64 ((most - d).tdiv 10) = (most - d).tdiv 10 := by have := hq.out; unfold wrap64; omega
                  cases far with
                  | true =>
                    go_wp2_with fail
                    exact ⟨⟨n, true, pos + 1, rfl, by simp, Lib.hid (hr.out.next hp hc.out hg n true (by simp [stepFar]) rfl hr.out.n0 hr.out.n1)⟩, by rw [hmea.out.1, hmea.out.2]; omega⟩
                  | false =>
                    by_cases t1 : (most - d).tdiv 10 < n
                    · have ht1 : decide ((most - d).tdiv 10 < n) = true := by simp [t1]
                      go_wp2_with fail
                      exact ⟨⟨n, true, pos + 1, rfl, by simp [t1], Lib.hid (hr.out.next hp hc.out hg n true (by simp [stepFar, hd, t1]) rfl hr.out.n0 hr.out.n1)⟩, by rw [hmea.out.1, hmea.out.2]; omega⟩
                    · have ht1 : decide ((most - d).tdiv 10 < n) = false := by simp [t1]
                      by_cases t2 : most < d
                      · have ht2 : decide (most < d) = true := by simp [t2]
                        go_wp2_with fail
                        exact ⟨⟨n, true, pos + 1, rfl, by simp [t1, t2], Lib.hid (hr.out.next hp hc.out hg n true (by simp [stepFar, hd, t2]) rfl hr.out.n0 hr.out.n1)⟩, by rw [hmea.out.1, hmea.out.2]; omega⟩
                      · have ht2 : decide (most < d) = false := by simp [t2]
                        have h9 : 10 * n + d ≤ most := by rcases hw6.out with h | h <;> omega
                        have hw7 : wrap64 (10 * n) = 10 * n := by unfold wrap64; omega
                        have hw8 : wrap64 (10 * n + d) = 10 * n + d := by unfold wrap64; omega
                        have h7 := Int.tdiv_eq_ediv_of_nonneg (a := most - d) (b := 10) (by omega)
                        have t3 : ¬ (most - d) / 10 < n := by rw [← h7]; exact t1
                        have ht3 : decide ((most - d) / 10 < n) = false := by simp [t3]
                        replace h7 := Lib.hid h7
                        go_wp2_with fail
                        exact ⟨⟨10 * n + d, false, pos + 1, by simp, by simp [t2, t3], Lib.hid (hr.out.next hp hc.out hg (10 * n + d) false (by simp only [stepFar, hd, h7.out, ht3, ht2, gt_iff_lt, Bool.or_false]) (by simp [hd]) (by omega) (.inl h9))⟩, by rw [hmea.out.1, hmea.out.2]; omega⟩
              · have hnx : ∀ ty, (Instr.next (.pointer (some ⟨w.heap.size, 0, none⟩)) true ty).run Tryd.prog wr = _ := fun ty => Lib.run_next_any_at wr w.heap.size (s) pos ty hr.out.it hp
                have hhi := Go.decode_high (s) pos hp (by omega)
                have hb := hr.out.bad hp rfl (by right; omega)
                rw [hb] at hend
                have hR' : R = (0, 11) := hend.out
                have hbw := Lib.hid (Lib.below_iterAt hr.out.below (Nat.le_refl _) s (pos + (Utf8.decode (s) pos).2))
                subst hR'
                obtain ⟨wd, hwd⟩ : ∃ wd, (Utf8.decode (s) pos).2 = wd := ⟨_, rfl⟩
                obtain ⟨c, hc⟩ : ∃ c : Int, ((Utf8.decode (s) pos).1 : Int) = c := ⟨_, rfl⟩
                have hg1 : ¬ c < 48 := by omega
                have hg3 : 57 < c := by omega
                have hg2 : decide (c < 48) = false := by simp [hg1]
                rw [hwd, hc] at hnx
                rw [hwd] at hbw
                clear hhi hwd hc
                go_wp2_with fail
                go_ret2
                exact ⟨rfl, hbw.out⟩
            · have hl := hr.out.last hp
              rw [hl] at hend
              have hnx : ∀ ty, (Instr.next (.pointer (some ⟨w.heap.size, 0, none⟩)) true ty).run Tryd.prog wr = _ := fun ty => Lib.run_next_end_at wr w.heap.size (s) pos ty hr.out.it hp
              have hR' : R = endV most false (some (n, far)) := hend.out
              subst hR'
              have hn0 := hr.out.n0
              have hn1 := hr.out.n1
              have hwn : wrap64 (-n) = -n := by unfold wrap64; omega
              have hbw := Lib.hid hr.out.below
              clear hend hR hn0 hn1
              cases far with
              | true =>
                go_wp2_with fail
                go_ret2
                exact ⟨rfl, hbw.out⟩
              | false =>
                go_wp2_with fail
                go_ret2
                exact ⟨by first | rfl | simp [endV, hwn], hbw.out⟩
        · have h4' : (s.toList == [48]) = false := by simpa using h4
          rw [if_pos ⟨h3', fun h => h4 (h1i.2 ⟨h3', h⟩)⟩] at htm
          subst htm
          clear hbc h1' h3' h1i hR
          go_enter Tryd.func35, Tryd.ntmps35
          go_wp2_with fail
          go_ret2
          exact ⟨rfl, Below.refl _ _⟩
      · have h3' : ¬ ((s[0]'hsz).toNat : Int) = 48 := by simpa using h3
        rw [if_neg (fun h => h3' h.1)] at htm
        have hend : Hid (R = endV most false (numLoop most (bytesOf s) 0 (decide (most < 0)))) := Lib.hid htm.symm
        clear hbc h1' h3' htm h1i
        go_enter Tryd.func35, Tryd.ntmps35
        go_wp2_with fail
        have H0 : Hid (NRel w (w.iter s 0) s most 0 (decide (most < 0)) 0) := Lib.hid (NRel.start w s most)
        go_loopw [8, 9] (fun v8 v9 wr => ∃ (n : Int) (far : Bool) (pos : Nat), v8 = .int .i64 n ∧ v9 = .bool far ∧ Hid (NRel w wr s most n far pos)) (fun _ _ wr => (s).size - wr.iterPos w.heap.size)
        case atStart => exact ⟨0, _, 0, rfl, rfl, H0⟩
        case round =>
          clear H0
          obtain ⟨n, far, pos, rfl, rfl, hr⟩ := hrel
          by_cases hp : pos < (s).size
          · by_cases ha : ((s)[pos]'hp).toNat < 128
            · have hnx : ∀ ty, (Instr.next (.pointer (some ⟨w.heap.size, 0, none⟩)) true ty).run Tryd.prog wr = _ := fun ty => Lib.run_next_ascii_at wr w.heap.size (s) pos ty hr.out.it hp ha
              obtain ⟨c, hc⟩ : ∃ c : Int, (((s)[pos]'hp).toNat : Int) = c := ⟨_, rfl⟩
              have hmea : Hid (((wr.iterAt w.heap.size s (pos + 1)).iterPos w.heap.size) = pos + 1 ∧ wr.iterPos w.heap.size = pos) := Lib.hid ⟨by simp only [World.iterPos, Lib.iterAt_heap wr _ s pos (pos + 1) hr.out.it], by simp only [World.iterPos, hr.out.it]⟩
              have hc0 : 0 ≤ c ∧ c < 128 := by omega
              rw [hc] at hnx
              replace hc := Lib.hid hc
              clear ha
              by_cases hg : c < 48 ∨ 57 < c
              · have hb := hr.out.bad hp hc.out hg
                rw [hb] at hend
                have hR' : R = (0, 11) := hend.out
                have hbw := Lib.hid (Lib.below_iterAt hr.out.below (Nat.le_refl _) s (pos + 1))
                subst hR'
                rcases hg with hg | hg
                · have hg2 : decide (c < 48) = true := by simp [hg]
                  go_wp2_with fail
                  go_ret2
                  exact ⟨rfl, hbw.out⟩
                · have hg1 : ¬ c < 48 := by omega
                  have hg2 : decide (c < 48) = false := by simp [hg1]
                  go_wp2_with fail
                  go_ret2
                  exact ⟨rfl, hbw.out⟩
              · have hg1 : ¬ c < 48 := by omega
                have hg2 : ¬ 57 < c := by omega
                have hg3 : decide (c < 48) = false := by simp [hg1]
                have hg4 : decide (57 < c) = false := by simp [hg2]
                have hn0 := hr.out.n0
                have hn1 := hr.out.n1
                obtain ⟨d, hd⟩ : ∃ d, c - 48 = d := ⟨_, rfl⟩
                have hd0 : 0 ≤ d ∧ d ≤ 9 := by omega
                have hw1 : wrap32 d = d := by unfold wrap32; omega
                have hw2 : wrap64 d = d := by unfold wrap64; omega
                have hw3 : wrap64 (most - d) = most - d := by unfold wrap64; omega
                have hend' := hend
                clear hend
                have hw6 : Hid (10 * n + d ≤ most ∨ ¬ (n ≤ (most - d).tdiv 10 ∧ d ≤ most)) := Lib.hid (by
                  by_cases h : n ≤ (most - d).tdiv 10 ∧ d ≤ most
                  · have h7 := Int.tdiv_eq_ediv_of_nonneg (a := most - d) (b := 10) (by omega)
                    left
                    omega
                  · exact .inr h)
                have hq : Hid (-4611686018427387914 ≤ (most - d).tdiv 10 ∧ (most - d).tdiv 10 ≤ 4611686018427387914) := Lib.hid (by
                  by_cases h : 0 ≤ most - d
                  · have h7 := Int.tdiv_eq_ediv_of_nonneg (a := most - d) (b := 10) h
                    omega
                  · have h7 : (most - d).tdiv 10 = -((-(most - d)).tdiv 10) := by rw [Int.neg_tdiv, Int.neg_neg]
                    have h8 := Int.tdiv_eq_ediv_of_nonneg (a := -(most - d)) (b := 10) (by omega)
                    omega)
                have hw4 : wrap64 ((most - d).tdiv 10) = (most - d).tdiv 10 := by have := hq.out; unfold wrap64; omega
                cases far with
                | true =>
                  go_wp2_with fail
                  exact ⟨⟨n, true, pos + 1, rfl, by simp, Lib.hid (hr.out.next hp hc.out hg n true (by simp [stepFar]) rfl hr.out.n0 hr.out.n1)⟩, by rw [hmea.out.1, hmea.out.2]; omega⟩
                | false =>
                  by_cases t1 : (most - d).tdiv 10 < n
                  · have ht1 : decide ((most - d).tdiv 10 < n) = true := by simp [t1]
                    go_wp2_with fail
                    exact ⟨⟨n, true, pos + 1, rfl, by simp [t1], Lib.hid (hr.out.next hp hc.out hg n true (by simp [stepFar, hd, t1]) rfl hr.out.n0 hr.out.n1)⟩, by rw [hmea.out.1, hmea.out.2]; omega⟩
                  · have ht1 : decide ((most - d).tdiv 10 < n) = false := by simp [t1]
                    by_cases t2 : most < d
                    · have ht2 : decide (most < d) = true := by simp [t2]
                      go_wp2_with fail
                      exact ⟨⟨n, true, pos + 1, rfl, by simp [t1, t2], Lib.hid (hr.out.next hp hc.out hg n true (by simp [stepFar, hd, t2]) rfl hr.out.n0 hr.out.n1)⟩, by rw [hmea.out.1, hmea.out.2]; omega⟩
                    · have ht2 : decide (most < d) = false := by simp [t2]
                      have h9 : 10 * n + d ≤ most := by rcases hw6.out with h | h <;> omega
                      have hw7 : wrap64 (10 * n) = 10 * n := by unfold wrap64; omega
                      have hw8 : wrap64 (10 * n + d) = 10 * n + d := by unfold wrap64; omega
                      have h7 := Int.tdiv_eq_ediv_of_nonneg (a := most - d) (b := 10) (by omega)
                      have t3 : ¬ (most - d) / 10 < n := by rw [← h7]; exact t1
                      have ht3 : decide ((most - d) / 10 < n) = false := by simp [t3]
                      replace h7 := Lib.hid h7
                      go_wp2_with fail
                      exact ⟨⟨10 * n + d, false, pos + 1, by simp, by simp [t2, t3], Lib.hid (hr.out.next hp hc.out hg (10 * n + d) false (by simp only [stepFar, hd, h7.out, ht3, ht2, gt_iff_lt, Bool.or_false]) (by simp [hd]) (by omega) (.inl h9))⟩, by rw [hmea.out.1, hmea.out.2]; omega⟩
            · have hnx : ∀ ty, (Instr.next (.pointer (some ⟨w.heap.size, 0, none⟩)) true ty).run Tryd.prog wr = _ := fun ty => Lib.run_next_any_at wr w.heap.size (s) pos ty hr.out.it hp
              have hhi := Go.decode_high (s) pos hp (by omega)
              have hb := hr.out.bad hp rfl (by right; omega)
              rw [hb] at hend
              have hR' : R = (0, 11) := hend.out
              have hbw := Lib.hid (Lib.below_iterAt hr.out.below (Nat.le_refl _) s (pos + (Utf8.decode (s) pos).2))
              subst hR'
              obtain ⟨wd, hwd⟩ : ∃ wd, (Utf8.decode (s) pos).2 = wd := ⟨_, rfl⟩
              obtain ⟨c, hc⟩ : ∃ c : Int, ((Utf8.decode (s) pos).1 : Int) = c := ⟨_, rfl⟩
              have hg1 : ¬ c < 48 := by omega
              have hg3 : 57 < c := by omega
              have hg2 : decide (c < 48) = false := by simp [hg1]
              rw [hwd, hc] at hnx
              rw [hwd] at hbw
              clear hhi hwd hc
              go_wp2_with fail
              go_ret2
              exact ⟨rfl, hbw.out⟩
          · have hl := hr.out.last hp
            rw [hl] at hend
            have hnx : ∀ ty, (Instr.next (.pointer (some ⟨w.heap.size, 0, none⟩)) true ty).run Tryd.prog wr = _ := fun ty => Lib.run_next_end_at wr w.heap.size (s) pos ty hr.out.it hp
            have hR' : R = endV most false (some (n, far)) := hend.out
            subst hR'
            have hn0 := hr.out.n0
            have hn1 := hr.out.n1
            have hwn : wrap64 (-n) = -n := by unfold wrap64; omega
            have hbw := Lib.hid hr.out.below
            clear hend hR hn0 hn1
            cases far with
            | true =>
              go_wp2_with fail
              go_ret2
              exact ⟨rfl, hbw.out⟩
            | false =>
              go_wp2_with fail
              go_ret2
              exact ⟨by first | rfl | simp [endV, hwn], hbw.out⟩
end Go.Proofs.YtbmgajddhfjchaaDoor.Obj
namespace Go.Proofs.YtbmgajddhfjchaaDoor.Obj
open Go.RowKit Go.Proofs.YtbmgajddhfjchaaDoorW.PrintWords Go.Proofs.YtbmgajddhfjchaaDoorW.PrintLast Go.Proofs.YtbmgajddhfjchaaDoorW.PrintMore

theorem below_le' {B C : Nat} {w W : World} (h : Below C w W) (hB : B ≤ C) : Below B w W := ⟨h.os, h.tape, h.output, h.size, fun k hk => h.block k (Nat.lt_of_lt_of_le hk hB)⟩
structure RAt (g : Nat) (w : World) (end_ : Int) (r : RS) (A : Option Addr) (c : Nat) : Prop where
  blk : w.heap[g]? = some (.cells #[.slice A r.l.length c, .int .i64 end_, .int .i64 r.at_, .int .i64 r.e] 60 (0, 0))
  reads : Kd.F k40 w (fun k => k < g) A r.l.length r.l
  cap : r.l.length ≤ c
theorem RAt.c0 {g : Nat} {w : World} {end_ : Int} {r : RS} {A : Option Addr} {c : Nat} (h : RAt g w end_ r A c) : w.cell? ⟨g, 0, none⟩ = some (.slice A r.l.length c) := (blk_cell h.blk 0).trans rfl
theorem RAt.c1 {g : Nat} {w : World} {end_ : Int} {r : RS} {A : Option Addr} {c : Nat} (h : RAt g w end_ r A c) : w.cell? ⟨g, 1, none⟩ = some (.int .i64 end_) := (blk_cell h.blk 1).trans rfl
theorem RAt.c2 {g : Nat} {w : World} {end_ : Int} {r : RS} {A : Option Addr} {c : Nat} (h : RAt g w end_ r A c) : w.cell? ⟨g, 2, none⟩ = some (.int .i64 r.at_) := (blk_cell h.blk 2).trans rfl
theorem RAt.c3 {g : Nat} {w : World} {end_ : Int} {r : RS} {A : Option Addr} {c : Nat} (h : RAt g w end_ r A c) : w.cell? ⟨g, 3, none⟩ = some (.int .i64 r.e) := (blk_cell h.blk 3).trans rfl

set_option maxHeartbeats 2000000 in
set_option maxRecDepth 100000 in
theorem peek_calls {g : Nat} {w : World} {end_ : Int} {r : RS} {A : Option Addr} {c : Nat} (h : RAt g w end_ r A c) :
    Calls Tryd.prog 34 #[.pointer (some ⟨g, 0, none⟩)] w fun e w' => e = .returned (.agg #[.int .i64 (r.peek end_).f0, .string (r.peek end_).f1]) ∧ Below w.heap.size w w' := by
  have h0 := h.c0
  have hlt := blk_lt h.blk
  have hne := World.new_ne w _ h0
  have h1 := h.c1
  have hu := Tryd.underlying60
  have hu2 := Tryd.underlying40
  obtain ⟨l, a, e⟩ := r
  cases l with
  | nil =>
    go_enter Tryd.func34, Tryd.ntmps34
    go_wp2_with fail
    exact bodyPost_ret (v := .agg #[.int .i64 _, .string _]) (by simp [results, Tryd.results34, go_sem]; exact ⟨rfl, rfl⟩) rfl ⟨rfl, below_alloc (Below.refl _ _) _⟩
  | cons t l =>
    obtain ⟨ad, hA, hx0, hx1⟩ := at_T40 (Kd.F_now h.reads) 0 (by omega) (by simp)
    subst hA
    have e1 : rd_T40 (t :: l) 0 = t := rfl
    rw [e1] at hx0 hx1
    simp only [Int.toNat_zero, Nat.zero_mul, Addr.add_zero'] at hx0 hx1
    have hne2 := World.new_ne w _ hx0
    have hlt2 := World.block_lt_of_cell? _ _ hx0
    have hn : (0 : Int) < ((l.length + 1 : Nat) : Int) := by omega
    clear h
    go_enter Tryd.func34, Tryd.ntmps34
    go_wp2_with fail
    exact bodyPost_ret (v := .agg #[.int .i64 _, .string _]) (by simp [results, Tryd.results34, go_sem]; exact ⟨rfl, rfl⟩) rfl ⟨rfl, below_alloc (Below.refl _ _) _⟩

theorem infoTok : (Tryd.prog.info? 40).map (fun i => (i.zero, i.size, i.bytes)) = some (some (.agg #[.int .i64 0, .string ⟨#[]⟩]), 2, 24) := by kernel_rfl
theorem cut_any {P : Program} (t e : TypeId) {i : TypeInfo} (ht : P.underlying t = some (.slice e)) (hi : P.info? e = some i) (k : Nat) (hsz : i.size = k) (A : Option Addr) (n c m : Nat) (hm : m ≤ n) :
    ∀ W : World, (Instr.slice t (.slice A n c) (some (.int .i64 (m : Int))) none none).run P W = .ok (.slice (if c = m then A else A.map (·.add (m * k))) (n - m) (c - m)) W := by
  intro W
  have hel : P.elem t = e := by simp [Program.elem, ht]
  have hu : P.underlying t = some (.slice (P.elem t)) := by rw [hel]; exact ht
  rw [run_slice_l W t A n c hu .i64 (m : Int) (Int.natCast_nonneg _) (by omega), hel]
  simp [sizeOf, typeInfo, hi, hsz, sliced, Result.andThen]
theorem cut_tok (A : Option Addr) (n c : Nat) (hn : 1 ≤ n) : ∃ A2 : Option Addr, A2 = (if c = 1 then A else A.map (·.add (1 * 2))) ∧ ∀ W : World, (Instr.slice 35 (.slice A n c) (some (.int .i64 1)) none none).run Tryd.prog W = .ok (.slice A2 (n - 1) (c - 1)) W := by
  obtain ⟨i, hi, hz0, hz1, hz2⟩ := info_parts infoTok
  exact ⟨_, rfl, cut_any (P := Tryd.prog) 35 40 Tryd.underlying35 hi 2 hz1 A n c 1 hn⟩
theorem RAt.cut {g : Nat} {w : World} {end_ : Int} {t : Tok} {l : List Tok} {a e : Int} {A A2 : Option Addr} {c : Nat} (h : RAt g w end_ ⟨t :: l, a, e⟩ A c) (hA2 : A2 = (if c = 1 then A else A.map (·.add (1 * 2)))) (o1 o2 : Obj) :
    RAt g (((w.setCell ⟨g, 0, none⟩ (.slice A2 l.length (c - 1))).alloc o1).alloc o2) end_ (RS.next ⟨t :: l, a, e⟩) A2 (c - 1) where
  blk := blk_alloc (blk_alloc (blk_put (cs := #[.slice A (l.length + 1) c, .int .i64 end_, .int .i64 a, .int .i64 e]) h.blk 0 _ rfl) _) _
  reads := by
    have h1 := Kd.F_cut (m := 1) h.reads (by simp) h.cap
    have h2 : (List.drop 1 (t :: l)) = l := rfl
    rw [h2] at h1
    subst hA2
    exact Kd.F_alloc (Kd.F_alloc (Kd.F_far (p := ⟨g, 0, none⟩) h1 (fun k hk => Nat.ne_of_lt hk) _) _) _
  cap := by have := h.cap; simp at this; show l.length ≤ c - 1; omega
theorem below_put2 {g : Nat} {w : World} (hg : g < w.heap.size) (i : Nat) (u : Value) (o1 o2 : Obj) : Below g w (((w.setCell ⟨g, i, none⟩ u).alloc o1).alloc o2) ∧ KeepBut w (((w.setCell ⟨g, i, none⟩ u).alloc o1).alloc o2) g none := by
  have h1 : Below g w (w.setCell ⟨g, i, none⟩ u) := (Below.refl g w).setCell (p := ⟨g, i, none⟩) (Nat.le_refl g) _
  have h2 := h1.alloc (by have := h1.size; omega) o1
  have h3 := h2.alloc (by have := h2.size; omega) o2
  refine ⟨h3, KeepBut.trans ((KeepBut.refl w g none).set_ i u) (KeepBut.of_below ?_ g none) (.inl rfl)⟩
  exact (below_alloc (below_alloc (Below.refl _ _) _) _)
set_option maxHeartbeats 2000000 in
set_option maxRecDepth 100000 in
theorem next_calls {g : Nat} {w : World} {end_ : Int} {r : RS} {A : Option Addr} {c : Nat} (h : RAt g w end_ r A c) :
    Calls Tryd.prog 18 #[.pointer (some ⟨g, 0, none⟩)] w fun e w' => e = .returned (.agg #[.int .i64 (r.peek end_).f0, .string (r.peek end_).f1]) ∧ (∃ A' c', RAt g w' end_ r.next A' c') ∧ Below g w w' ∧ KeepBut w w' g none := by
  have h0 := h.c0
  have hlt := blk_lt h.blk
  have hne := World.new_ne w _ h0
  have h1 := h.c1
  have hu := Tryd.underlying60
  have hu2 := Tryd.underlying40
  obtain ⟨l, a, e⟩ := r
  cases l with
  | nil =>
    have hfin : Hid (RAt g (w.alloc (.cells #[.int .i64 end_, .string ⟨#[]⟩] 40)) end_ (RS.next ⟨[], a, e⟩) A c) := Lib.hid ⟨blk_alloc h.blk _, Kd.F_alloc h.reads _, h.cap⟩
    clear h
    go_enter Tryd.func18, Tryd.ntmps18
    go_wp2_with fail
    exact bodyPost_ret (v := .agg #[.int .i64 _, .string _]) (by simp [results, Tryd.results18, go_sem]; exact ⟨rfl, rfl⟩) rfl ⟨rfl, ⟨_, _, hfin.out⟩, below_le' (below_alloc (Below.refl _ _) _) (by omega), KeepBut.of_below (below_alloc (Below.refl _ _) _) _ _⟩
  | cons t l =>
    obtain ⟨ad, hA, hx0, hx1⟩ := at_T40 (Kd.F_now h.reads) 0 (by omega) (by simp)
    subst hA
    have e1 : rd_T40 (t :: l) 0 = t := rfl
    rw [e1] at hx0 hx1
    simp only [Int.toNat_zero, Nat.zero_mul, Addr.add_zero'] at hx0 hx1
    have hne2 := World.new_ne w _ hx0
    have hlt2 := World.block_lt_of_cell? _ _ hx0
    have hcap := h.cap
    simp only [List.length_cons] at hcap
    have hn : (0 : Int) < ((l.length + 1 : Nat) : Int) := by omega
    have hfz : w.frozen? ⟨g, 0, none⟩ = false := by simp [World.frozen?, h.blk]
    obtain ⟨A2, hA2, hcut⟩ := cut_tok (some ad) (l.length + 1) c (by omega)
    simp only [Nat.add_sub_cancel] at hcut
    replace hA2 := Lib.hid hA2
    replace h := Lib.hid h
    go_enter Tryd.func18, Tryd.ntmps18
    go_wp2_with fail
    have hpb := below_put2 hlt 0 (.slice A2 l.length (c - 1)) (.cells #[.int .i64 t.f0, .string t.f1] 40) (.cells #[.int .i64 t.f0, .string t.f1] 40)
    exact bodyPost_ret (v := .agg #[.int .i64 _, .string _]) (by simp [results, Tryd.results18, go_sem]; exact ⟨rfl, rfl⟩) rfl ⟨rfl, ⟨_, _, h.out.cut hA2.out _ _⟩, hpb.1, hpb.2⟩

theorem RAt.far {g : Nat} {w w' : World} {end_ : Int} {r : RS} {A : Option Addr} {c : Nat} (h : RAt g w end_ r A c) (hb : Below w.heap.size w w') : RAt g w' end_ r A c := ⟨blk_below h.blk hb, Kd.F_below h.reads hb, h.cap⟩
set_option maxHeartbeats 2000000 in
set_option maxRecDepth 100000 in
theorem wrong_calls {g : Nat} {w : World} {end_ : Int} {r : RS} {A : Option Addr} {c : Nat} (h : RAt g w end_ r A c) (t : Tok) (er : Int) :
    Calls Tryd.prog 21 #[.pointer (some ⟨g, 0, none⟩), .agg #[.int .i64 t.f0, .string t.f1], .int .i64 er] w fun e w' => e = .returned (.tuple #[]) ∧ RAt g w' end_ (r.wrong t er) A c ∧ Below g w w' ∧ KeepBut w w' g none := by
  have h0 := h.c3
  have h2 := h.c2
  have hlt := blk_lt h.blk
  have hne := World.new_ne w _ h0
  have hu := Tryd.underlying60
  have hu2 := Tryd.underlying40
  have hfz2 : w.frozen? ⟨g, 2, none⟩ = false := blk_frozen h.blk 2
  have hfz3 : w.frozen? ⟨g, 3, none⟩ = false := blk_frozen h.blk 3
  have H := Lib.hid h
  clear h
  by_cases he : r.e = 0
  · rw [he] at h0
    replace he := Lib.hid he
    go_enter Tryd.func21, Tryd.ntmps21
    go_wp2_with fail
    refine bodyPost_end (results_none rfl _ _ _) rfl ⟨rfl, ?_, ?_, ?_⟩
    · have e1 : r.wrong t er = ⟨r.l, t.f0, er⟩ := by unfold RS.wrong; rw [if_pos he.out]
      rw [e1]
      exact ⟨blk_alloc (blk_put (blk_put (cs := #[.slice A r.l.length c, .int .i64 end_, .int .i64 r.at_, .int .i64 r.e]) H.out.blk 2 _ rfl) 3 _ rfl) _, Kd.F_alloc (Kd.F_far (p := ⟨g, 3, none⟩) (Kd.F_far (p := ⟨g, 2, none⟩) H.out.reads (fun k hk => Nat.ne_of_lt hk) _) (fun k hk => Nat.ne_of_lt hk) _) _, H.out.cap⟩
    · exact (((Below.refl g w).setCell (p := ⟨g, 2, none⟩) (Nat.le_refl g) _).setCell (p := ⟨g, 3, none⟩) (Nat.le_refl g) _).alloc (by simp [World.setCell]; omega) _
    · exact KeepBut.trans (((KeepBut.refl w g none).set_ 2 _).set_ 3 _) (KeepBut.of_below (below_alloc (Below.refl _ _) _) g none) (.inl rfl)
  · have hd : (r.e == 0) = false := by simp [he]
    have he' := Lib.hid he
    go_enter Tryd.func21, Tryd.ntmps21
    go_wp2_with fail
    refine bodyPost_end (results_none rfl _ _ _) rfl ⟨rfl, ?_, below_le' (below_alloc (Below.refl _ _) _) (by omega), KeepBut.of_below (below_alloc (Below.refl _ _) _) _ _⟩
    have e1 : r.wrong t er = r := by unfold RS.wrong; rw [if_neg he'.out]
    rw [e1]
    exact H.out.far (below_alloc (Below.refl _ _) _)
end Go.Proofs.YtbmgajddhfjchaaDoor.Obj
namespace Go.Proofs.YtbmgajddhfjchaaDoor.Obj
open Go.RowKit Go.Proofs.YtbmgajddhfjchaaDoorW.PrintWords Go.Proofs.YtbmgajddhfjchaaDoorW.PrintLast Go.Proofs.YtbmgajddhfjchaaDoorW.PrintMore
/-- What number does. -/
theorem RS.number_bad {r : RS} {end_ low high n er : Int} {t : Tok} (ht : r.peek end_ = t) (hn : tokNum (bytesOf t.f1) (mx high (-low)) = (n, er)) (he : er ≠ 0) : r.number end_ low high = (low, (r.next).wrong t er) := by
  subst ht
  unfold RS.number
  simp only [hn]
  rw [if_neg (c := er = 0 ∧ _) (fun h => he h.1), if_pos he]
theorem RS.number_far {r : RS} {end_ low high n : Int} {t : Tok} (ht : r.peek end_ = t) (hn : tokNum (bytesOf t.f1) (mx high (-low)) = (n, 0)) (he : n < low ∨ high < n) : r.number end_ low high = (low, (r.next).wrong t 10) := by
  subst ht
  unfold RS.number
  simp only [hn]
  rw [if_pos (c := True ∧ _) ⟨trivial, he⟩, if_pos (by decide)]
theorem RS.number_ok {r : RS} {end_ low high n : Int} {t : Tok} (ht : r.peek end_ = t) (hn : tokNum (bytesOf t.f1) (mx high (-low)) = (n, 0)) (h1 : ¬ n < low) (h2 : ¬ high < n) : r.number end_ low high = (n, r.next) := by
  subst ht
  unfold RS.number
  simp only [hn]
  rw [if_neg (c := True ∧ _) (by rintro ⟨_, h | h⟩; exact h1 h; exact h2 h), if_neg (by simp)]
theorem num_step {g : Nat} {w w1 w2 : World} {end_ : Int} {r : RS} {A : Option Addr} {c : Nat} {o : Obj} (hg : g < w.heap.size) (h1 : RAt g w1 end_ r A c) (hb1 : Below g w w1) (hk1 : KeepBut w w1 g none) (hb2 : Below (w1.alloc o).heap.size (w1.alloc o) w2) :
    RAt g w2 end_ r A c ∧ Below g w w2 ∧ KeepBut w w2 g none := by
  have hb := below_step (below_alloc (Below.refl w1.heap.size w1) o) hb2
  exact ⟨h1.far hb, hb1.trans (below_le' hb (Nat.le_trans (Nat.le_of_lt hg) hb1.size)), KeepBut.trans hk1 (KeepBut.of_below hb g none) (.inl rfl)⟩
set_option maxHeartbeats 4000000 in
set_option maxRecDepth 100000 in
theorem rnumber_calls {g : Nat} {w : World} {end_ : Int} {r : RS} {A : Option Addr} {c : Nat} (h : RAt g w end_ r A c) (low high : Int) (hl0 : -4294967296 ≤ low) (hl1 : low ≤ 4294967296) (hh0 : 0 ≤ high) (hh1 : high ≤ 4294967296) :
    Calls Tryd.prog 33 #[.pointer (some ⟨g, 0, none⟩), .int .i64 low, .int .i64 high] w fun e w' => e = .returned (.int .i64 (r.number end_ low high).1) ∧ (∃ A' c', RAt g w' end_ (r.number end_ low high).2 A' c') ∧ Below g w w' ∧ KeepBut w w' g none := by
  have CN := Lib.hid (next_calls h)
  obtain ⟨t, ht⟩ : ∃ t, r.peek end_ = t := ⟨_, rfl⟩
  rw [ht] at CN
  have hmx : -4611686018427387904 ≤ mx high (-low) ∧ mx high (-low) ≤ 461168601842738790 := by constructor <;> (unfold mx; split <;> omega)
  obtain ⟨ne, hne⟩ : ∃ ne, tokNum (bytesOf t.f1) (mx high (-low)) = ne := ⟨_, rfl⟩
  obtain ⟨n, er⟩ := ne
  have CT' := number_calls t.f1 (mx high (-low)) hmx.1 hmx.2
  rw [hne] at CT'
  have CT := Lib.hid CT'
  have hlg := blk_lt h.blk
  clear CT' h hmx
  have hwl : wrap64 (-low) = -low := by unfold wrap64; omega
  have hwl2 : IntKind.i64.wrap (-low) = -low := by rw [IntKind.wrap_i64]; omega
  by_cases hm : high < -low
  · have hm1 : decide (high < -low) = true := by simp [hm]
    have hm2 : ¬ -low ≤ high := by omega
    have hM : mx high (-low) = -low := by unfold mx; rw [if_pos hm]
    rw [hM] at CT
    by_cases h0 : er = 0
    · subst h0
      by_cases hlo : n < low
      · rw [RS.number_far ht hne (.inl hlo)]
        have hd1 : decide (n < low) = true := by simp [hlo]
        clear ht hne hM
        go_enter Tryd.func33, Tryd.ntmps33
        go_wp2_with (first
          | (go_at_call 18; refine CN.out.mono ?_; rintro e w1 ⟨rfl, ⟨A1, c1, h1⟩, hb1, hk1⟩; replace h1 := Lib.hid h1; replace hb1 := Lib.hid hb1; replace hk1 := Lib.hid hk1)
          | (go_at_call 35; refine (CT.out _).mono ?_; rintro e w2 ⟨rfl, hb2⟩; have hbk := blk_below (Go.Deep.blk_alloc_new w1 _) hb2; have hc0 : w2.cell? ⟨w1.heap.size, 0, none⟩ = some (.int .i64 t.f0) := (blk_cell hbk 0).trans rfl; have hc1 : w2.cell? ⟨w1.heap.size, 1, none⟩ = some (.string t.f1) := (blk_cell hbk 1).trans rfl; clear hbk; have hs := Lib.hid (num_step hlg h1.out hb1.out hk1.out hb2); clear hb2)
          | (go_at_call 21; refine (wrong_calls hs.out.1 t 10).mono ?_; rintro e w3 ⟨rfl, h3, hb3, hk3⟩; replace h3 := Lib.hid h3; replace hb3 := Lib.hid hb3; replace hk3 := Lib.hid hk3))
        go_ret
        exact ⟨rfl, ⟨_, _, h3.out⟩, hs.out.2.1.trans hb3.out, KeepBut.trans hs.out.2.2 hk3.out (.inl rfl)⟩
      · by_cases hhi : high < n
        · rw [RS.number_far ht hne (.inr hhi)]
          have hd1 : decide (n < low) = false := by simp [hlo]
          have hd2 : decide (high < n) = true := by simp [hhi]
          clear ht hne hM
          go_enter Tryd.func33, Tryd.ntmps33
          go_wp2_with (first
            | (go_at_call 18; refine CN.out.mono ?_; rintro e w1 ⟨rfl, ⟨A1, c1, h1⟩, hb1, hk1⟩; replace h1 := Lib.hid h1; replace hb1 := Lib.hid hb1; replace hk1 := Lib.hid hk1)
            | (go_at_call 35; refine (CT.out _).mono ?_; rintro e w2 ⟨rfl, hb2⟩; have hbk := blk_below (Go.Deep.blk_alloc_new w1 _) hb2; have hc0 : w2.cell? ⟨w1.heap.size, 0, none⟩ = some (.int .i64 t.f0) := (blk_cell hbk 0).trans rfl; have hc1 : w2.cell? ⟨w1.heap.size, 1, none⟩ = some (.string t.f1) := (blk_cell hbk 1).trans rfl; clear hbk; have hs := Lib.hid (num_step hlg h1.out hb1.out hk1.out hb2); clear hb2)
            | (go_at_call 21; refine (wrong_calls hs.out.1 t 10).mono ?_; rintro e w3 ⟨rfl, h3, hb3, hk3⟩; replace h3 := Lib.hid h3; replace hb3 := Lib.hid hb3; replace hk3 := Lib.hid hk3))
          go_ret
          exact ⟨rfl, ⟨_, _, h3.out⟩, hs.out.2.1.trans hb3.out, KeepBut.trans hs.out.2.2 hk3.out (.inl rfl)⟩
        · rw [RS.number_ok ht hne hlo hhi]
          have hd1 : decide (n < low) = false := by simp [hlo]
          have hd2 : decide (high < n) = false := by simp [hhi]
          clear ht hne hM
          go_enter Tryd.func33, Tryd.ntmps33
          go_wp2_with (first
            | (go_at_call 18; refine CN.out.mono ?_; rintro e w1 ⟨rfl, ⟨A1, c1, h1⟩, hb1, hk1⟩; replace h1 := Lib.hid h1; replace hb1 := Lib.hid hb1; replace hk1 := Lib.hid hk1)
            | (go_at_call 35; refine (CT.out _).mono ?_; rintro e w2 ⟨rfl, hb2⟩; have hbk := blk_below (Go.Deep.blk_alloc_new w1 _) hb2; have hc0 : w2.cell? ⟨w1.heap.size, 0, none⟩ = some (.int .i64 t.f0) := (blk_cell hbk 0).trans rfl; have hc1 : w2.cell? ⟨w1.heap.size, 1, none⟩ = some (.string t.f1) := (blk_cell hbk 1).trans rfl; clear hbk; have hs := Lib.hid (num_step hlg h1.out hb1.out hk1.out hb2); clear hb2)
            | (go_at_call 21; refine (wrong_calls hs.out.1 t 10).mono ?_; rintro e w3 ⟨rfl, h3, hb3, hk3⟩; replace h3 := Lib.hid h3; replace hb3 := Lib.hid hb3; replace hk3 := Lib.hid hk3))
          go_ret
          exact ⟨rfl, ⟨_, _, hs.out.1⟩, hs.out.2.1, hs.out.2.2⟩
    · rw [RS.number_bad ht hne h0]
      have hd0 : (er == 0) = false := by simp [h0]
      clear ht hne hM
      go_enter Tryd.func33, Tryd.ntmps33
      go_wp2_with (first
        | (go_at_call 18; refine CN.out.mono ?_; rintro e w1 ⟨rfl, ⟨A1, c1, h1⟩, hb1, hk1⟩; replace h1 := Lib.hid h1; replace hb1 := Lib.hid hb1; replace hk1 := Lib.hid hk1)
        | (go_at_call 35; refine (CT.out _).mono ?_; rintro e w2 ⟨rfl, hb2⟩; have hbk := blk_below (Go.Deep.blk_alloc_new w1 _) hb2; have hc0 : w2.cell? ⟨w1.heap.size, 0, none⟩ = some (.int .i64 t.f0) := (blk_cell hbk 0).trans rfl; have hc1 : w2.cell? ⟨w1.heap.size, 1, none⟩ = some (.string t.f1) := (blk_cell hbk 1).trans rfl; clear hbk; have hs := Lib.hid (num_step hlg h1.out hb1.out hk1.out hb2); clear hb2)
        | (go_at_call 21; refine (wrong_calls hs.out.1 t er).mono ?_; rintro e w3 ⟨rfl, h3, hb3, hk3⟩; replace h3 := Lib.hid h3; replace hb3 := Lib.hid hb3; replace hk3 := Lib.hid hk3))
      go_ret
      exact ⟨rfl, ⟨_, _, h3.out⟩, hs.out.2.1.trans hb3.out, KeepBut.trans hs.out.2.2 hk3.out (.inl rfl)⟩
  · have hm1 : decide (high < -low) = false := by simp [hm]
    have hm2 : -low ≤ high := by omega
    have hM : mx high (-low) = high := by unfold mx; rw [if_neg hm]
    rw [hM] at CT
    by_cases h0 : er = 0
    · subst h0
      by_cases hlo : n < low
      · rw [RS.number_far ht hne (.inl hlo)]
        have hd1 : decide (n < low) = true := by simp [hlo]
        clear ht hne hM
        go_enter Tryd.func33, Tryd.ntmps33
        go_wp2_with (first
          | (go_at_call 18; refine CN.out.mono ?_; rintro e w1 ⟨rfl, ⟨A1, c1, h1⟩, hb1, hk1⟩; replace h1 := Lib.hid h1; replace hb1 := Lib.hid hb1; replace hk1 := Lib.hid hk1)
          | (go_at_call 35; refine (CT.out _).mono ?_; rintro e w2 ⟨rfl, hb2⟩; have hbk := blk_below (Go.Deep.blk_alloc_new w1 _) hb2; have hc0 : w2.cell? ⟨w1.heap.size, 0, none⟩ = some (.int .i64 t.f0) := (blk_cell hbk 0).trans rfl; have hc1 : w2.cell? ⟨w1.heap.size, 1, none⟩ = some (.string t.f1) := (blk_cell hbk 1).trans rfl; clear hbk; have hs := Lib.hid (num_step hlg h1.out hb1.out hk1.out hb2); clear hb2)
          | (go_at_call 21; refine (wrong_calls hs.out.1 t 10).mono ?_; rintro e w3 ⟨rfl, h3, hb3, hk3⟩; replace h3 := Lib.hid h3; replace hb3 := Lib.hid hb3; replace hk3 := Lib.hid hk3))
        go_ret
        exact ⟨rfl, ⟨_, _, h3.out⟩, hs.out.2.1.trans hb3.out, KeepBut.trans hs.out.2.2 hk3.out (.inl rfl)⟩
      · by_cases hhi : high < n
        · rw [RS.number_far ht hne (.inr hhi)]
          have hd1 : decide (n < low) = false := by simp [hlo]
          have hd2 : decide (high < n) = true := by simp [hhi]
          clear ht hne hM
          go_enter Tryd.func33, Tryd.ntmps33
          go_wp2_with (first
            | (go_at_call 18; refine CN.out.mono ?_; rintro e w1 ⟨rfl, ⟨A1, c1, h1⟩, hb1, hk1⟩; replace h1 := Lib.hid h1; replace hb1 := Lib.hid hb1; replace hk1 := Lib.hid hk1)
            | (go_at_call 35; refine (CT.out _).mono ?_; rintro e w2 ⟨rfl, hb2⟩; have hbk := blk_below (Go.Deep.blk_alloc_new w1 _) hb2; have hc0 : w2.cell? ⟨w1.heap.size, 0, none⟩ = some (.int .i64 t.f0) := (blk_cell hbk 0).trans rfl; have hc1 : w2.cell? ⟨w1.heap.size, 1, none⟩ = some (.string t.f1) := (blk_cell hbk 1).trans rfl; clear hbk; have hs := Lib.hid (num_step hlg h1.out hb1.out hk1.out hb2); clear hb2)
            | (go_at_call 21; refine (wrong_calls hs.out.1 t 10).mono ?_; rintro e w3 ⟨rfl, h3, hb3, hk3⟩; replace h3 := Lib.hid h3; replace hb3 := Lib.hid hb3; replace hk3 := Lib.hid hk3))
          go_ret
          exact ⟨rfl, ⟨_, _, h3.out⟩, hs.out.2.1.trans hb3.out, KeepBut.trans hs.out.2.2 hk3.out (.inl rfl)⟩
        · rw [RS.number_ok ht hne hlo hhi]
          have hd1 : decide (n < low) = false := by simp [hlo]
          have hd2 : decide (high < n) = false := by simp [hhi]
          clear ht hne hM
          go_enter Tryd.func33, Tryd.ntmps33
          go_wp2_with (first
            | (go_at_call 18; refine CN.out.mono ?_; rintro e w1 ⟨rfl, ⟨A1, c1, h1⟩, hb1, hk1⟩; replace h1 := Lib.hid h1; replace hb1 := Lib.hid hb1; replace hk1 := Lib.hid hk1)
            | (go_at_call 35; refine (CT.out _).mono ?_; rintro e w2 ⟨rfl, hb2⟩; have hbk := blk_below (Go.Deep.blk_alloc_new w1 _) hb2; have hc0 : w2.cell? ⟨w1.heap.size, 0, none⟩ = some (.int .i64 t.f0) := (blk_cell hbk 0).trans rfl; have hc1 : w2.cell? ⟨w1.heap.size, 1, none⟩ = some (.string t.f1) := (blk_cell hbk 1).trans rfl; clear hbk; have hs := Lib.hid (num_step hlg h1.out hb1.out hk1.out hb2); clear hb2)
            | (go_at_call 21; refine (wrong_calls hs.out.1 t 10).mono ?_; rintro e w3 ⟨rfl, h3, hb3, hk3⟩; replace h3 := Lib.hid h3; replace hb3 := Lib.hid hb3; replace hk3 := Lib.hid hk3))
          go_ret
          exact ⟨rfl, ⟨_, _, hs.out.1⟩, hs.out.2.1, hs.out.2.2⟩
    · rw [RS.number_bad ht hne h0]
      have hd0 : (er == 0) = false := by simp [h0]
      clear ht hne hM
      go_enter Tryd.func33, Tryd.ntmps33
      go_wp2_with (first
        | (go_at_call 18; refine CN.out.mono ?_; rintro e w1 ⟨rfl, ⟨A1, c1, h1⟩, hb1, hk1⟩; replace h1 := Lib.hid h1; replace hb1 := Lib.hid hb1; replace hk1 := Lib.hid hk1)
        | (go_at_call 35; refine (CT.out _).mono ?_; rintro e w2 ⟨rfl, hb2⟩; have hbk := blk_below (Go.Deep.blk_alloc_new w1 _) hb2; have hc0 : w2.cell? ⟨w1.heap.size, 0, none⟩ = some (.int .i64 t.f0) := (blk_cell hbk 0).trans rfl; have hc1 : w2.cell? ⟨w1.heap.size, 1, none⟩ = some (.string t.f1) := (blk_cell hbk 1).trans rfl; clear hbk; have hs := Lib.hid (num_step hlg h1.out hb1.out hk1.out hb2); clear hb2)
        | (go_at_call 21; refine (wrong_calls hs.out.1 t er).mono ?_; rintro e w3 ⟨rfl, h3, hb3, hk3⟩; replace h3 := Lib.hid h3; replace hb3 := Lib.hid hb3; replace hk3 := Lib.hid hk3))
      go_ret
      exact ⟨rfl, ⟨_, _, h3.out⟩, hs.out.2.1.trans hb3.out, KeepBut.trans hs.out.2.2 hk3.out (.inl rfl)⟩
end Go.Proofs.YtbmgajddhfjchaaDoor.Obj
namespace Go.Proofs.YtbmgajddhfjchaaDoor.Obj
open Go.RowKit Go.Proofs.YtbmgajddhfjchaaDoorW.PrintWords Go.Proofs.YtbmgajddhfjchaaDoorW.PrintLast Go.Proofs.YtbmgajddhfjchaaDoorW.PrintMore

structure OAt (g h : Nat) (w : World) (base : Nat) (o : RO) (vP vF : Value) : Prop where
  blk : w.heap[h]? = some (.cells #[vP, .int .i64 o.W, vF] 25 (0, 0))
  rp : Kd.R k47 47 w base (fun k => (k ≠ g ∧ k ≠ h) ∧ some k ≠ vF.ownBlock) vP o.P
  rf : Kd.R (Kd.slice 3 (Kd.int .i64)) 48 w base (fun k => (k ≠ g ∧ k ≠ h) ∧ some k ≠ vP.ownBlock) vF o.F
  gh : g < h
theorem OAt.keep {g h base : Nat} {w w' : World} {o : RO} {vP vF : Value} (ho : OAt g h w base o vP vF) (hk : KeepBut w w' g none) : OAt g h w' base o vP vF :=
  ⟨hk.blk ho.blk (Nat.ne_of_gt ho.gh) (by simp), Kd.R_keep ho.rp hk (fun k hk => hk.1.1), Kd.R_keep ho.rf hk (fun k hk => hk.1.1), ho.gh⟩
/-- Old blocks but g stand. -/
structure Mv (g : Nat) (w w' : World) : Prop where
  b : Below g w w'
  k : KeepBut w w' g none
theorem Mv.refl (g : Nat) (w : World) : Mv g w w := ⟨Below.refl _ _, KeepBut.refl _ _ _⟩
theorem Mv.trans {g : Nat} {w w1 w2 : World} (h : Mv g w w1) (k : Mv g w1 w2) : Mv g w w2 := ⟨h.b.trans k.b, KeepBut.trans h.k k.k (.inl rfl)⟩
theorem Mv.of_below {g : Nat} {w w1 w2 : World} (h : Mv g w w1) (hg : g < w.heap.size) (k : Below w1.heap.size w1 w2) : Mv g w w2 := h.trans ⟨below_le' k (by have := h.k.1; omega), KeepBut.of_below k g none⟩
theorem Mv.alloc {g : Nat} {w w1 : World} (h : Mv g w w1) (hg : g < w.heap.size) (o : Obj) : Mv g w (w1.alloc o) := h.of_below hg (below_alloc (Below.refl _ _) o)
theorem Mv.new {g : Nat} {w w1 : World} {o : Obj} (h : Mv g (w.alloc o) w1) (hg : g < w.heap.size) : w1.heap[w.heap.size]? = some o := h.k.blk (Go.Deep.blk_alloc_new w o) (by omega) (by simp)
theorem tokNum_zero (s : List Int) : (tokNum s 0).1 = 0 := by
  have key : ∀ (l : List Int) (far : Bool) (n : Int) (b : Bool), numLoop 0 l 0 far = some (n, b) → b = false → n = 0 := by
    intro l
    induction l with
    | nil => intro far n b h _; simp [numLoop] at h; exact h.1.symm
    | cons c r ih =>
      intro far n b h hb
      simp only [numLoop] at h
      split at h
      · cases h
      · split at h
        · exact ih _ n b h hb
        · rename_i hc hf
          have h48 : c - 48 = 0 := by simp at hf; omega
          rw [h48] at h
          exact ih _ n b h hb
  have fin : ∀ (d : List Int) (m : Bool) (c : Prop) [Decidable c], (if c then ((0 : Int), (11 : Int)) else match numLoop 0 d 0 (decide ((0 : Int) < 0)) with | none => (0, 11) | some (n, far) => if far then (0, 10) else if m then (-n, 0) else (n, 0)).1 = 0 := by
    intro d m c _
    by_cases hc : c
    · rw [if_pos hc]
    · rw [if_neg hc]
      cases hn : numLoop 0 d 0 (decide ((0 : Int) < 0)) with
      | none => rfl
      | some p =>
        obtain ⟨n, far⟩ := p
        cases far with
        | true => rfl
        | false =>
          have := key _ _ _ _ hn rfl
          subst this
          cases m <;> rfl
  exact fin _ _ _
theorem rplace_eq {end_ : Int} {r z : RS} {o : RO} {x y v : Int × RS} (hx : r.number end_ (-4294967296) 4294967296 = x) (hy : x.2.number end_ (-4294967296) 4294967296 = y) (hz : y.2.zero end_ = z) (hv : z.number end_ 1 1048576 = v) :
    rplace end_ r o = (if o.P ≠ [] ∧ v.1 ≠ o.W then v.2.wrong (z.peek end_) 11 else v.2, { P := o.P ++ [⟨x.1, y.1⟩], W := v.1, F := o.F }) := by
  subst hx hy hz hv; rfl
theorem OAt.put {g h base : Nat} {w w1 : World} {o : RO} {vP vF v1 : Value} {x y v : Int} (ho : OAt g h w base o vP vF) (hv : Kd.R k47 47 w1 base (fun k => (k ≠ g ∧ k ≠ h) ∧ some k ≠ vF.ownBlock) v1 (o.P ++ [⟨x, y⟩])) (hg : w.grownBy w1 vP.ownBlock) (hat : v1.ownBlock = vP.ownBlock ∨ ∃ b, v1.ownBlock = some b ∧ w.heap.size ≤ b) :
    OAt g h ((w1.setCell ⟨h, 0, none⟩ v1).setCell ⟨h, 1, none⟩ (.int .i64 v)) base { P := o.P ++ [⟨x, y⟩], W := v, F := o.F } v1 vF where
  blk := by
    have hb : w1.heap[h]? = some (.cells #[vP, .int .i64 o.W, vF] 25 (0, 0)) := (hg.block h (blk_lt ho.blk) (fun e => (ho.rp.1 h e.symm).1.2 rfl)).trans ho.blk
    exact blk_put (blk_put (cs := #[vP, .int .i64 o.W, vF]) hb 0 _ rfl) 1 _ rfl
  rp := Kd.R_far (p := ⟨h, 1, none⟩) (Kd.R_far (p := ⟨h, 0, none⟩) hv (fun k hk => hk.1.2) _) (fun k hk => hk.1.2) _
  rf := Kd.R_far (p := ⟨h, 1, none⟩) (Kd.R_far (p := ⟨h, 0, none⟩) (Kd.R_after ho.rf hg hat) (fun k hk => hk.1.2) _) (fun k hk => hk.1.2) _
  gh := ho.gh
theorem hop {a b : World} {o : Obj} (hb : Below (a.alloc o).heap.size (a.alloc o) b) : Below a.heap.size a b := below_step (below_alloc (Below.refl _ _) _) hb
/-- RAt stands while blocks above the reader's are written. -/
theorem RAt.above {g : Nat} {w w1 : World} {end_ : Int} {r : RS} {A : Option Addr} {c : Nat} (h : RAt g w end_ r A c) (hb : ∀ k, k ≤ g → w1.heap[k]? = w.heap[k]?) : RAt g w1 end_ r A c :=
  ⟨(hb g (Nat.le_refl g)).trans h.blk, Kd.F_step h.reads (fun k hk _ => hb k (Nat.le_of_lt hk)), h.cap⟩

theorem infoPt : (Tryd.prog.info? 47).map (fun i => (i.zero, i.size, i.bytes)) = some (some (.agg #[.int .i64 0, .int .i64 0]), 2, 16) := by kernel_rfl
theorem R_app {g h base : Nat} {w : World} {o : RO} {vP vF : Value} (ho : OAt g h w base o vP vF) (hgb : g < base) (hb : base ≤ w.heap.size) (hF : ∀ k, vF.ownBlock = some k → k < w.heap.size) : ∀ k, w.heap.size ≤ k → (k ≠ g ∧ k ≠ h) ∧ some k ≠ vF.ownBlock := by
  intro k hk
  have h1 := blk_lt ho.blk
  have h2 := ho.gh
  exact ⟨⟨by omega, by omega⟩, fun e => by have := hF k e.symm; omega⟩
set_option maxHeartbeats 4000000 in
set_option maxRecDepth 100000 in
theorem place_g0 {g h base : Nat} {w : World} {end_ : Int} {r : RS} {A : Option Addr} {c : Nat} {o : RO} {vP vF : Value} (hr : RAt g w end_ r A c) (ho : OAt g h w base o vP vF) (hgb : g < base) (hbs : base ≤ w.heap.size) (hP : o.P.length ≤ 1048576) {x y v : Int × RS} {t : Tok} 
    (hx : r.number end_ (-4294967296) 4294967296 = x) (hy : x.2.number end_ (-4294967296) 4294967296 = y) (ht : y.2.peek end_ = t) (hne : tokNum (bytesOf t.f1) 0 = (0, 0)) (hv : (y.2.next).number end_ 1 1048576 = v) (hP0 : o.P = []) :
    Calls Tryd.prog 19 #[.pointer (some ⟨g, 0, none⟩), .pointer (some ⟨h, 0, none⟩)] w fun e w' => e = .returned (.tuple #[]) ∧ (∃ A' c', RAt g w' end_ (v.2) A' c') ∧ (∃ vP' vF', OAt g h w' base { P := o.P ++ [⟨x.1, y.1⟩], W := v.1, F := o.F } vP' vF') ∧ Below g w w' := by
  have C1 := Lib.hid (rnumber_calls hr (-4294967296) 4294967296 (by decide) (by decide) (by decide) (by decide))
  have tok1 : True := trivial
  have tok2 : True := trivial
  have tok3 : True := trivial
  have tok4 : True := trivial
  have tok5 : True := trivial
  have tok6 : True := trivial
  have tok7 : True := trivial
  have hlg := blk_lt hr.blk
  clear hr
  have hvF := Kd.R_lt ho.rf
  have HvF := Lib.hid hvF
  clear hvF
  obtain ⟨AP, cP, rfl, hcP, hCP⟩ := Kd.R_reads ho.rp
  clear hCP hcP
  have hnP0 : o.P.length = 0 := by rw [hP0]; rfl
  replace hP0 := Lib.hid hP0
  obtain ⟨nP, hnP⟩ : ∃ nP, o.P.length = nP := ⟨_, rfl⟩
  have ho2 := ho
  rw [hnP0] at ho2
  clear ho
  have ho := Lib.hid ho2
  clear ho2 hnP hnP0 nP
  have huo := Tryd.underlying25
  have hup := Tryd.underlying47
  rw [hx] at C1
  have C2 := Lib.hid (fun W A c (h : RAt g W end_ x.2 A c) => by have := rnumber_calls h (-4294967296) 4294967296 (by decide) (by decide) (by decide) (by decide); rw [hy] at this; exact this)
  have CT' := number_calls t.f1 0 (by decide) (by decide)
  rw [hne] at CT'
  have CT := Lib.hid CT'
  clear CT'
  have CP := Lib.hid (fun W A c (h : RAt g W end_ y.2 A c) => by have := peek_calls h; rw [ht] at this; exact this)
  have C3 := Lib.hid (fun W A c (h : RAt g W end_ (y.2.next) A c) => by have := rnumber_calls h 1 1048576 (by decide) (by decide) (by decide) (by decide); rw [hv] at this; exact this)
  obtain ⟨q, hq⟩ : ∃ q, (y.2.next).peek end_ = q := ⟨_, rfl⟩
  have CQ := Lib.hid (fun W A c (h : RAt g W end_ (y.2.next) A c) => by have := peek_calls h; rw [hq] at this; exact this)
  clear hx hy ht hne hv hq
  go_enter Tryd.func19, Tryd.ntmps19
  go_wp2_with (first
    | (go_at_call 33; have _t := tok1; refine C1.out.mono ?_; rintro e w1 ⟨rfl, ⟨A1, c1, hr1⟩, hb1, hk1⟩; have m1 := Lib.hid (Mv.mk hb1 hk1); replace hr1 := Lib.hid hr1; clear hb1 hk1 tok1)
    | (go_at_call 33; have _t := tok2; refine (C2.out _ _ _ hr1.out).mono ?_; rintro e w2 ⟨rfl, ⟨A2, c2, hr2⟩, hb2, hk2⟩; have m2 := Lib.hid (m1.out.trans (Mv.mk hb2 hk2)); have hl2 := Lib.hid (Nat.lt_of_lt_of_le hlg m2.out.k.1); replace hr2 := Lib.hid hr2; clear hb2 hk2 tok2)
    | (go_at_call 34; have _t := tok3; refine (CP.out _ _ _ (hr2.out.far (below_alloc (Below.refl _ _) _))).mono ?_; rintro e w3 ⟨rfl, hb3⟩; have mp3 := Lib.hid (Mv.of_below (Mv.refl g (w2.alloc (.cells #[.int .i64 x.1, .int .i64 y.1] 47))) (by simp; have := hl2.out; omega) hb3); have m3 := Lib.hid ((m2.out.alloc hlg _).of_below hlg hb3); have hr3 := Lib.hid (hr2.out.far (hop hb3)); have hl3 := Lib.hid (Nat.lt_of_lt_of_le hlg m3.out.k.1); clear hb3 tok3)
    | (go_at_call 35; refine (CT.out _).mono ?_; rintro e w4 ⟨rfl, hb4⟩; have hz4 := blk_below (Go.Deep.blk_alloc_new w3 _) hb4; have hzc0 : w4.cell? ⟨w3.heap.size, 0, none⟩ = some (.int .i64 t.f0) := (blk_cell hz4 0).trans rfl; have hzc1 : w4.cell? ⟨w3.heap.size, 1, none⟩ = some (.string t.f1) := (blk_cell hz4 1).trans rfl; clear hz4; have mp4 := Lib.hid (mp3.out.trans (Mv.of_below (Mv.alloc (Mv.refl g w3) hl3.out _) hl3.out hb4)); have m4 := Lib.hid ((m3.out.alloc hlg _).of_below hlg hb4); have hr4 := Lib.hid (hr3.out.far (hop hb4)); clear hb4)
    | (go_at_call 18; refine (next_calls hr4.out).mono ?_; rintro e w5 ⟨rfl, ⟨A5, c5, hr5⟩, hb5, hk5⟩; have mp5 := Lib.hid (mp4.out.trans (Mv.mk hb5 hk5)); have m5 := Lib.hid (m4.out.trans (Mv.mk hb5 hk5)); replace hr5 := Lib.hid hr5; clear hb5 hk5)
    | (go_at_call 34; have _t := tok5; refine (CQ.out _ _ _ hr5.out).mono ?_; rintro e w6 ⟨rfl, hb6⟩; have hl5 := Lib.hid (Nat.lt_of_lt_of_le hlg m5.out.k.1); have mp6 := Lib.hid (mp5.out.of_below (by simp; have := hl2.out; omega) hb6); have m6 := Lib.hid (m5.out.of_below hlg hb6); have hr6 := Lib.hid (hr5.out.far hb6); have hl6 := Lib.hid (Nat.lt_of_lt_of_le hlg m6.out.k.1); clear hb6 tok5)
    | (go_at_call 33; have _t := tok6; refine (C3.out _ _ _ (hr6.out.far (below_alloc (Below.refl _ _) _))).mono ?_; rintro e w7 ⟨rfl, ⟨A7, c7, hr7⟩, hb7, hk7⟩; have mp7 := Lib.hid ((mp6.out.alloc (by simp; have := hl2.out; omega) _).trans (Mv.mk hb7 hk7)); have m7 := Lib.hid ((m6.out.alloc hlg _).trans (Mv.mk hb7 hk7)); have hq7 := Mv.new (Mv.mk hb7 hk7) hl6.out; have hqc0 : w7.cell? ⟨w6.heap.size, 0, none⟩ = some (.int .i64 q.f0) := (blk_cell hq7 0).trans rfl; have hqc1 : w7.cell? ⟨w6.heap.size, 1, none⟩ = some (.string q.f1) := (blk_cell hq7 1).trans rfl; clear hq7; replace hr7 := Lib.hid hr7; have how7 := Lib.hid (ho.out.keep m7.out.k); have hpw7 := mp7.out.new hl2.out; have hpc0 : w7.cell? ⟨w2.heap.size, 0, none⟩ = some (.int .i64 x.1) := (blk_cell hpw7 0).trans rfl; have hpc1 : w7.cell? ⟨w2.heap.size, 1, none⟩ = some (.int .i64 y.1) := (blk_cell hpw7 1).trans rfl; clear hpw7; have hoc0 : w7.cell? ⟨h, 0, none⟩ = some (.slice AP 0 cP) := (blk_cell how7.out.blk 0).trans rfl; have hoc1 : w7.cell? ⟨h, 1, none⟩ = some (.int .i64 o.W) := (blk_cell how7.out.blk 1).trans rfl; clear hb7 hk7 tok6))
  have hoD := Lib.hid (how7.out.keep (KeepBut.of_below (below_drew (Below.refl _ _)) g none))
  have hrD := Lib.hid (hr7.out.far (below_drew (Below.refl _ _)))
  have mD := Lib.hid (m7.out.of_below hlg (below_drew (Below.refl _ _)))
  have hlp := Lib.hid (Nat.lt_of_lt_of_le hl2.out (Nat.le_refl _))
  clear hqc0 hqc1 hoc1
  refine start_ (n := 16) (S := fun w' => w'.cell? ⟨h, 0, none⟩ = some (.slice AP 0 cP) ∧ w'.cell? ⟨w2.heap.size, 0, none⟩ = some (.int .i64 x.1) ∧ w'.cell? ⟨w2.heap.size, 1, none⟩ = some (.int .i64 y.1)) (ds := [8, 12, 15]) #[false, false, false, false, false, false, false, false, false, false, false, false, false, false, false, false] (by kernel_rfl) rfl rfl ⟨pw_cell_below (below_drew (Below.refl _ _)) hoc0, pw_cell_below (below_drew (Below.refl _ _)) hpc0, pw_cell_below (below_drew (Below.refl _ _)) hpc1⟩ (fun hHeld => ?_)
  generalize w7.drew = wd at hHeld hoD hrD mD ⊢
  refine pure_ (i := 0) (N := some 55) (v := ?_) (a' := ?_) #[true, false, false, false, false, false, false, false, false, false, false, false, false, false, false, false] rfl rfl (by kernel_rfl) (fun _ _ _ h => h) (Or.inl ⟨by rfl, ?_⟩) ?_ ?_
  rotate_left
  · intro w'
    go_simp
    with_reducible rfl
  rotate_left
  · simp only [Act.put, List.setIfInBounds_toArray, List.set_cons_zero, List.set_cons_succ, i64_w, i32_w]
    rfl
  refine pure_ (i := 1) (N := some 56) (v := ?_) (a' := ?_) #[true, true, false, false, false, false, false, false, false, false, false, false, false, false, false, false] rfl rfl (by kernel_rfl) (fun _ _ _ h => h) (Or.inl ⟨by rfl, ?_⟩) ?_ ?_
  rotate_left
  · intro w'
    go_simp
    with_reducible rfl
  rotate_left
  · simp only [Act.put, List.setIfInBounds_toArray, List.set_cons_zero, List.set_cons_succ, i64_w, i32_w]
    rfl
  refine pure_ (i := 2) (N := some 57) (v := ?_) (a' := ?_) #[true, true, true, false, false, false, false, false, false, false, false, false, false, false, false, false] rfl rfl (by kernel_rfl) (fun _ _ _ h => h) (Or.inl ⟨by rfl, ?_⟩) ?_ ?_
  rotate_left
  · intro w'
    go_simp
    with_reducible rfl
  rotate_left
  · simp only [Act.put, List.setIfInBounds_toArray, List.set_cons_zero, List.set_cons_succ, i64_w, i32_w]
    rfl
  refine pure_ (i := 3) (N := some 58) (v := ?_) (a' := ?_) #[true, true, true, true, false, false, false, false, false, false, false, false, false, false, false, false] rfl rfl (by kernel_rfl) (fun _ _ _ h => h) (Or.inl ⟨by rfl, ?_⟩) ?_ ?_
  rotate_left
  · intro w'
    go_simp
    with_reducible rfl
  rotate_left
  · simp only [Act.put, List.setIfInBounds_toArray, List.set_cons_zero, List.set_cons_succ, i64_w, i32_w]
    rfl
  refine pure_ (i := 4) (N := some 59) (v := ?_) (a' := ?_) #[true, true, true, true, true, false, false, false, false, false, false, false, false, false, false, false] rfl rfl (by kernel_rfl) (fun _ _ _ h => h) (Or.inl ⟨by rfl, ?_⟩) ?_ ?_
  rotate_left
  · intro w'
    go_simp
    with_reducible rfl
  rotate_left
  · simp only [Act.put, List.setIfInBounds_toArray, List.set_cons_zero, List.set_cons_succ, i64_w, i32_w]
    rfl
  refine pure_ (i := 9) (N := some 64) (v := ?_) (a' := ?_) #[true, true, true, true, true, false, false, false, false, true, false, false, false, false, false, false] rfl rfl (by kernel_rfl) (fun _ _ _ h => h) (Or.inl ⟨by rfl, ?_⟩) ?_ ?_
  rotate_left
  · intro w'
    go_simp
    with_reducible rfl
  rotate_left
  · simp only [Act.put, List.setIfInBounds_toArray, List.set_cons_zero, List.set_cons_succ, i64_w, i32_w]
    rfl
  refine take_ (i := 5) (N := some 60) (v := ?_) (a' := ?_) #[true, true, true, true, true, true, false, false, false, true, false, false, false, false, false, false] rfl rfl (by kernel_rfl) (fun _ _ _ h => h) (Or.inl ⟨by rfl, ?_⟩) hHeld ?_ ?_
  rotate_left
  · rintro w' ⟨s0, s1, s2⟩
    go_simp
    with_reducible rfl
  rotate_left
  · simp only [Act.put, List.setIfInBounds_toArray, List.set_cons_zero, List.set_cons_succ, i64_w, i32_w]
    rfl
  refine take_ (i := 6) (N := some 61) (v := ?_) (a' := ?_) #[true, true, true, true, true, true, true, false, false, true, false, false, false, false, false, false] rfl rfl (by kernel_rfl) (fun _ _ _ h => h) (Or.inl ⟨by rfl, ?_⟩) hHeld ?_ ?_
  rotate_left
  · rintro w' ⟨s0, s1, s2⟩
    go_simp
    with_reducible rfl
  rotate_left
  · simp only [Act.put, List.setIfInBounds_toArray, List.set_cons_zero, List.set_cons_succ, i64_w, i32_w]
    rfl
  refine one_ (i := 7) (N := some 62) #[true, true, true, true, true, true, true, true, false, true, false, false, false, false, false, false] rfl rfl (by kernel_rfl) (by decide) (fun K hK => ?_)
  refine value_ (w1 := ?_) (v := ?_) (by rfl) rfl ?_ ?_
  rotate_left 2
  · go_simp
    constructor
    · rfl
    · rfl
  refine hK.out _ _ ⟨pw_cell_below (below_alloc (Below.refl _ _) _) hHeld.1, pw_cell_below (below_alloc (Below.refl _ _) _) hHeld.2.1, pw_cell_below (below_alloc (Below.refl _ _) _) hHeld.2.2⟩ (fun hHeld => ?_)
  clear hK K
  refine norm_ (a' := ?_) ?_ ?_
  rotate_left
  · show Act.put _ (some 62) _ = _
    simp only [Act.put, List.setIfInBounds_toArray, List.set_cons_zero, List.set_cons_succ, i64_w, i32_w]
    rfl
  refine last_ (i := 8) (N := some 63) #[true, true, true, true, true, true, true, true, true, true, false, false, false, false, false, false] rfl rfl (by kernel_rfl) (by decide) (fun K hK => ?_)
  refine Kd.R_append_step k47 (w0 := wd) (W := wd) base (by rfl) (.tmp 60) (.tmp 62) 22 47 (.agg #[.int .i64 0, .int .i64 0]) 16 (by rfl) Tryd.underlying22 infoPt rfl (by decide) (by omega) (.slice AP 0 cP) o.P ⟨x.1, y.1⟩ [.int .i64 x.1, .int .i64 y.1] (fun k => (k ≠ g ∧ k ≠ h) ∧ some k ≠ vF.ownBlock) (fun _ => False) (by rfl) (by rfl) (k47_mkM _ _ _ (⟨x.1, y.1⟩ : Pt)) (fun _ hk => hk.elim) (R_app hoD.out hgb (Nat.le_trans hbs mD.out.k.1) (fun k hk => Kd.R_lt hoD.out.rf k hk)) hoD.out.rp (Below.refl _ _) (Nat.le_trans hbs mD.out.k.1) (by omega) ?_
  intro v1 w9 hv9 _hb9 hg9 hat9
  obtain ⟨A9, c9, h9⟩ := Kd.R_slice hv9
  rw [List.length_append, List.length_singleton] at h9
  subst h9
  have hoP := hoD.out.put (v := v.1) hv9 hg9 hat9
  have hR9 := hrD.out.above (fun k hk => hg9.block k (Nat.lt_of_le_of_lt hk (blk_lt hrD.out.blk)) (fun e => by have := Kd.R_base hoD.out.rp k e.symm; omega))
  have hb9 : w9.heap[h]? = some (.cells #[.slice AP 0 cP, .int .i64 o.W, vF] 25 (0, 0)) := (hg9.block h (blk_lt hoD.out.blk) (fun e => (hoD.out.rp.1 h e.symm).1.2 rfl)).trans hoD.out.blk
  have hz0 : w9.frozen? ⟨h, 0, none⟩ = false := blk_frozen hb9 0
  have hz1 : w9.frozen? ⟨h, 1, none⟩ = false := blk_frozen hb9 1
  have hk9 := hg9.size
  have hlh := blk_lt hb9
  have hy0 : w9.cell? ⟨h, 0, none⟩ = some (.slice AP 0 cP) := (blk_cell hb9 0).trans rfl
  have hy1 : w9.cell? ⟨h, 1, none⟩ = some (.int .i64 o.W) := (blk_cell hb9 1).trans rfl
  have m9 := below_le' _hb9 (Nat.le_of_lt hgb)
  replace hoP := Lib.hid hoP
  replace hR9 := Lib.hid hR9
  replace hb9 := Lib.hid hb9
  replace hv9 := Lib.hid hv9
  replace hg9 := Lib.hid hg9
  replace hat9 := Lib.hid hat9
  replace _hb9 := Lib.hid _hb9
  replace m9 := Lib.hid m9
  refine hK.out _ _ ?_
  clear hK K
  refine norm_ (a' := ?_) ?_ ?_
  rotate_left
  · show Act.put _ (some 63) _ = _
    simp only [Act.put, List.setIfInBounds_toArray, List.set_cons_zero, List.set_cons_succ, i64_w, i32_w]
    rfl
  refine pure_ (i := 10) (N := some 65) (v := ?_) (a' := ?_) #[true, true, true, true, true, true, true, true, true, true, true, false, false, false, false, false] rfl rfl (by kernel_rfl) (fun _ _ _ h => h) (Or.inl ⟨by rfl, ?_⟩) ?_ ?_
  rotate_left
  · intro w'
    go_simp
    with_reducible rfl
  rotate_left
  · simp only [Act.put, List.setIfInBounds_toArray, List.set_cons_zero, List.set_cons_succ, i64_w, i32_w]
    rfl
  refine pure_ (i := 11) (N := some 66) (v := ?_) (a' := ?_) #[true, true, true, true, true, true, true, true, true, true, true, true, false, false, false, false] rfl rfl (by kernel_rfl) (fun _ _ _ h => h) (Or.inl ⟨by rfl, ?_⟩) ?_ ?_
  rotate_left
  · intro w'
    go_simp
    with_reducible rfl
  rotate_left
  · simp only [Act.put, List.setIfInBounds_toArray, List.set_cons_zero, List.set_cons_succ, i64_w, i32_w]
    rfl
  refine last_ (i := 12) (N := none) #[true, true, true, true, true, true, true, true, true, true, true, true, true, false, false, false] rfl rfl (by kernel_rfl) (by decide) (fun K hK => ?_)
  refine skip_ (w1 := ?_) (by rfl) rfl ?_ ?_
  rotate_left
  · go_simp
    rfl
  refine hK.out _ _ ?_
  clear hK K
  refine pure_ (i := 13) (N := some 67) (v := ?_) (a' := ?_) #[true, true, true, true, true, true, true, true, true, true, true, true, true, true, false, false] rfl rfl (by kernel_rfl) (fun _ _ _ h => h) (Or.inl ⟨by rfl, ?_⟩) ?_ ?_
  rotate_left
  · intro w'
    go_simp
    with_reducible rfl
  rotate_left
  · simp only [Act.put, List.setIfInBounds_toArray, List.set_cons_zero, List.set_cons_succ, i64_w, i32_w]
    rfl
  refine pure_ (i := 14) (N := some 68) (v := ?_) (a' := ?_) #[true, true, true, true, true, true, true, true, true, true, true, true, true, true, true, false] rfl rfl (by kernel_rfl) (fun _ _ _ h => h) (Or.inl ⟨by rfl, ?_⟩) ?_ ?_
  rotate_left
  · intro w'
    go_simp
    with_reducible rfl
  rotate_left
  · simp only [Act.put, List.setIfInBounds_toArray, List.set_cons_zero, List.set_cons_succ, i64_w, i32_w]
    rfl
  refine last_ (i := 15) (N := none) #[true, true, true, true, true, true, true, true, true, true, true, true, true, true, true, true] rfl rfl (by kernel_rfl) (by decide) (fun K hK => ?_)
  refine skip_ (w1 := ?_) (by rfl) rfl ?_ ?_
  rotate_left
  · go_simp
    rfl
  refine hK.out _ _ ?_
  clear hK K
  refine done_ (by kernel_rfl) ?_
  refine bodyPost_end (results_none rfl _ _ _) rfl ⟨rfl, ⟨_, _, (hR9.out.above (fun k hk => Below.heap_setCell _ ⟨h, 0, none⟩ _ k (by have := ho.out.gh; show k ≠ h; omega))).above (fun k hk => Below.heap_setCell _ ⟨h, 1, none⟩ _ k (by have := ho.out.gh; show k ≠ h; omega))⟩, ⟨_, _, hoP.out⟩, ((mD.out.b.trans m9.out).setCell (p := ⟨h, 0, none⟩) (Nat.le_of_lt ho.out.gh) _).setCell (p := ⟨h, 1, none⟩) (Nat.le_of_lt ho.out.gh) _⟩
set_option maxHeartbeats 4000000 in
set_option maxRecDepth 100000 in
theorem place_ge {g h base : Nat} {w : World} {end_ : Int} {r : RS} {A : Option Addr} {c : Nat} {o : RO} {vP vF : Value} (hr : RAt g w end_ r A c) (ho : OAt g h w base o vP vF) (hgb : g < base) (hbs : base ≤ w.heap.size) (hP : o.P.length ≤ 1048576) {x y v : Int × RS} {t : Tok} 
    (hx : r.number end_ (-4294967296) 4294967296 = x) (hy : x.2.number end_ (-4294967296) 4294967296 = y) (ht : y.2.peek end_ = t) (hne : tokNum (bytesOf t.f1) 0 = (0, 0)) (hv : (y.2.next).number end_ 1 1048576 = v) (hP0 : 0 < o.P.length) (hme : v.1 = o.W) :
    Calls Tryd.prog 19 #[.pointer (some ⟨g, 0, none⟩), .pointer (some ⟨h, 0, none⟩)] w fun e w' => e = .returned (.tuple #[]) ∧ (∃ A' c', RAt g w' end_ (v.2) A' c') ∧ (∃ vP' vF', OAt g h w' base { P := o.P ++ [⟨x.1, y.1⟩], W := v.1, F := o.F } vP' vF') ∧ Below g w w' := by
  have C1 := Lib.hid (rnumber_calls hr (-4294967296) 4294967296 (by decide) (by decide) (by decide) (by decide))
  have tok1 : True := trivial
  have tok2 : True := trivial
  have tok3 : True := trivial
  have tok4 : True := trivial
  have tok5 : True := trivial
  have tok6 : True := trivial
  have tok7 : True := trivial
  have hlg := blk_lt hr.blk
  clear hr
  have hvF := Kd.R_lt ho.rf
  have HvF := Lib.hid hvF
  clear hvF
  obtain ⟨AP, cP, rfl, hcP, hCP⟩ := Kd.R_reads ho.rp
  clear hCP hcP
  obtain ⟨nP, hnP⟩ : ∃ nP, o.P.length = nP := ⟨_, rfl⟩
  rw [hnP] at ho hP0 hP
  have hnn : (0 : Int) ≤ (nP : Int) := by omega
  have hd0 : decide (0 < nP) = true := decide_eq_true hP0
  have hd1 : (v.1 == o.W) = true := beq_iff_eq.2 hme
  have hd2 : (v.1 != o.W) = false := bne_eq_false_iff_eq.2 hme
  replace hme := Lib.hid hme
  replace hP0 := Lib.hid hP0
  replace hnP := Lib.hid hnP
  replace ho := Lib.hid ho
  have huo := Tryd.underlying25
  have hup := Tryd.underlying47
  rw [hx] at C1
  have C2 := Lib.hid (fun W A c (h : RAt g W end_ x.2 A c) => by have := rnumber_calls h (-4294967296) 4294967296 (by decide) (by decide) (by decide) (by decide); rw [hy] at this; exact this)
  have CT' := number_calls t.f1 0 (by decide) (by decide)
  rw [hne] at CT'
  have CT := Lib.hid CT'
  clear CT'
  have CP := Lib.hid (fun W A c (h : RAt g W end_ y.2 A c) => by have := peek_calls h; rw [ht] at this; exact this)
  have C3 := Lib.hid (fun W A c (h : RAt g W end_ (y.2.next) A c) => by have := rnumber_calls h 1 1048576 (by decide) (by decide) (by decide) (by decide); rw [hv] at this; exact this)
  obtain ⟨q, hq⟩ : ∃ q, (y.2.next).peek end_ = q := ⟨_, rfl⟩
  have CQ := Lib.hid (fun W A c (h : RAt g W end_ (y.2.next) A c) => by have := peek_calls h; rw [hq] at this; exact this)
  clear hx hy ht hne hv hq
  go_enter Tryd.func19, Tryd.ntmps19
  go_wp2_with (first
    | (go_at_call 33; have _t := tok1; refine C1.out.mono ?_; rintro e w1 ⟨rfl, ⟨A1, c1, hr1⟩, hb1, hk1⟩; have m1 := Lib.hid (Mv.mk hb1 hk1); replace hr1 := Lib.hid hr1; clear hb1 hk1 tok1)
    | (go_at_call 33; have _t := tok2; refine (C2.out _ _ _ hr1.out).mono ?_; rintro e w2 ⟨rfl, ⟨A2, c2, hr2⟩, hb2, hk2⟩; have m2 := Lib.hid (m1.out.trans (Mv.mk hb2 hk2)); have hl2 := Lib.hid (Nat.lt_of_lt_of_le hlg m2.out.k.1); replace hr2 := Lib.hid hr2; clear hb2 hk2 tok2)
    | (go_at_call 34; have _t := tok3; refine (CP.out _ _ _ (hr2.out.far (below_alloc (Below.refl _ _) _))).mono ?_; rintro e w3 ⟨rfl, hb3⟩; have mp3 := Lib.hid (Mv.of_below (Mv.refl g (w2.alloc (.cells #[.int .i64 x.1, .int .i64 y.1] 47))) (by simp; have := hl2.out; omega) hb3); have m3 := Lib.hid ((m2.out.alloc hlg _).of_below hlg hb3); have hr3 := Lib.hid (hr2.out.far (hop hb3)); have hl3 := Lib.hid (Nat.lt_of_lt_of_le hlg m3.out.k.1); clear hb3 tok3)
    | (go_at_call 35; refine (CT.out _).mono ?_; rintro e w4 ⟨rfl, hb4⟩; have hz4 := blk_below (Go.Deep.blk_alloc_new w3 _) hb4; have hzc0 : w4.cell? ⟨w3.heap.size, 0, none⟩ = some (.int .i64 t.f0) := (blk_cell hz4 0).trans rfl; have hzc1 : w4.cell? ⟨w3.heap.size, 1, none⟩ = some (.string t.f1) := (blk_cell hz4 1).trans rfl; clear hz4; have mp4 := Lib.hid (mp3.out.trans (Mv.of_below (Mv.alloc (Mv.refl g w3) hl3.out _) hl3.out hb4)); have m4 := Lib.hid ((m3.out.alloc hlg _).of_below hlg hb4); have hr4 := Lib.hid (hr3.out.far (hop hb4)); clear hb4)
    | (go_at_call 18; refine (next_calls hr4.out).mono ?_; rintro e w5 ⟨rfl, ⟨A5, c5, hr5⟩, hb5, hk5⟩; have mp5 := Lib.hid (mp4.out.trans (Mv.mk hb5 hk5)); have m5 := Lib.hid (m4.out.trans (Mv.mk hb5 hk5)); replace hr5 := Lib.hid hr5; clear hb5 hk5)
    | (go_at_call 34; have _t := tok5; refine (CQ.out _ _ _ hr5.out).mono ?_; rintro e w6 ⟨rfl, hb6⟩; have hl5 := Lib.hid (Nat.lt_of_lt_of_le hlg m5.out.k.1); have mp6 := Lib.hid (mp5.out.of_below (by simp; have := hl2.out; omega) hb6); have m6 := Lib.hid (m5.out.of_below hlg hb6); have hr6 := Lib.hid (hr5.out.far hb6); have hl6 := Lib.hid (Nat.lt_of_lt_of_le hlg m6.out.k.1); clear hb6 tok5)
    | (go_at_call 33; have _t := tok6; refine (C3.out _ _ _ (hr6.out.far (below_alloc (Below.refl _ _) _))).mono ?_; rintro e w7 ⟨rfl, ⟨A7, c7, hr7⟩, hb7, hk7⟩; have mp7 := Lib.hid ((mp6.out.alloc (by simp; have := hl2.out; omega) _).trans (Mv.mk hb7 hk7)); have m7 := Lib.hid ((m6.out.alloc hlg _).trans (Mv.mk hb7 hk7)); have hq7 := Mv.new (Mv.mk hb7 hk7) hl6.out; have hqc0 : w7.cell? ⟨w6.heap.size, 0, none⟩ = some (.int .i64 q.f0) := (blk_cell hq7 0).trans rfl; have hqc1 : w7.cell? ⟨w6.heap.size, 1, none⟩ = some (.string q.f1) := (blk_cell hq7 1).trans rfl; clear hq7; replace hr7 := Lib.hid hr7; have how7 := Lib.hid (ho.out.keep m7.out.k); have hpw7 := mp7.out.new hl2.out; have hpc0 : w7.cell? ⟨w2.heap.size, 0, none⟩ = some (.int .i64 x.1) := (blk_cell hpw7 0).trans rfl; have hpc1 : w7.cell? ⟨w2.heap.size, 1, none⟩ = some (.int .i64 y.1) := (blk_cell hpw7 1).trans rfl; clear hpw7; have hoc0 : w7.cell? ⟨h, 0, none⟩ = some (.slice AP nP cP) := (blk_cell how7.out.blk 0).trans rfl; have hoc1 : w7.cell? ⟨h, 1, none⟩ = some (.int .i64 o.W) := (blk_cell how7.out.blk 1).trans rfl; clear hb7 hk7 tok6))
  have hoD := Lib.hid (how7.out.keep (KeepBut.of_below (below_drew (Below.refl _ _)) g none))
  have hrD := Lib.hid (hr7.out.far (below_drew (Below.refl _ _)))
  have mD := Lib.hid (m7.out.of_below hlg (below_drew (Below.refl _ _)))
  have hlp := Lib.hid (Nat.lt_of_lt_of_le hl2.out (Nat.le_refl _))
  clear hqc0 hqc1 hoc1
  refine start_ (n := 16) (S := fun w' => w'.cell? ⟨h, 0, none⟩ = some (.slice AP nP cP) ∧ w'.cell? ⟨w2.heap.size, 0, none⟩ = some (.int .i64 x.1) ∧ w'.cell? ⟨w2.heap.size, 1, none⟩ = some (.int .i64 y.1)) (ds := [8, 12, 15]) #[false, false, false, false, false, false, false, false, false, false, false, false, false, false, false, false] (by kernel_rfl) rfl rfl ⟨pw_cell_below (below_drew (Below.refl _ _)) hoc0, pw_cell_below (below_drew (Below.refl _ _)) hpc0, pw_cell_below (below_drew (Below.refl _ _)) hpc1⟩ (fun hHeld => ?_)
  generalize w7.drew = wd at hHeld hoD hrD mD ⊢
  refine pure_ (i := 0) (N := some 55) (v := ?_) (a' := ?_) #[true, false, false, false, false, false, false, false, false, false, false, false, false, false, false, false] rfl rfl (by kernel_rfl) (fun _ _ _ h => h) (Or.inl ⟨by rfl, ?_⟩) ?_ ?_
  rotate_left
  · intro w'
    go_simp
    with_reducible rfl
  rotate_left
  · simp only [Act.put, List.setIfInBounds_toArray, List.set_cons_zero, List.set_cons_succ, i64_w, i32_w]
    rfl
  refine pure_ (i := 1) (N := some 56) (v := ?_) (a' := ?_) #[true, true, false, false, false, false, false, false, false, false, false, false, false, false, false, false] rfl rfl (by kernel_rfl) (fun _ _ _ h => h) (Or.inl ⟨by rfl, ?_⟩) ?_ ?_
  rotate_left
  · intro w'
    go_simp
    with_reducible rfl
  rotate_left
  · simp only [Act.put, List.setIfInBounds_toArray, List.set_cons_zero, List.set_cons_succ, i64_w, i32_w]
    rfl
  refine pure_ (i := 2) (N := some 57) (v := ?_) (a' := ?_) #[true, true, true, false, false, false, false, false, false, false, false, false, false, false, false, false] rfl rfl (by kernel_rfl) (fun _ _ _ h => h) (Or.inl ⟨by rfl, ?_⟩) ?_ ?_
  rotate_left
  · intro w'
    go_simp
    with_reducible rfl
  rotate_left
  · simp only [Act.put, List.setIfInBounds_toArray, List.set_cons_zero, List.set_cons_succ, i64_w, i32_w]
    rfl
  refine pure_ (i := 3) (N := some 58) (v := ?_) (a' := ?_) #[true, true, true, true, false, false, false, false, false, false, false, false, false, false, false, false] rfl rfl (by kernel_rfl) (fun _ _ _ h => h) (Or.inl ⟨by rfl, ?_⟩) ?_ ?_
  rotate_left
  · intro w'
    go_simp
    with_reducible rfl
  rotate_left
  · simp only [Act.put, List.setIfInBounds_toArray, List.set_cons_zero, List.set_cons_succ, i64_w, i32_w]
    rfl
  refine pure_ (i := 4) (N := some 59) (v := ?_) (a' := ?_) #[true, true, true, true, true, false, false, false, false, false, false, false, false, false, false, false] rfl rfl (by kernel_rfl) (fun _ _ _ h => h) (Or.inl ⟨by rfl, ?_⟩) ?_ ?_
  rotate_left
  · intro w'
    go_simp
    with_reducible rfl
  rotate_left
  · simp only [Act.put, List.setIfInBounds_toArray, List.set_cons_zero, List.set_cons_succ, i64_w, i32_w]
    rfl
  refine pure_ (i := 9) (N := some 64) (v := ?_) (a' := ?_) #[true, true, true, true, true, false, false, false, false, true, false, false, false, false, false, false] rfl rfl (by kernel_rfl) (fun _ _ _ h => h) (Or.inl ⟨by rfl, ?_⟩) ?_ ?_
  rotate_left
  · intro w'
    go_simp
    with_reducible rfl
  rotate_left
  · simp only [Act.put, List.setIfInBounds_toArray, List.set_cons_zero, List.set_cons_succ, i64_w, i32_w]
    rfl
  refine take_ (i := 5) (N := some 60) (v := ?_) (a' := ?_) #[true, true, true, true, true, true, false, false, false, true, false, false, false, false, false, false] rfl rfl (by kernel_rfl) (fun _ _ _ h => h) (Or.inl ⟨by rfl, ?_⟩) hHeld ?_ ?_
  rotate_left
  · rintro w' ⟨s0, s1, s2⟩
    go_simp
    with_reducible rfl
  rotate_left
  · simp only [Act.put, List.setIfInBounds_toArray, List.set_cons_zero, List.set_cons_succ, i64_w, i32_w]
    rfl
  refine take_ (i := 6) (N := some 61) (v := ?_) (a' := ?_) #[true, true, true, true, true, true, true, false, false, true, false, false, false, false, false, false] rfl rfl (by kernel_rfl) (fun _ _ _ h => h) (Or.inl ⟨by rfl, ?_⟩) hHeld ?_ ?_
  rotate_left
  · rintro w' ⟨s0, s1, s2⟩
    go_simp
    with_reducible rfl
  rotate_left
  · simp only [Act.put, List.setIfInBounds_toArray, List.set_cons_zero, List.set_cons_succ, i64_w, i32_w]
    rfl
  refine one_ (i := 7) (N := some 62) #[true, true, true, true, true, true, true, true, false, true, false, false, false, false, false, false] rfl rfl (by kernel_rfl) (by decide) (fun K hK => ?_)
  refine value_ (w1 := ?_) (v := ?_) (by rfl) rfl ?_ ?_
  rotate_left 2
  · go_simp
    constructor
    · rfl
    · rfl
  refine hK.out _ _ ⟨pw_cell_below (below_alloc (Below.refl _ _) _) hHeld.1, pw_cell_below (below_alloc (Below.refl _ _) _) hHeld.2.1, pw_cell_below (below_alloc (Below.refl _ _) _) hHeld.2.2⟩ (fun hHeld => ?_)
  clear hK K
  refine norm_ (a' := ?_) ?_ ?_
  rotate_left
  · show Act.put _ (some 62) _ = _
    simp only [Act.put, List.setIfInBounds_toArray, List.set_cons_zero, List.set_cons_succ, i64_w, i32_w]
    rfl
  refine last_ (i := 8) (N := some 63) #[true, true, true, true, true, true, true, true, true, true, false, false, false, false, false, false] rfl rfl (by kernel_rfl) (by decide) (fun K hK => ?_)
  refine Kd.R_append_step k47 (w0 := wd) (W := wd) base (by rfl) (.tmp 60) (.tmp 62) 22 47 (.agg #[.int .i64 0, .int .i64 0]) 16 (by rfl) Tryd.underlying22 infoPt rfl (by decide) (by omega) (.slice AP nP cP) o.P ⟨x.1, y.1⟩ [.int .i64 x.1, .int .i64 y.1] (fun k => (k ≠ g ∧ k ≠ h) ∧ some k ≠ vF.ownBlock) (fun _ => False) (by rfl) (by rfl) (k47_mkM _ _ _ (⟨x.1, y.1⟩ : Pt)) (fun _ hk => hk.elim) (R_app hoD.out hgb (Nat.le_trans hbs mD.out.k.1) (fun k hk => Kd.R_lt hoD.out.rf k hk)) hoD.out.rp (Below.refl _ _) (Nat.le_trans hbs mD.out.k.1) (by rw [hnP.out]; omega) ?_
  intro v1 w9 hv9 _hb9 hg9 hat9
  obtain ⟨A9, c9, h9⟩ := Kd.R_slice hv9
  rw [List.length_append, List.length_singleton] at h9
  subst h9
  have hoP := hoD.out.put (v := v.1) hv9 hg9 hat9
  have hR9 := hrD.out.above (fun k hk => hg9.block k (Nat.lt_of_le_of_lt hk (blk_lt hrD.out.blk)) (fun e => by have := Kd.R_base hoD.out.rp k e.symm; omega))
  have hb9 : w9.heap[h]? = some (.cells #[.slice AP nP cP, .int .i64 o.W, vF] 25 (0, 0)) := (hg9.block h (blk_lt hoD.out.blk) (fun e => (hoD.out.rp.1 h e.symm).1.2 rfl)).trans hoD.out.blk
  have hz0 : w9.frozen? ⟨h, 0, none⟩ = false := blk_frozen hb9 0
  have hz1 : w9.frozen? ⟨h, 1, none⟩ = false := blk_frozen hb9 1
  have hk9 := hg9.size
  have hlh := blk_lt hb9
  have hy0 : w9.cell? ⟨h, 0, none⟩ = some (.slice AP nP cP) := (blk_cell hb9 0).trans rfl
  have hy1 : w9.cell? ⟨h, 1, none⟩ = some (.int .i64 o.W) := (blk_cell hb9 1).trans rfl
  have m9 := below_le' _hb9 (Nat.le_of_lt hgb)
  replace hoP := Lib.hid hoP
  replace hR9 := Lib.hid hR9
  replace hb9 := Lib.hid hb9
  replace hv9 := Lib.hid hv9
  replace hg9 := Lib.hid hg9
  replace hat9 := Lib.hid hat9
  replace _hb9 := Lib.hid _hb9
  replace m9 := Lib.hid m9
  refine hK.out _ _ ?_
  clear hK K
  refine norm_ (a' := ?_) ?_ ?_
  rotate_left
  · show Act.put _ (some 63) _ = _
    simp only [Act.put, List.setIfInBounds_toArray, List.set_cons_zero, List.set_cons_succ, i64_w, i32_w]
    rfl
  refine pure_ (i := 10) (N := some 65) (v := ?_) (a' := ?_) #[true, true, true, true, true, true, true, true, true, true, true, false, false, false, false, false] rfl rfl (by kernel_rfl) (fun _ _ _ h => h) (Or.inl ⟨by rfl, ?_⟩) ?_ ?_
  rotate_left
  · intro w'
    go_simp
    with_reducible rfl
  rotate_left
  · simp only [Act.put, List.setIfInBounds_toArray, List.set_cons_zero, List.set_cons_succ, i64_w, i32_w]
    rfl
  refine pure_ (i := 11) (N := some 66) (v := ?_) (a' := ?_) #[true, true, true, true, true, true, true, true, true, true, true, true, false, false, false, false] rfl rfl (by kernel_rfl) (fun _ _ _ h => h) (Or.inl ⟨by rfl, ?_⟩) ?_ ?_
  rotate_left
  · intro w'
    go_simp
    with_reducible rfl
  rotate_left
  · simp only [Act.put, List.setIfInBounds_toArray, List.set_cons_zero, List.set_cons_succ, i64_w, i32_w]
    rfl
  refine last_ (i := 12) (N := none) #[true, true, true, true, true, true, true, true, true, true, true, true, true, false, false, false] rfl rfl (by kernel_rfl) (by decide) (fun K hK => ?_)
  refine skip_ (w1 := ?_) (by rfl) rfl ?_ ?_
  rotate_left
  · go_simp
    rfl
  refine hK.out _ _ ?_
  clear hK K
  refine pure_ (i := 13) (N := some 67) (v := ?_) (a' := ?_) #[true, true, true, true, true, true, true, true, true, true, true, true, true, true, false, false] rfl rfl (by kernel_rfl) (fun _ _ _ h => h) (Or.inl ⟨by rfl, ?_⟩) ?_ ?_
  rotate_left
  · intro w'
    go_simp
    with_reducible rfl
  rotate_left
  · simp only [Act.put, List.setIfInBounds_toArray, List.set_cons_zero, List.set_cons_succ, i64_w, i32_w]
    rfl
  refine pure_ (i := 14) (N := some 68) (v := ?_) (a' := ?_) #[true, true, true, true, true, true, true, true, true, true, true, true, true, true, true, false] rfl rfl (by kernel_rfl) (fun _ _ _ h => h) (Or.inl ⟨by rfl, ?_⟩) ?_ ?_
  rotate_left
  · intro w'
    go_simp
    with_reducible rfl
  rotate_left
  · simp only [Act.put, List.setIfInBounds_toArray, List.set_cons_zero, List.set_cons_succ, i64_w, i32_w]
    rfl
  refine last_ (i := 15) (N := none) #[true, true, true, true, true, true, true, true, true, true, true, true, true, true, true, true] rfl rfl (by kernel_rfl) (by decide) (fun K hK => ?_)
  refine skip_ (w1 := ?_) (by rfl) rfl ?_ ?_
  rotate_left
  · go_simp
    rfl
  refine hK.out _ _ ?_
  clear hK K
  refine done_ (by kernel_rfl) ?_
  refine bodyPost_end (results_none rfl _ _ _) rfl ⟨rfl, ⟨_, _, (hR9.out.above (fun k hk => Below.heap_setCell _ ⟨h, 0, none⟩ _ k (by have := ho.out.gh; show k ≠ h; omega))).above (fun k hk => Below.heap_setCell _ ⟨h, 1, none⟩ _ k (by have := ho.out.gh; show k ≠ h; omega))⟩, ⟨_, _, hoP.out⟩, ((mD.out.b.trans m9.out).setCell (p := ⟨h, 0, none⟩) (Nat.le_of_lt ho.out.gh) _).setCell (p := ⟨h, 1, none⟩) (Nat.le_of_lt ho.out.gh) _⟩
set_option maxHeartbeats 4000000 in
set_option maxRecDepth 100000 in
theorem place_gn {g h base : Nat} {w : World} {end_ : Int} {r : RS} {A : Option Addr} {c : Nat} {o : RO} {vP vF : Value} (hr : RAt g w end_ r A c) (ho : OAt g h w base o vP vF) (hgb : g < base) (hbs : base ≤ w.heap.size) (hP : o.P.length ≤ 1048576) {x y v : Int × RS} {t : Tok} 
    (hx : r.number end_ (-4294967296) 4294967296 = x) (hy : x.2.number end_ (-4294967296) 4294967296 = y) (ht : y.2.peek end_ = t) (hne : tokNum (bytesOf t.f1) 0 = (0, 0)) (hv : (y.2.next).number end_ 1 1048576 = v) (hP0 : 0 < o.P.length) (hme : v.1 ≠ o.W) :
    Calls Tryd.prog 19 #[.pointer (some ⟨g, 0, none⟩), .pointer (some ⟨h, 0, none⟩)] w fun e w' => e = .returned (.tuple #[]) ∧ (∃ A' c', RAt g w' end_ (v.2.wrong (y.2.next.peek end_) 11) A' c') ∧ (∃ vP' vF', OAt g h w' base { P := o.P ++ [⟨x.1, y.1⟩], W := v.1, F := o.F } vP' vF') ∧ Below g w w' := by
  have C1 := Lib.hid (rnumber_calls hr (-4294967296) 4294967296 (by decide) (by decide) (by decide) (by decide))
  have tok1 : True := trivial
  have tok2 : True := trivial
  have tok3 : True := trivial
  have tok4 : True := trivial
  have tok5 : True := trivial
  have tok6 : True := trivial
  have tok7 : True := trivial
  have hlg := blk_lt hr.blk
  clear hr
  have hvF := Kd.R_lt ho.rf
  have HvF := Lib.hid hvF
  clear hvF
  obtain ⟨AP, cP, rfl, hcP, hCP⟩ := Kd.R_reads ho.rp
  clear hCP hcP
  obtain ⟨nP, hnP⟩ : ∃ nP, o.P.length = nP := ⟨_, rfl⟩
  rw [hnP] at ho hP0 hP
  have hnn : (0 : Int) ≤ (nP : Int) := by omega
  have hd0 : decide (0 < nP) = true := decide_eq_true hP0
  have hd1 : (v.1 != o.W) = true := bne_iff_ne.2 hme
  have hd2 : (v.1 == o.W) = false := beq_eq_false_iff_ne.2 hme
  replace hme := Lib.hid hme
  replace hP0 := Lib.hid hP0
  replace hnP := Lib.hid hnP
  replace ho := Lib.hid ho
  have huo := Tryd.underlying25
  have hup := Tryd.underlying47
  rw [hx] at C1
  have C2 := Lib.hid (fun W A c (h : RAt g W end_ x.2 A c) => by have := rnumber_calls h (-4294967296) 4294967296 (by decide) (by decide) (by decide) (by decide); rw [hy] at this; exact this)
  have CT' := number_calls t.f1 0 (by decide) (by decide)
  rw [hne] at CT'
  have CT := Lib.hid CT'
  clear CT'
  have CP := Lib.hid (fun W A c (h : RAt g W end_ y.2 A c) => by have := peek_calls h; rw [ht] at this; exact this)
  have C3 := Lib.hid (fun W A c (h : RAt g W end_ (y.2.next) A c) => by have := rnumber_calls h 1 1048576 (by decide) (by decide) (by decide) (by decide); rw [hv] at this; exact this)
  obtain ⟨q, hq⟩ : ∃ q, (y.2.next).peek end_ = q := ⟨_, rfl⟩
  have CQ := Lib.hid (fun W A c (h : RAt g W end_ (y.2.next) A c) => by have := peek_calls h; rw [hq] at this; exact this)
  rw [hq]
  clear hx hy ht hne hv hq
  go_enter Tryd.func19, Tryd.ntmps19
  go_wp2_with (first
    | (go_at_call 33; have _t := tok1; refine C1.out.mono ?_; rintro e w1 ⟨rfl, ⟨A1, c1, hr1⟩, hb1, hk1⟩; have m1 := Lib.hid (Mv.mk hb1 hk1); replace hr1 := Lib.hid hr1; clear hb1 hk1 tok1)
    | (go_at_call 33; have _t := tok2; refine (C2.out _ _ _ hr1.out).mono ?_; rintro e w2 ⟨rfl, ⟨A2, c2, hr2⟩, hb2, hk2⟩; have m2 := Lib.hid (m1.out.trans (Mv.mk hb2 hk2)); have hl2 := Lib.hid (Nat.lt_of_lt_of_le hlg m2.out.k.1); replace hr2 := Lib.hid hr2; clear hb2 hk2 tok2)
    | (go_at_call 34; have _t := tok3; refine (CP.out _ _ _ (hr2.out.far (below_alloc (Below.refl _ _) _))).mono ?_; rintro e w3 ⟨rfl, hb3⟩; have mp3 := Lib.hid (Mv.of_below (Mv.refl g (w2.alloc (.cells #[.int .i64 x.1, .int .i64 y.1] 47))) (by simp; have := hl2.out; omega) hb3); have m3 := Lib.hid ((m2.out.alloc hlg _).of_below hlg hb3); have hr3 := Lib.hid (hr2.out.far (hop hb3)); have hl3 := Lib.hid (Nat.lt_of_lt_of_le hlg m3.out.k.1); clear hb3 tok3)
    | (go_at_call 35; refine (CT.out _).mono ?_; rintro e w4 ⟨rfl, hb4⟩; have hz4 := blk_below (Go.Deep.blk_alloc_new w3 _) hb4; have hzc0 : w4.cell? ⟨w3.heap.size, 0, none⟩ = some (.int .i64 t.f0) := (blk_cell hz4 0).trans rfl; have hzc1 : w4.cell? ⟨w3.heap.size, 1, none⟩ = some (.string t.f1) := (blk_cell hz4 1).trans rfl; clear hz4; have mp4 := Lib.hid (mp3.out.trans (Mv.of_below (Mv.alloc (Mv.refl g w3) hl3.out _) hl3.out hb4)); have m4 := Lib.hid ((m3.out.alloc hlg _).of_below hlg hb4); have hr4 := Lib.hid (hr3.out.far (hop hb4)); clear hb4)
    | (go_at_call 18; refine (next_calls hr4.out).mono ?_; rintro e w5 ⟨rfl, ⟨A5, c5, hr5⟩, hb5, hk5⟩; have mp5 := Lib.hid (mp4.out.trans (Mv.mk hb5 hk5)); have m5 := Lib.hid (m4.out.trans (Mv.mk hb5 hk5)); replace hr5 := Lib.hid hr5; clear hb5 hk5)
    | (go_at_call 34; have _t := tok5; refine (CQ.out _ _ _ hr5.out).mono ?_; rintro e w6 ⟨rfl, hb6⟩; have hl5 := Lib.hid (Nat.lt_of_lt_of_le hlg m5.out.k.1); have mp6 := Lib.hid (mp5.out.of_below (by simp; have := hl2.out; omega) hb6); have m6 := Lib.hid (m5.out.of_below hlg hb6); have hr6 := Lib.hid (hr5.out.far hb6); have hl6 := Lib.hid (Nat.lt_of_lt_of_le hlg m6.out.k.1); clear hb6 tok5)
    | (go_at_call 33; have _t := tok6; refine (C3.out _ _ _ (hr6.out.far (below_alloc (Below.refl _ _) _))).mono ?_; rintro e w7 ⟨rfl, ⟨A7, c7, hr7⟩, hb7, hk7⟩; have mp7 := Lib.hid ((mp6.out.alloc (by simp; have := hl2.out; omega) _).trans (Mv.mk hb7 hk7)); have m7 := Lib.hid ((m6.out.alloc hlg _).trans (Mv.mk hb7 hk7)); have hq7 := Mv.new (Mv.mk hb7 hk7) hl6.out; have hqc0 : w7.cell? ⟨w6.heap.size, 0, none⟩ = some (.int .i64 q.f0) := (blk_cell hq7 0).trans rfl; have hqc1 : w7.cell? ⟨w6.heap.size, 1, none⟩ = some (.string q.f1) := (blk_cell hq7 1).trans rfl; clear hq7; replace hr7 := Lib.hid hr7; have how7 := Lib.hid (ho.out.keep m7.out.k); have hpw7 := mp7.out.new hl2.out; have hpc0 : w7.cell? ⟨w2.heap.size, 0, none⟩ = some (.int .i64 x.1) := (blk_cell hpw7 0).trans rfl; have hpc1 : w7.cell? ⟨w2.heap.size, 1, none⟩ = some (.int .i64 y.1) := (blk_cell hpw7 1).trans rfl; clear hpw7; have hoc0 : w7.cell? ⟨h, 0, none⟩ = some (.slice AP nP cP) := (blk_cell how7.out.blk 0).trans rfl; have hoc1 : w7.cell? ⟨h, 1, none⟩ = some (.int .i64 o.W) := (blk_cell how7.out.blk 1).trans rfl; clear hb7 hk7 tok6)
    | (go_at_call 21; have _t := tok7; refine (wrong_calls hr7.out q 11).mono ?_; rintro e w8 ⟨rfl, hr8, hb8, hk8⟩; have mp8 := Lib.hid (mp7.out.trans (Mv.mk hb8 hk8)); have m8 := Lib.hid (m7.out.trans (Mv.mk hb8 hk8)); replace hr8 := Lib.hid hr8; clear hpc0 hpc1 hoc0 hoc1; have how8 := Lib.hid (ho.out.keep m8.out.k); have hpw8 := mp8.out.new hl2.out; have hpc0 : w8.cell? ⟨w2.heap.size, 0, none⟩ = some (.int .i64 x.1) := (blk_cell hpw8 0).trans rfl; have hpc1 : w8.cell? ⟨w2.heap.size, 1, none⟩ = some (.int .i64 y.1) := (blk_cell hpw8 1).trans rfl; clear hpw8; have hoc0 : w8.cell? ⟨h, 0, none⟩ = some (.slice AP nP cP) := (blk_cell how8.out.blk 0).trans rfl; have hoc1 : w8.cell? ⟨h, 1, none⟩ = some (.int .i64 o.W) := (blk_cell how8.out.blk 1).trans rfl; clear hb8 hk8 tok7))
  have hoD := Lib.hid (how8.out.keep (KeepBut.of_below (below_drew (Below.refl _ _)) g none))
  have hrD := Lib.hid (hr8.out.far (below_drew (Below.refl _ _)))
  have mD := Lib.hid (m8.out.of_below hlg (below_drew (Below.refl _ _)))
  have hlp := Lib.hid (Nat.lt_of_lt_of_le hl2.out (Nat.le_refl _))
  clear hqc0 hqc1 hoc1
  refine start_ (n := 16) (S := fun w' => w'.cell? ⟨h, 0, none⟩ = some (.slice AP nP cP) ∧ w'.cell? ⟨w2.heap.size, 0, none⟩ = some (.int .i64 x.1) ∧ w'.cell? ⟨w2.heap.size, 1, none⟩ = some (.int .i64 y.1)) (ds := [8, 12, 15]) #[false, false, false, false, false, false, false, false, false, false, false, false, false, false, false, false] (by kernel_rfl) rfl rfl ⟨pw_cell_below (below_drew (Below.refl _ _)) hoc0, pw_cell_below (below_drew (Below.refl _ _)) hpc0, pw_cell_below (below_drew (Below.refl _ _)) hpc1⟩ (fun hHeld => ?_)
  generalize w8.drew = wd at hHeld hoD hrD mD ⊢
  refine pure_ (i := 0) (N := some 55) (v := ?_) (a' := ?_) #[true, false, false, false, false, false, false, false, false, false, false, false, false, false, false, false] rfl rfl (by kernel_rfl) (fun _ _ _ h => h) (Or.inl ⟨by rfl, ?_⟩) ?_ ?_
  rotate_left
  · intro w'
    go_simp
    with_reducible rfl
  rotate_left
  · simp only [Act.put, List.setIfInBounds_toArray, List.set_cons_zero, List.set_cons_succ, i64_w, i32_w]
    rfl
  refine pure_ (i := 1) (N := some 56) (v := ?_) (a' := ?_) #[true, true, false, false, false, false, false, false, false, false, false, false, false, false, false, false] rfl rfl (by kernel_rfl) (fun _ _ _ h => h) (Or.inl ⟨by rfl, ?_⟩) ?_ ?_
  rotate_left
  · intro w'
    go_simp
    with_reducible rfl
  rotate_left
  · simp only [Act.put, List.setIfInBounds_toArray, List.set_cons_zero, List.set_cons_succ, i64_w, i32_w]
    rfl
  refine pure_ (i := 2) (N := some 57) (v := ?_) (a' := ?_) #[true, true, true, false, false, false, false, false, false, false, false, false, false, false, false, false] rfl rfl (by kernel_rfl) (fun _ _ _ h => h) (Or.inl ⟨by rfl, ?_⟩) ?_ ?_
  rotate_left
  · intro w'
    go_simp
    with_reducible rfl
  rotate_left
  · simp only [Act.put, List.setIfInBounds_toArray, List.set_cons_zero, List.set_cons_succ, i64_w, i32_w]
    rfl
  refine pure_ (i := 3) (N := some 58) (v := ?_) (a' := ?_) #[true, true, true, true, false, false, false, false, false, false, false, false, false, false, false, false] rfl rfl (by kernel_rfl) (fun _ _ _ h => h) (Or.inl ⟨by rfl, ?_⟩) ?_ ?_
  rotate_left
  · intro w'
    go_simp
    with_reducible rfl
  rotate_left
  · simp only [Act.put, List.setIfInBounds_toArray, List.set_cons_zero, List.set_cons_succ, i64_w, i32_w]
    rfl
  refine pure_ (i := 4) (N := some 59) (v := ?_) (a' := ?_) #[true, true, true, true, true, false, false, false, false, false, false, false, false, false, false, false] rfl rfl (by kernel_rfl) (fun _ _ _ h => h) (Or.inl ⟨by rfl, ?_⟩) ?_ ?_
  rotate_left
  · intro w'
    go_simp
    with_reducible rfl
  rotate_left
  · simp only [Act.put, List.setIfInBounds_toArray, List.set_cons_zero, List.set_cons_succ, i64_w, i32_w]
    rfl
  refine pure_ (i := 9) (N := some 64) (v := ?_) (a' := ?_) #[true, true, true, true, true, false, false, false, false, true, false, false, false, false, false, false] rfl rfl (by kernel_rfl) (fun _ _ _ h => h) (Or.inl ⟨by rfl, ?_⟩) ?_ ?_
  rotate_left
  · intro w'
    go_simp
    with_reducible rfl
  rotate_left
  · simp only [Act.put, List.setIfInBounds_toArray, List.set_cons_zero, List.set_cons_succ, i64_w, i32_w]
    rfl
  refine take_ (i := 5) (N := some 60) (v := ?_) (a' := ?_) #[true, true, true, true, true, true, false, false, false, true, false, false, false, false, false, false] rfl rfl (by kernel_rfl) (fun _ _ _ h => h) (Or.inl ⟨by rfl, ?_⟩) hHeld ?_ ?_
  rotate_left
  · rintro w' ⟨s0, s1, s2⟩
    go_simp
    with_reducible rfl
  rotate_left
  · simp only [Act.put, List.setIfInBounds_toArray, List.set_cons_zero, List.set_cons_succ, i64_w, i32_w]
    rfl
  refine take_ (i := 6) (N := some 61) (v := ?_) (a' := ?_) #[true, true, true, true, true, true, true, false, false, true, false, false, false, false, false, false] rfl rfl (by kernel_rfl) (fun _ _ _ h => h) (Or.inl ⟨by rfl, ?_⟩) hHeld ?_ ?_
  rotate_left
  · rintro w' ⟨s0, s1, s2⟩
    go_simp
    with_reducible rfl
  rotate_left
  · simp only [Act.put, List.setIfInBounds_toArray, List.set_cons_zero, List.set_cons_succ, i64_w, i32_w]
    rfl
  refine one_ (i := 7) (N := some 62) #[true, true, true, true, true, true, true, true, false, true, false, false, false, false, false, false] rfl rfl (by kernel_rfl) (by decide) (fun K hK => ?_)
  refine value_ (w1 := ?_) (v := ?_) (by rfl) rfl ?_ ?_
  rotate_left 2
  · go_simp
    constructor
    · rfl
    · rfl
  refine hK.out _ _ ⟨pw_cell_below (below_alloc (Below.refl _ _) _) hHeld.1, pw_cell_below (below_alloc (Below.refl _ _) _) hHeld.2.1, pw_cell_below (below_alloc (Below.refl _ _) _) hHeld.2.2⟩ (fun hHeld => ?_)
  clear hK K
  refine norm_ (a' := ?_) ?_ ?_
  rotate_left
  · show Act.put _ (some 62) _ = _
    simp only [Act.put, List.setIfInBounds_toArray, List.set_cons_zero, List.set_cons_succ, i64_w, i32_w]
    rfl
  refine last_ (i := 8) (N := some 63) #[true, true, true, true, true, true, true, true, true, true, false, false, false, false, false, false] rfl rfl (by kernel_rfl) (by decide) (fun K hK => ?_)
  refine Kd.R_append_step k47 (w0 := wd) (W := wd) base (by rfl) (.tmp 60) (.tmp 62) 22 47 (.agg #[.int .i64 0, .int .i64 0]) 16 (by rfl) Tryd.underlying22 infoPt rfl (by decide) (by omega) (.slice AP nP cP) o.P ⟨x.1, y.1⟩ [.int .i64 x.1, .int .i64 y.1] (fun k => (k ≠ g ∧ k ≠ h) ∧ some k ≠ vF.ownBlock) (fun _ => False) (by rfl) (by rfl) (k47_mkM _ _ _ (⟨x.1, y.1⟩ : Pt)) (fun _ hk => hk.elim) (R_app hoD.out hgb (Nat.le_trans hbs mD.out.k.1) (fun k hk => Kd.R_lt hoD.out.rf k hk)) hoD.out.rp (Below.refl _ _) (Nat.le_trans hbs mD.out.k.1) (by rw [hnP.out]; omega) ?_
  intro v1 w9 hv9 _hb9 hg9 hat9
  obtain ⟨A9, c9, h9⟩ := Kd.R_slice hv9
  rw [List.length_append, List.length_singleton] at h9
  subst h9
  have hoP := hoD.out.put (v := v.1) hv9 hg9 hat9
  have hR9 := hrD.out.above (fun k hk => hg9.block k (Nat.lt_of_le_of_lt hk (blk_lt hrD.out.blk)) (fun e => by have := Kd.R_base hoD.out.rp k e.symm; omega))
  have hb9 : w9.heap[h]? = some (.cells #[.slice AP nP cP, .int .i64 o.W, vF] 25 (0, 0)) := (hg9.block h (blk_lt hoD.out.blk) (fun e => (hoD.out.rp.1 h e.symm).1.2 rfl)).trans hoD.out.blk
  have hz0 : w9.frozen? ⟨h, 0, none⟩ = false := blk_frozen hb9 0
  have hz1 : w9.frozen? ⟨h, 1, none⟩ = false := blk_frozen hb9 1
  have hk9 := hg9.size
  have hlh := blk_lt hb9
  have hy0 : w9.cell? ⟨h, 0, none⟩ = some (.slice AP nP cP) := (blk_cell hb9 0).trans rfl
  have hy1 : w9.cell? ⟨h, 1, none⟩ = some (.int .i64 o.W) := (blk_cell hb9 1).trans rfl
  have m9 := below_le' _hb9 (Nat.le_of_lt hgb)
  replace hoP := Lib.hid hoP
  replace hR9 := Lib.hid hR9
  replace hb9 := Lib.hid hb9
  replace hv9 := Lib.hid hv9
  replace hg9 := Lib.hid hg9
  replace hat9 := Lib.hid hat9
  replace _hb9 := Lib.hid _hb9
  replace m9 := Lib.hid m9
  refine hK.out _ _ ?_
  clear hK K
  refine norm_ (a' := ?_) ?_ ?_
  rotate_left
  · show Act.put _ (some 63) _ = _
    simp only [Act.put, List.setIfInBounds_toArray, List.set_cons_zero, List.set_cons_succ, i64_w, i32_w]
    rfl
  refine pure_ (i := 10) (N := some 65) (v := ?_) (a' := ?_) #[true, true, true, true, true, true, true, true, true, true, true, false, false, false, false, false] rfl rfl (by kernel_rfl) (fun _ _ _ h => h) (Or.inl ⟨by rfl, ?_⟩) ?_ ?_
  rotate_left
  · intro w'
    go_simp
    with_reducible rfl
  rotate_left
  · simp only [Act.put, List.setIfInBounds_toArray, List.set_cons_zero, List.set_cons_succ, i64_w, i32_w]
    rfl
  refine pure_ (i := 11) (N := some 66) (v := ?_) (a' := ?_) #[true, true, true, true, true, true, true, true, true, true, true, true, false, false, false, false] rfl rfl (by kernel_rfl) (fun _ _ _ h => h) (Or.inl ⟨by rfl, ?_⟩) ?_ ?_
  rotate_left
  · intro w'
    go_simp
    with_reducible rfl
  rotate_left
  · simp only [Act.put, List.setIfInBounds_toArray, List.set_cons_zero, List.set_cons_succ, i64_w, i32_w]
    rfl
  refine last_ (i := 12) (N := none) #[true, true, true, true, true, true, true, true, true, true, true, true, true, false, false, false] rfl rfl (by kernel_rfl) (by decide) (fun K hK => ?_)
  refine skip_ (w1 := ?_) (by rfl) rfl ?_ ?_
  rotate_left
  · go_simp
    rfl
  refine hK.out _ _ ?_
  clear hK K
  refine pure_ (i := 13) (N := some 67) (v := ?_) (a' := ?_) #[true, true, true, true, true, true, true, true, true, true, true, true, true, true, false, false] rfl rfl (by kernel_rfl) (fun _ _ _ h => h) (Or.inl ⟨by rfl, ?_⟩) ?_ ?_
  rotate_left
  · intro w'
    go_simp
    with_reducible rfl
  rotate_left
  · simp only [Act.put, List.setIfInBounds_toArray, List.set_cons_zero, List.set_cons_succ, i64_w, i32_w]
    rfl
  refine pure_ (i := 14) (N := some 68) (v := ?_) (a' := ?_) #[true, true, true, true, true, true, true, true, true, true, true, true, true, true, true, false] rfl rfl (by kernel_rfl) (fun _ _ _ h => h) (Or.inl ⟨by rfl, ?_⟩) ?_ ?_
  rotate_left
  · intro w'
    go_simp
    with_reducible rfl
  rotate_left
  · simp only [Act.put, List.setIfInBounds_toArray, List.set_cons_zero, List.set_cons_succ, i64_w, i32_w]
    rfl
  refine last_ (i := 15) (N := none) #[true, true, true, true, true, true, true, true, true, true, true, true, true, true, true, true] rfl rfl (by kernel_rfl) (by decide) (fun K hK => ?_)
  refine skip_ (w1 := ?_) (by rfl) rfl ?_ ?_
  rotate_left
  · go_simp
    rfl
  refine hK.out _ _ ?_
  clear hK K
  refine done_ (by kernel_rfl) ?_
  refine bodyPost_end (results_none rfl _ _ _) rfl ⟨rfl, ⟨_, _, (hR9.out.above (fun k hk => Below.heap_setCell _ ⟨h, 0, none⟩ _ k (by have := ho.out.gh; show k ≠ h; omega))).above (fun k hk => Below.heap_setCell _ ⟨h, 1, none⟩ _ k (by have := ho.out.gh; show k ≠ h; omega))⟩, ⟨_, _, hoP.out⟩, ((mD.out.b.trans m9.out).setCell (p := ⟨h, 0, none⟩) (Nat.le_of_lt ho.out.gh) _).setCell (p := ⟨h, 1, none⟩) (Nat.le_of_lt ho.out.gh) _⟩
set_option maxHeartbeats 4000000 in
set_option maxRecDepth 100000 in
theorem place_b0 {g h base : Nat} {w : World} {end_ : Int} {r : RS} {A : Option Addr} {c : Nat} {o : RO} {vP vF : Value} (hr : RAt g w end_ r A c) (ho : OAt g h w base o vP vF) (hgb : g < base) (hbs : base ≤ w.heap.size) (hP : o.P.length ≤ 1048576) {x y v : Int × RS} {t : Tok} {e0 : Int} (he0 : e0 ≠ 0)
    (hx : r.number end_ (-4294967296) 4294967296 = x) (hy : x.2.number end_ (-4294967296) 4294967296 = y) (ht : y.2.peek end_ = t) (hne : tokNum (bytesOf t.f1) 0 = (0, e0)) (hv : ((y.2.wrong t 11).next).number end_ 1 1048576 = v) (hP0 : o.P = []) :
    Calls Tryd.prog 19 #[.pointer (some ⟨g, 0, none⟩), .pointer (some ⟨h, 0, none⟩)] w fun e w' => e = .returned (.tuple #[]) ∧ (∃ A' c', RAt g w' end_ (v.2) A' c') ∧ (∃ vP' vF', OAt g h w' base { P := o.P ++ [⟨x.1, y.1⟩], W := v.1, F := o.F } vP' vF') ∧ Below g w w' := by
  have C1 := Lib.hid (rnumber_calls hr (-4294967296) 4294967296 (by decide) (by decide) (by decide) (by decide))
  have tok1 : True := trivial
  have tok2 : True := trivial
  have tok3 : True := trivial
  have tok4 : True := trivial
  have tok5 : True := trivial
  have tok6 : True := trivial
  have tok7 : True := trivial
  have hlg := blk_lt hr.blk
  clear hr
  have hvF := Kd.R_lt ho.rf
  have HvF := Lib.hid hvF
  clear hvF
  obtain ⟨AP, cP, rfl, hcP, hCP⟩ := Kd.R_reads ho.rp
  clear hCP hcP
  have hnP0 : o.P.length = 0 := by rw [hP0]; rfl
  replace hP0 := Lib.hid hP0
  obtain ⟨nP, hnP⟩ : ∃ nP, o.P.length = nP := ⟨_, rfl⟩
  have ho2 := ho
  rw [hnP0] at ho2
  clear ho
  have ho := Lib.hid ho2
  clear ho2 hnP hnP0 nP
  have huo := Tryd.underlying25
  have hup := Tryd.underlying47
  rw [hx] at C1
  have C2 := Lib.hid (fun W A c (h : RAt g W end_ x.2 A c) => by have := rnumber_calls h (-4294967296) 4294967296 (by decide) (by decide) (by decide) (by decide); rw [hy] at this; exact this)
  have CT' := number_calls t.f1 0 (by decide) (by decide)
  rw [hne] at CT'
  have CT := Lib.hid CT'
  clear CT'
  have CP := Lib.hid (fun W A c (h : RAt g W end_ y.2 A c) => by have := peek_calls h; rw [ht] at this; exact this)
  have C3 := Lib.hid (fun W A c (h : RAt g W end_ ((y.2.wrong t 11).next) A c) => by have := rnumber_calls h 1 1048576 (by decide) (by decide) (by decide) (by decide); rw [hv] at this; exact this)
  obtain ⟨q, hq⟩ : ∃ q, ((y.2.wrong t 11).next).peek end_ = q := ⟨_, rfl⟩
  have CQ := Lib.hid (fun W A c (h : RAt g W end_ ((y.2.wrong t 11).next) A c) => by have := peek_calls h; rw [hq] at this; exact this)
  have hd3 : (e0 != 0) = true := bne_iff_ne.2 he0
  have hd4 : (e0 == 0) = false := beq_eq_false_iff_ne.2 he0
  clear he0
  clear hx hy ht hne hv hq
  go_enter Tryd.func19, Tryd.ntmps19
  go_wp2_with (first
    | (go_at_call 33; have _t := tok1; refine C1.out.mono ?_; rintro e w1 ⟨rfl, ⟨A1, c1, hr1⟩, hb1, hk1⟩; have m1 := Lib.hid (Mv.mk hb1 hk1); replace hr1 := Lib.hid hr1; clear hb1 hk1 tok1)
    | (go_at_call 33; have _t := tok2; refine (C2.out _ _ _ hr1.out).mono ?_; rintro e w2 ⟨rfl, ⟨A2, c2, hr2⟩, hb2, hk2⟩; have m2 := Lib.hid (m1.out.trans (Mv.mk hb2 hk2)); have hl2 := Lib.hid (Nat.lt_of_lt_of_le hlg m2.out.k.1); replace hr2 := Lib.hid hr2; clear hb2 hk2 tok2)
    | (go_at_call 34; have _t := tok3; refine (CP.out _ _ _ (hr2.out.far (below_alloc (Below.refl _ _) _))).mono ?_; rintro e w3 ⟨rfl, hb3⟩; have mp3 := Lib.hid (Mv.of_below (Mv.refl g (w2.alloc (.cells #[.int .i64 x.1, .int .i64 y.1] 47))) (by simp; have := hl2.out; omega) hb3); have m3 := Lib.hid ((m2.out.alloc hlg _).of_below hlg hb3); have hr3 := Lib.hid (hr2.out.far (hop hb3)); have hl3 := Lib.hid (Nat.lt_of_lt_of_le hlg m3.out.k.1); clear hb3 tok3)
    | (go_at_call 35; refine (CT.out _).mono ?_; rintro e w4 ⟨rfl, hb4⟩; have hz4 := blk_below (Go.Deep.blk_alloc_new w3 _) hb4; have hzc0 : w4.cell? ⟨w3.heap.size, 0, none⟩ = some (.int .i64 t.f0) := (blk_cell hz4 0).trans rfl; have hzc1 : w4.cell? ⟨w3.heap.size, 1, none⟩ = some (.string t.f1) := (blk_cell hz4 1).trans rfl; clear hz4; have mp4 := Lib.hid (mp3.out.trans (Mv.of_below (Mv.alloc (Mv.refl g w3) hl3.out _) hl3.out hb4)); have m4 := Lib.hid ((m3.out.alloc hlg _).of_below hlg hb4); have hr4 := Lib.hid (hr3.out.far (hop hb4)); clear hb4)
    | (go_at_call 21; have _t := tok4; refine (wrong_calls hr4.out t 11).mono ?_; rintro e w4b ⟨rfl, hr4b, hb4b, hk4b⟩; have mp4b := Lib.hid (mp4.out.trans (Mv.mk hb4b hk4b)); have m4b := Lib.hid (m4.out.trans (Mv.mk hb4b hk4b)); replace hr4b := Lib.hid hr4b; clear hb4b hk4b tok4)
    | (go_at_call 18; refine (next_calls hr4b.out).mono ?_; rintro e w5 ⟨rfl, ⟨A5, c5, hr5⟩, hb5, hk5⟩; have mp5 := Lib.hid (mp4b.out.trans (Mv.mk hb5 hk5)); have m5 := Lib.hid (m4b.out.trans (Mv.mk hb5 hk5)); replace hr5 := Lib.hid hr5; clear hb5 hk5)
    | (go_at_call 34; have _t := tok5; refine (CQ.out _ _ _ hr5.out).mono ?_; rintro e w6 ⟨rfl, hb6⟩; have hl5 := Lib.hid (Nat.lt_of_lt_of_le hlg m5.out.k.1); have mp6 := Lib.hid (mp5.out.of_below (by simp; have := hl2.out; omega) hb6); have m6 := Lib.hid (m5.out.of_below hlg hb6); have hr6 := Lib.hid (hr5.out.far hb6); have hl6 := Lib.hid (Nat.lt_of_lt_of_le hlg m6.out.k.1); clear hb6 tok5)
    | (go_at_call 33; have _t := tok6; refine (C3.out _ _ _ (hr6.out.far (below_alloc (Below.refl _ _) _))).mono ?_; rintro e w7 ⟨rfl, ⟨A7, c7, hr7⟩, hb7, hk7⟩; have mp7 := Lib.hid ((mp6.out.alloc (by simp; have := hl2.out; omega) _).trans (Mv.mk hb7 hk7)); have m7 := Lib.hid ((m6.out.alloc hlg _).trans (Mv.mk hb7 hk7)); have hq7 := Mv.new (Mv.mk hb7 hk7) hl6.out; have hqc0 : w7.cell? ⟨w6.heap.size, 0, none⟩ = some (.int .i64 q.f0) := (blk_cell hq7 0).trans rfl; have hqc1 : w7.cell? ⟨w6.heap.size, 1, none⟩ = some (.string q.f1) := (blk_cell hq7 1).trans rfl; clear hq7; replace hr7 := Lib.hid hr7; have how7 := Lib.hid (ho.out.keep m7.out.k); have hpw7 := mp7.out.new hl2.out; have hpc0 : w7.cell? ⟨w2.heap.size, 0, none⟩ = some (.int .i64 x.1) := (blk_cell hpw7 0).trans rfl; have hpc1 : w7.cell? ⟨w2.heap.size, 1, none⟩ = some (.int .i64 y.1) := (blk_cell hpw7 1).trans rfl; clear hpw7; have hoc0 : w7.cell? ⟨h, 0, none⟩ = some (.slice AP 0 cP) := (blk_cell how7.out.blk 0).trans rfl; have hoc1 : w7.cell? ⟨h, 1, none⟩ = some (.int .i64 o.W) := (blk_cell how7.out.blk 1).trans rfl; clear hb7 hk7 tok6))
  have hoD := Lib.hid (how7.out.keep (KeepBut.of_below (below_drew (Below.refl _ _)) g none))
  have hrD := Lib.hid (hr7.out.far (below_drew (Below.refl _ _)))
  have mD := Lib.hid (m7.out.of_below hlg (below_drew (Below.refl _ _)))
  have hlp := Lib.hid (Nat.lt_of_lt_of_le hl2.out (Nat.le_refl _))
  clear hqc0 hqc1 hoc1
  refine start_ (n := 16) (S := fun w' => w'.cell? ⟨h, 0, none⟩ = some (.slice AP 0 cP) ∧ w'.cell? ⟨w2.heap.size, 0, none⟩ = some (.int .i64 x.1) ∧ w'.cell? ⟨w2.heap.size, 1, none⟩ = some (.int .i64 y.1)) (ds := [8, 12, 15]) #[false, false, false, false, false, false, false, false, false, false, false, false, false, false, false, false] (by kernel_rfl) rfl rfl ⟨pw_cell_below (below_drew (Below.refl _ _)) hoc0, pw_cell_below (below_drew (Below.refl _ _)) hpc0, pw_cell_below (below_drew (Below.refl _ _)) hpc1⟩ (fun hHeld => ?_)
  generalize w7.drew = wd at hHeld hoD hrD mD ⊢
  refine pure_ (i := 0) (N := some 55) (v := ?_) (a' := ?_) #[true, false, false, false, false, false, false, false, false, false, false, false, false, false, false, false] rfl rfl (by kernel_rfl) (fun _ _ _ h => h) (Or.inl ⟨by rfl, ?_⟩) ?_ ?_
  rotate_left
  · intro w'
    go_simp
    with_reducible rfl
  rotate_left
  · simp only [Act.put, List.setIfInBounds_toArray, List.set_cons_zero, List.set_cons_succ, i64_w, i32_w]
    rfl
  refine pure_ (i := 1) (N := some 56) (v := ?_) (a' := ?_) #[true, true, false, false, false, false, false, false, false, false, false, false, false, false, false, false] rfl rfl (by kernel_rfl) (fun _ _ _ h => h) (Or.inl ⟨by rfl, ?_⟩) ?_ ?_
  rotate_left
  · intro w'
    go_simp
    with_reducible rfl
  rotate_left
  · simp only [Act.put, List.setIfInBounds_toArray, List.set_cons_zero, List.set_cons_succ, i64_w, i32_w]
    rfl
  refine pure_ (i := 2) (N := some 57) (v := ?_) (a' := ?_) #[true, true, true, false, false, false, false, false, false, false, false, false, false, false, false, false] rfl rfl (by kernel_rfl) (fun _ _ _ h => h) (Or.inl ⟨by rfl, ?_⟩) ?_ ?_
  rotate_left
  · intro w'
    go_simp
    with_reducible rfl
  rotate_left
  · simp only [Act.put, List.setIfInBounds_toArray, List.set_cons_zero, List.set_cons_succ, i64_w, i32_w]
    rfl
  refine pure_ (i := 3) (N := some 58) (v := ?_) (a' := ?_) #[true, true, true, true, false, false, false, false, false, false, false, false, false, false, false, false] rfl rfl (by kernel_rfl) (fun _ _ _ h => h) (Or.inl ⟨by rfl, ?_⟩) ?_ ?_
  rotate_left
  · intro w'
    go_simp
    with_reducible rfl
  rotate_left
  · simp only [Act.put, List.setIfInBounds_toArray, List.set_cons_zero, List.set_cons_succ, i64_w, i32_w]
    rfl
  refine pure_ (i := 4) (N := some 59) (v := ?_) (a' := ?_) #[true, true, true, true, true, false, false, false, false, false, false, false, false, false, false, false] rfl rfl (by kernel_rfl) (fun _ _ _ h => h) (Or.inl ⟨by rfl, ?_⟩) ?_ ?_
  rotate_left
  · intro w'
    go_simp
    with_reducible rfl
  rotate_left
  · simp only [Act.put, List.setIfInBounds_toArray, List.set_cons_zero, List.set_cons_succ, i64_w, i32_w]
    rfl
  refine pure_ (i := 9) (N := some 64) (v := ?_) (a' := ?_) #[true, true, true, true, true, false, false, false, false, true, false, false, false, false, false, false] rfl rfl (by kernel_rfl) (fun _ _ _ h => h) (Or.inl ⟨by rfl, ?_⟩) ?_ ?_
  rotate_left
  · intro w'
    go_simp
    with_reducible rfl
  rotate_left
  · simp only [Act.put, List.setIfInBounds_toArray, List.set_cons_zero, List.set_cons_succ, i64_w, i32_w]
    rfl
  refine take_ (i := 5) (N := some 60) (v := ?_) (a' := ?_) #[true, true, true, true, true, true, false, false, false, true, false, false, false, false, false, false] rfl rfl (by kernel_rfl) (fun _ _ _ h => h) (Or.inl ⟨by rfl, ?_⟩) hHeld ?_ ?_
  rotate_left
  · rintro w' ⟨s0, s1, s2⟩
    go_simp
    with_reducible rfl
  rotate_left
  · simp only [Act.put, List.setIfInBounds_toArray, List.set_cons_zero, List.set_cons_succ, i64_w, i32_w]
    rfl
  refine take_ (i := 6) (N := some 61) (v := ?_) (a' := ?_) #[true, true, true, true, true, true, true, false, false, true, false, false, false, false, false, false] rfl rfl (by kernel_rfl) (fun _ _ _ h => h) (Or.inl ⟨by rfl, ?_⟩) hHeld ?_ ?_
  rotate_left
  · rintro w' ⟨s0, s1, s2⟩
    go_simp
    with_reducible rfl
  rotate_left
  · simp only [Act.put, List.setIfInBounds_toArray, List.set_cons_zero, List.set_cons_succ, i64_w, i32_w]
    rfl
  refine one_ (i := 7) (N := some 62) #[true, true, true, true, true, true, true, true, false, true, false, false, false, false, false, false] rfl rfl (by kernel_rfl) (by decide) (fun K hK => ?_)
  refine value_ (w1 := ?_) (v := ?_) (by rfl) rfl ?_ ?_
  rotate_left 2
  · go_simp
    constructor
    · rfl
    · rfl
  refine hK.out _ _ ⟨pw_cell_below (below_alloc (Below.refl _ _) _) hHeld.1, pw_cell_below (below_alloc (Below.refl _ _) _) hHeld.2.1, pw_cell_below (below_alloc (Below.refl _ _) _) hHeld.2.2⟩ (fun hHeld => ?_)
  clear hK K
  refine norm_ (a' := ?_) ?_ ?_
  rotate_left
  · show Act.put _ (some 62) _ = _
    simp only [Act.put, List.setIfInBounds_toArray, List.set_cons_zero, List.set_cons_succ, i64_w, i32_w]
    rfl
  refine last_ (i := 8) (N := some 63) #[true, true, true, true, true, true, true, true, true, true, false, false, false, false, false, false] rfl rfl (by kernel_rfl) (by decide) (fun K hK => ?_)
  refine Kd.R_append_step k47 (w0 := wd) (W := wd) base (by rfl) (.tmp 60) (.tmp 62) 22 47 (.agg #[.int .i64 0, .int .i64 0]) 16 (by rfl) Tryd.underlying22 infoPt rfl (by decide) (by omega) (.slice AP 0 cP) o.P ⟨x.1, y.1⟩ [.int .i64 x.1, .int .i64 y.1] (fun k => (k ≠ g ∧ k ≠ h) ∧ some k ≠ vF.ownBlock) (fun _ => False) (by rfl) (by rfl) (k47_mkM _ _ _ (⟨x.1, y.1⟩ : Pt)) (fun _ hk => hk.elim) (R_app hoD.out hgb (Nat.le_trans hbs mD.out.k.1) (fun k hk => Kd.R_lt hoD.out.rf k hk)) hoD.out.rp (Below.refl _ _) (Nat.le_trans hbs mD.out.k.1) (by omega) ?_
  intro v1 w9 hv9 _hb9 hg9 hat9
  obtain ⟨A9, c9, h9⟩ := Kd.R_slice hv9
  rw [List.length_append, List.length_singleton] at h9
  subst h9
  have hoP := hoD.out.put (v := v.1) hv9 hg9 hat9
  have hR9 := hrD.out.above (fun k hk => hg9.block k (Nat.lt_of_le_of_lt hk (blk_lt hrD.out.blk)) (fun e => by have := Kd.R_base hoD.out.rp k e.symm; omega))
  have hb9 : w9.heap[h]? = some (.cells #[.slice AP 0 cP, .int .i64 o.W, vF] 25 (0, 0)) := (hg9.block h (blk_lt hoD.out.blk) (fun e => (hoD.out.rp.1 h e.symm).1.2 rfl)).trans hoD.out.blk
  have hz0 : w9.frozen? ⟨h, 0, none⟩ = false := blk_frozen hb9 0
  have hz1 : w9.frozen? ⟨h, 1, none⟩ = false := blk_frozen hb9 1
  have hk9 := hg9.size
  have hlh := blk_lt hb9
  have hy0 : w9.cell? ⟨h, 0, none⟩ = some (.slice AP 0 cP) := (blk_cell hb9 0).trans rfl
  have hy1 : w9.cell? ⟨h, 1, none⟩ = some (.int .i64 o.W) := (blk_cell hb9 1).trans rfl
  have m9 := below_le' _hb9 (Nat.le_of_lt hgb)
  replace hoP := Lib.hid hoP
  replace hR9 := Lib.hid hR9
  replace hb9 := Lib.hid hb9
  replace hv9 := Lib.hid hv9
  replace hg9 := Lib.hid hg9
  replace hat9 := Lib.hid hat9
  replace _hb9 := Lib.hid _hb9
  replace m9 := Lib.hid m9
  refine hK.out _ _ ?_
  clear hK K
  refine norm_ (a' := ?_) ?_ ?_
  rotate_left
  · show Act.put _ (some 63) _ = _
    simp only [Act.put, List.setIfInBounds_toArray, List.set_cons_zero, List.set_cons_succ, i64_w, i32_w]
    rfl
  refine pure_ (i := 10) (N := some 65) (v := ?_) (a' := ?_) #[true, true, true, true, true, true, true, true, true, true, true, false, false, false, false, false] rfl rfl (by kernel_rfl) (fun _ _ _ h => h) (Or.inl ⟨by rfl, ?_⟩) ?_ ?_
  rotate_left
  · intro w'
    go_simp
    with_reducible rfl
  rotate_left
  · simp only [Act.put, List.setIfInBounds_toArray, List.set_cons_zero, List.set_cons_succ, i64_w, i32_w]
    rfl
  refine pure_ (i := 11) (N := some 66) (v := ?_) (a' := ?_) #[true, true, true, true, true, true, true, true, true, true, true, true, false, false, false, false] rfl rfl (by kernel_rfl) (fun _ _ _ h => h) (Or.inl ⟨by rfl, ?_⟩) ?_ ?_
  rotate_left
  · intro w'
    go_simp
    with_reducible rfl
  rotate_left
  · simp only [Act.put, List.setIfInBounds_toArray, List.set_cons_zero, List.set_cons_succ, i64_w, i32_w]
    rfl
  refine last_ (i := 12) (N := none) #[true, true, true, true, true, true, true, true, true, true, true, true, true, false, false, false] rfl rfl (by kernel_rfl) (by decide) (fun K hK => ?_)
  refine skip_ (w1 := ?_) (by rfl) rfl ?_ ?_
  rotate_left
  · go_simp
    rfl
  refine hK.out _ _ ?_
  clear hK K
  refine pure_ (i := 13) (N := some 67) (v := ?_) (a' := ?_) #[true, true, true, true, true, true, true, true, true, true, true, true, true, true, false, false] rfl rfl (by kernel_rfl) (fun _ _ _ h => h) (Or.inl ⟨by rfl, ?_⟩) ?_ ?_
  rotate_left
  · intro w'
    go_simp
    with_reducible rfl
  rotate_left
  · simp only [Act.put, List.setIfInBounds_toArray, List.set_cons_zero, List.set_cons_succ, i64_w, i32_w]
    rfl
  refine pure_ (i := 14) (N := some 68) (v := ?_) (a' := ?_) #[true, true, true, true, true, true, true, true, true, true, true, true, true, true, true, false] rfl rfl (by kernel_rfl) (fun _ _ _ h => h) (Or.inl ⟨by rfl, ?_⟩) ?_ ?_
  rotate_left
  · intro w'
    go_simp
    with_reducible rfl
  rotate_left
  · simp only [Act.put, List.setIfInBounds_toArray, List.set_cons_zero, List.set_cons_succ, i64_w, i32_w]
    rfl
  refine last_ (i := 15) (N := none) #[true, true, true, true, true, true, true, true, true, true, true, true, true, true, true, true] rfl rfl (by kernel_rfl) (by decide) (fun K hK => ?_)
  refine skip_ (w1 := ?_) (by rfl) rfl ?_ ?_
  rotate_left
  · go_simp
    rfl
  refine hK.out _ _ ?_
  clear hK K
  refine done_ (by kernel_rfl) ?_
  refine bodyPost_end (results_none rfl _ _ _) rfl ⟨rfl, ⟨_, _, (hR9.out.above (fun k hk => Below.heap_setCell _ ⟨h, 0, none⟩ _ k (by have := ho.out.gh; show k ≠ h; omega))).above (fun k hk => Below.heap_setCell _ ⟨h, 1, none⟩ _ k (by have := ho.out.gh; show k ≠ h; omega))⟩, ⟨_, _, hoP.out⟩, ((mD.out.b.trans m9.out).setCell (p := ⟨h, 0, none⟩) (Nat.le_of_lt ho.out.gh) _).setCell (p := ⟨h, 1, none⟩) (Nat.le_of_lt ho.out.gh) _⟩
set_option maxHeartbeats 4000000 in
set_option maxRecDepth 100000 in
theorem place_be {g h base : Nat} {w : World} {end_ : Int} {r : RS} {A : Option Addr} {c : Nat} {o : RO} {vP vF : Value} (hr : RAt g w end_ r A c) (ho : OAt g h w base o vP vF) (hgb : g < base) (hbs : base ≤ w.heap.size) (hP : o.P.length ≤ 1048576) {x y v : Int × RS} {t : Tok} {e0 : Int} (he0 : e0 ≠ 0)
    (hx : r.number end_ (-4294967296) 4294967296 = x) (hy : x.2.number end_ (-4294967296) 4294967296 = y) (ht : y.2.peek end_ = t) (hne : tokNum (bytesOf t.f1) 0 = (0, e0)) (hv : ((y.2.wrong t 11).next).number end_ 1 1048576 = v) (hP0 : 0 < o.P.length) (hme : v.1 = o.W) :
    Calls Tryd.prog 19 #[.pointer (some ⟨g, 0, none⟩), .pointer (some ⟨h, 0, none⟩)] w fun e w' => e = .returned (.tuple #[]) ∧ (∃ A' c', RAt g w' end_ (v.2) A' c') ∧ (∃ vP' vF', OAt g h w' base { P := o.P ++ [⟨x.1, y.1⟩], W := v.1, F := o.F } vP' vF') ∧ Below g w w' := by
  have C1 := Lib.hid (rnumber_calls hr (-4294967296) 4294967296 (by decide) (by decide) (by decide) (by decide))
  have tok1 : True := trivial
  have tok2 : True := trivial
  have tok3 : True := trivial
  have tok4 : True := trivial
  have tok5 : True := trivial
  have tok6 : True := trivial
  have tok7 : True := trivial
  have hlg := blk_lt hr.blk
  clear hr
  have hvF := Kd.R_lt ho.rf
  have HvF := Lib.hid hvF
  clear hvF
  obtain ⟨AP, cP, rfl, hcP, hCP⟩ := Kd.R_reads ho.rp
  clear hCP hcP
  obtain ⟨nP, hnP⟩ : ∃ nP, o.P.length = nP := ⟨_, rfl⟩
  rw [hnP] at ho hP0 hP
  have hnn : (0 : Int) ≤ (nP : Int) := by omega
  have hd0 : decide (0 < nP) = true := decide_eq_true hP0
  have hd1 : (v.1 == o.W) = true := beq_iff_eq.2 hme
  have hd2 : (v.1 != o.W) = false := bne_eq_false_iff_eq.2 hme
  replace hme := Lib.hid hme
  replace hP0 := Lib.hid hP0
  replace hnP := Lib.hid hnP
  replace ho := Lib.hid ho
  have huo := Tryd.underlying25
  have hup := Tryd.underlying47
  rw [hx] at C1
  have C2 := Lib.hid (fun W A c (h : RAt g W end_ x.2 A c) => by have := rnumber_calls h (-4294967296) 4294967296 (by decide) (by decide) (by decide) (by decide); rw [hy] at this; exact this)
  have CT' := number_calls t.f1 0 (by decide) (by decide)
  rw [hne] at CT'
  have CT := Lib.hid CT'
  clear CT'
  have CP := Lib.hid (fun W A c (h : RAt g W end_ y.2 A c) => by have := peek_calls h; rw [ht] at this; exact this)
  have C3 := Lib.hid (fun W A c (h : RAt g W end_ ((y.2.wrong t 11).next) A c) => by have := rnumber_calls h 1 1048576 (by decide) (by decide) (by decide) (by decide); rw [hv] at this; exact this)
  obtain ⟨q, hq⟩ : ∃ q, ((y.2.wrong t 11).next).peek end_ = q := ⟨_, rfl⟩
  have CQ := Lib.hid (fun W A c (h : RAt g W end_ ((y.2.wrong t 11).next) A c) => by have := peek_calls h; rw [hq] at this; exact this)
  have hd3 : (e0 != 0) = true := bne_iff_ne.2 he0
  have hd4 : (e0 == 0) = false := beq_eq_false_iff_ne.2 he0
  clear he0
  clear hx hy ht hne hv hq
  go_enter Tryd.func19, Tryd.ntmps19
  go_wp2_with (first
    | (go_at_call 33; have _t := tok1; refine C1.out.mono ?_; rintro e w1 ⟨rfl, ⟨A1, c1, hr1⟩, hb1, hk1⟩; have m1 := Lib.hid (Mv.mk hb1 hk1); replace hr1 := Lib.hid hr1; clear hb1 hk1 tok1)
    | (go_at_call 33; have _t := tok2; refine (C2.out _ _ _ hr1.out).mono ?_; rintro e w2 ⟨rfl, ⟨A2, c2, hr2⟩, hb2, hk2⟩; have m2 := Lib.hid (m1.out.trans (Mv.mk hb2 hk2)); have hl2 := Lib.hid (Nat.lt_of_lt_of_le hlg m2.out.k.1); replace hr2 := Lib.hid hr2; clear hb2 hk2 tok2)
    | (go_at_call 34; have _t := tok3; refine (CP.out _ _ _ (hr2.out.far (below_alloc (Below.refl _ _) _))).mono ?_; rintro e w3 ⟨rfl, hb3⟩; have mp3 := Lib.hid (Mv.of_below (Mv.refl g (w2.alloc (.cells #[.int .i64 x.1, .int .i64 y.1] 47))) (by simp; have := hl2.out; omega) hb3); have m3 := Lib.hid ((m2.out.alloc hlg _).of_below hlg hb3); have hr3 := Lib.hid (hr2.out.far (hop hb3)); have hl3 := Lib.hid (Nat.lt_of_lt_of_le hlg m3.out.k.1); clear hb3 tok3)
    | (go_at_call 35; refine (CT.out _).mono ?_; rintro e w4 ⟨rfl, hb4⟩; have hz4 := blk_below (Go.Deep.blk_alloc_new w3 _) hb4; have hzc0 : w4.cell? ⟨w3.heap.size, 0, none⟩ = some (.int .i64 t.f0) := (blk_cell hz4 0).trans rfl; have hzc1 : w4.cell? ⟨w3.heap.size, 1, none⟩ = some (.string t.f1) := (blk_cell hz4 1).trans rfl; clear hz4; have mp4 := Lib.hid (mp3.out.trans (Mv.of_below (Mv.alloc (Mv.refl g w3) hl3.out _) hl3.out hb4)); have m4 := Lib.hid ((m3.out.alloc hlg _).of_below hlg hb4); have hr4 := Lib.hid (hr3.out.far (hop hb4)); clear hb4)
    | (go_at_call 21; have _t := tok4; refine (wrong_calls hr4.out t 11).mono ?_; rintro e w4b ⟨rfl, hr4b, hb4b, hk4b⟩; have mp4b := Lib.hid (mp4.out.trans (Mv.mk hb4b hk4b)); have m4b := Lib.hid (m4.out.trans (Mv.mk hb4b hk4b)); replace hr4b := Lib.hid hr4b; clear hb4b hk4b tok4)
    | (go_at_call 18; refine (next_calls hr4b.out).mono ?_; rintro e w5 ⟨rfl, ⟨A5, c5, hr5⟩, hb5, hk5⟩; have mp5 := Lib.hid (mp4b.out.trans (Mv.mk hb5 hk5)); have m5 := Lib.hid (m4b.out.trans (Mv.mk hb5 hk5)); replace hr5 := Lib.hid hr5; clear hb5 hk5)
    | (go_at_call 34; have _t := tok5; refine (CQ.out _ _ _ hr5.out).mono ?_; rintro e w6 ⟨rfl, hb6⟩; have hl5 := Lib.hid (Nat.lt_of_lt_of_le hlg m5.out.k.1); have mp6 := Lib.hid (mp5.out.of_below (by simp; have := hl2.out; omega) hb6); have m6 := Lib.hid (m5.out.of_below hlg hb6); have hr6 := Lib.hid (hr5.out.far hb6); have hl6 := Lib.hid (Nat.lt_of_lt_of_le hlg m6.out.k.1); clear hb6 tok5)
    | (go_at_call 33; have _t := tok6; refine (C3.out _ _ _ (hr6.out.far (below_alloc (Below.refl _ _) _))).mono ?_; rintro e w7 ⟨rfl, ⟨A7, c7, hr7⟩, hb7, hk7⟩; have mp7 := Lib.hid ((mp6.out.alloc (by simp; have := hl2.out; omega) _).trans (Mv.mk hb7 hk7)); have m7 := Lib.hid ((m6.out.alloc hlg _).trans (Mv.mk hb7 hk7)); have hq7 := Mv.new (Mv.mk hb7 hk7) hl6.out; have hqc0 : w7.cell? ⟨w6.heap.size, 0, none⟩ = some (.int .i64 q.f0) := (blk_cell hq7 0).trans rfl; have hqc1 : w7.cell? ⟨w6.heap.size, 1, none⟩ = some (.string q.f1) := (blk_cell hq7 1).trans rfl; clear hq7; replace hr7 := Lib.hid hr7; have how7 := Lib.hid (ho.out.keep m7.out.k); have hpw7 := mp7.out.new hl2.out; have hpc0 : w7.cell? ⟨w2.heap.size, 0, none⟩ = some (.int .i64 x.1) := (blk_cell hpw7 0).trans rfl; have hpc1 : w7.cell? ⟨w2.heap.size, 1, none⟩ = some (.int .i64 y.1) := (blk_cell hpw7 1).trans rfl; clear hpw7; have hoc0 : w7.cell? ⟨h, 0, none⟩ = some (.slice AP nP cP) := (blk_cell how7.out.blk 0).trans rfl; have hoc1 : w7.cell? ⟨h, 1, none⟩ = some (.int .i64 o.W) := (blk_cell how7.out.blk 1).trans rfl; clear hb7 hk7 tok6))
  have hoD := Lib.hid (how7.out.keep (KeepBut.of_below (below_drew (Below.refl _ _)) g none))
  have hrD := Lib.hid (hr7.out.far (below_drew (Below.refl _ _)))
  have mD := Lib.hid (m7.out.of_below hlg (below_drew (Below.refl _ _)))
  have hlp := Lib.hid (Nat.lt_of_lt_of_le hl2.out (Nat.le_refl _))
  clear hqc0 hqc1 hoc1
  refine start_ (n := 16) (S := fun w' => w'.cell? ⟨h, 0, none⟩ = some (.slice AP nP cP) ∧ w'.cell? ⟨w2.heap.size, 0, none⟩ = some (.int .i64 x.1) ∧ w'.cell? ⟨w2.heap.size, 1, none⟩ = some (.int .i64 y.1)) (ds := [8, 12, 15]) #[false, false, false, false, false, false, false, false, false, false, false, false, false, false, false, false] (by kernel_rfl) rfl rfl ⟨pw_cell_below (below_drew (Below.refl _ _)) hoc0, pw_cell_below (below_drew (Below.refl _ _)) hpc0, pw_cell_below (below_drew (Below.refl _ _)) hpc1⟩ (fun hHeld => ?_)
  generalize w7.drew = wd at hHeld hoD hrD mD ⊢
  refine pure_ (i := 0) (N := some 55) (v := ?_) (a' := ?_) #[true, false, false, false, false, false, false, false, false, false, false, false, false, false, false, false] rfl rfl (by kernel_rfl) (fun _ _ _ h => h) (Or.inl ⟨by rfl, ?_⟩) ?_ ?_
  rotate_left
  · intro w'
    go_simp
    with_reducible rfl
  rotate_left
  · simp only [Act.put, List.setIfInBounds_toArray, List.set_cons_zero, List.set_cons_succ, i64_w, i32_w]
    rfl
  refine pure_ (i := 1) (N := some 56) (v := ?_) (a' := ?_) #[true, true, false, false, false, false, false, false, false, false, false, false, false, false, false, false] rfl rfl (by kernel_rfl) (fun _ _ _ h => h) (Or.inl ⟨by rfl, ?_⟩) ?_ ?_
  rotate_left
  · intro w'
    go_simp
    with_reducible rfl
  rotate_left
  · simp only [Act.put, List.setIfInBounds_toArray, List.set_cons_zero, List.set_cons_succ, i64_w, i32_w]
    rfl
  refine pure_ (i := 2) (N := some 57) (v := ?_) (a' := ?_) #[true, true, true, false, false, false, false, false, false, false, false, false, false, false, false, false] rfl rfl (by kernel_rfl) (fun _ _ _ h => h) (Or.inl ⟨by rfl, ?_⟩) ?_ ?_
  rotate_left
  · intro w'
    go_simp
    with_reducible rfl
  rotate_left
  · simp only [Act.put, List.setIfInBounds_toArray, List.set_cons_zero, List.set_cons_succ, i64_w, i32_w]
    rfl
  refine pure_ (i := 3) (N := some 58) (v := ?_) (a' := ?_) #[true, true, true, true, false, false, false, false, false, false, false, false, false, false, false, false] rfl rfl (by kernel_rfl) (fun _ _ _ h => h) (Or.inl ⟨by rfl, ?_⟩) ?_ ?_
  rotate_left
  · intro w'
    go_simp
    with_reducible rfl
  rotate_left
  · simp only [Act.put, List.setIfInBounds_toArray, List.set_cons_zero, List.set_cons_succ, i64_w, i32_w]
    rfl
  refine pure_ (i := 4) (N := some 59) (v := ?_) (a' := ?_) #[true, true, true, true, true, false, false, false, false, false, false, false, false, false, false, false] rfl rfl (by kernel_rfl) (fun _ _ _ h => h) (Or.inl ⟨by rfl, ?_⟩) ?_ ?_
  rotate_left
  · intro w'
    go_simp
    with_reducible rfl
  rotate_left
  · simp only [Act.put, List.setIfInBounds_toArray, List.set_cons_zero, List.set_cons_succ, i64_w, i32_w]
    rfl
  refine pure_ (i := 9) (N := some 64) (v := ?_) (a' := ?_) #[true, true, true, true, true, false, false, false, false, true, false, false, false, false, false, false] rfl rfl (by kernel_rfl) (fun _ _ _ h => h) (Or.inl ⟨by rfl, ?_⟩) ?_ ?_
  rotate_left
  · intro w'
    go_simp
    with_reducible rfl
  rotate_left
  · simp only [Act.put, List.setIfInBounds_toArray, List.set_cons_zero, List.set_cons_succ, i64_w, i32_w]
    rfl
  refine take_ (i := 5) (N := some 60) (v := ?_) (a' := ?_) #[true, true, true, true, true, true, false, false, false, true, false, false, false, false, false, false] rfl rfl (by kernel_rfl) (fun _ _ _ h => h) (Or.inl ⟨by rfl, ?_⟩) hHeld ?_ ?_
  rotate_left
  · rintro w' ⟨s0, s1, s2⟩
    go_simp
    with_reducible rfl
  rotate_left
  · simp only [Act.put, List.setIfInBounds_toArray, List.set_cons_zero, List.set_cons_succ, i64_w, i32_w]
    rfl
  refine take_ (i := 6) (N := some 61) (v := ?_) (a' := ?_) #[true, true, true, true, true, true, true, false, false, true, false, false, false, false, false, false] rfl rfl (by kernel_rfl) (fun _ _ _ h => h) (Or.inl ⟨by rfl, ?_⟩) hHeld ?_ ?_
  rotate_left
  · rintro w' ⟨s0, s1, s2⟩
    go_simp
    with_reducible rfl
  rotate_left
  · simp only [Act.put, List.setIfInBounds_toArray, List.set_cons_zero, List.set_cons_succ, i64_w, i32_w]
    rfl
  refine one_ (i := 7) (N := some 62) #[true, true, true, true, true, true, true, true, false, true, false, false, false, false, false, false] rfl rfl (by kernel_rfl) (by decide) (fun K hK => ?_)
  refine value_ (w1 := ?_) (v := ?_) (by rfl) rfl ?_ ?_
  rotate_left 2
  · go_simp
    constructor
    · rfl
    · rfl
  refine hK.out _ _ ⟨pw_cell_below (below_alloc (Below.refl _ _) _) hHeld.1, pw_cell_below (below_alloc (Below.refl _ _) _) hHeld.2.1, pw_cell_below (below_alloc (Below.refl _ _) _) hHeld.2.2⟩ (fun hHeld => ?_)
  clear hK K
  refine norm_ (a' := ?_) ?_ ?_
  rotate_left
  · show Act.put _ (some 62) _ = _
    simp only [Act.put, List.setIfInBounds_toArray, List.set_cons_zero, List.set_cons_succ, i64_w, i32_w]
    rfl
  refine last_ (i := 8) (N := some 63) #[true, true, true, true, true, true, true, true, true, true, false, false, false, false, false, false] rfl rfl (by kernel_rfl) (by decide) (fun K hK => ?_)
  refine Kd.R_append_step k47 (w0 := wd) (W := wd) base (by rfl) (.tmp 60) (.tmp 62) 22 47 (.agg #[.int .i64 0, .int .i64 0]) 16 (by rfl) Tryd.underlying22 infoPt rfl (by decide) (by omega) (.slice AP nP cP) o.P ⟨x.1, y.1⟩ [.int .i64 x.1, .int .i64 y.1] (fun k => (k ≠ g ∧ k ≠ h) ∧ some k ≠ vF.ownBlock) (fun _ => False) (by rfl) (by rfl) (k47_mkM _ _ _ (⟨x.1, y.1⟩ : Pt)) (fun _ hk => hk.elim) (R_app hoD.out hgb (Nat.le_trans hbs mD.out.k.1) (fun k hk => Kd.R_lt hoD.out.rf k hk)) hoD.out.rp (Below.refl _ _) (Nat.le_trans hbs mD.out.k.1) (by rw [hnP.out]; omega) ?_
  intro v1 w9 hv9 _hb9 hg9 hat9
  obtain ⟨A9, c9, h9⟩ := Kd.R_slice hv9
  rw [List.length_append, List.length_singleton] at h9
  subst h9
  have hoP := hoD.out.put (v := v.1) hv9 hg9 hat9
  have hR9 := hrD.out.above (fun k hk => hg9.block k (Nat.lt_of_le_of_lt hk (blk_lt hrD.out.blk)) (fun e => by have := Kd.R_base hoD.out.rp k e.symm; omega))
  have hb9 : w9.heap[h]? = some (.cells #[.slice AP nP cP, .int .i64 o.W, vF] 25 (0, 0)) := (hg9.block h (blk_lt hoD.out.blk) (fun e => (hoD.out.rp.1 h e.symm).1.2 rfl)).trans hoD.out.blk
  have hz0 : w9.frozen? ⟨h, 0, none⟩ = false := blk_frozen hb9 0
  have hz1 : w9.frozen? ⟨h, 1, none⟩ = false := blk_frozen hb9 1
  have hk9 := hg9.size
  have hlh := blk_lt hb9
  have hy0 : w9.cell? ⟨h, 0, none⟩ = some (.slice AP nP cP) := (blk_cell hb9 0).trans rfl
  have hy1 : w9.cell? ⟨h, 1, none⟩ = some (.int .i64 o.W) := (blk_cell hb9 1).trans rfl
  have m9 := below_le' _hb9 (Nat.le_of_lt hgb)
  replace hoP := Lib.hid hoP
  replace hR9 := Lib.hid hR9
  replace hb9 := Lib.hid hb9
  replace hv9 := Lib.hid hv9
  replace hg9 := Lib.hid hg9
  replace hat9 := Lib.hid hat9
  replace _hb9 := Lib.hid _hb9
  replace m9 := Lib.hid m9
  refine hK.out _ _ ?_
  clear hK K
  refine norm_ (a' := ?_) ?_ ?_
  rotate_left
  · show Act.put _ (some 63) _ = _
    simp only [Act.put, List.setIfInBounds_toArray, List.set_cons_zero, List.set_cons_succ, i64_w, i32_w]
    rfl
  refine pure_ (i := 10) (N := some 65) (v := ?_) (a' := ?_) #[true, true, true, true, true, true, true, true, true, true, true, false, false, false, false, false] rfl rfl (by kernel_rfl) (fun _ _ _ h => h) (Or.inl ⟨by rfl, ?_⟩) ?_ ?_
  rotate_left
  · intro w'
    go_simp
    with_reducible rfl
  rotate_left
  · simp only [Act.put, List.setIfInBounds_toArray, List.set_cons_zero, List.set_cons_succ, i64_w, i32_w]
    rfl
  refine pure_ (i := 11) (N := some 66) (v := ?_) (a' := ?_) #[true, true, true, true, true, true, true, true, true, true, true, true, false, false, false, false] rfl rfl (by kernel_rfl) (fun _ _ _ h => h) (Or.inl ⟨by rfl, ?_⟩) ?_ ?_
  rotate_left
  · intro w'
    go_simp
    with_reducible rfl
  rotate_left
  · simp only [Act.put, List.setIfInBounds_toArray, List.set_cons_zero, List.set_cons_succ, i64_w, i32_w]
    rfl
  refine last_ (i := 12) (N := none) #[true, true, true, true, true, true, true, true, true, true, true, true, true, false, false, false] rfl rfl (by kernel_rfl) (by decide) (fun K hK => ?_)
  refine skip_ (w1 := ?_) (by rfl) rfl ?_ ?_
  rotate_left
  · go_simp
    rfl
  refine hK.out _ _ ?_
  clear hK K
  refine pure_ (i := 13) (N := some 67) (v := ?_) (a' := ?_) #[true, true, true, true, true, true, true, true, true, true, true, true, true, true, false, false] rfl rfl (by kernel_rfl) (fun _ _ _ h => h) (Or.inl ⟨by rfl, ?_⟩) ?_ ?_
  rotate_left
  · intro w'
    go_simp
    with_reducible rfl
  rotate_left
  · simp only [Act.put, List.setIfInBounds_toArray, List.set_cons_zero, List.set_cons_succ, i64_w, i32_w]
    rfl
  refine pure_ (i := 14) (N := some 68) (v := ?_) (a' := ?_) #[true, true, true, true, true, true, true, true, true, true, true, true, true, true, true, false] rfl rfl (by kernel_rfl) (fun _ _ _ h => h) (Or.inl ⟨by rfl, ?_⟩) ?_ ?_
  rotate_left
  · intro w'
    go_simp
    with_reducible rfl
  rotate_left
  · simp only [Act.put, List.setIfInBounds_toArray, List.set_cons_zero, List.set_cons_succ, i64_w, i32_w]
    rfl
  refine last_ (i := 15) (N := none) #[true, true, true, true, true, true, true, true, true, true, true, true, true, true, true, true] rfl rfl (by kernel_rfl) (by decide) (fun K hK => ?_)
  refine skip_ (w1 := ?_) (by rfl) rfl ?_ ?_
  rotate_left
  · go_simp
    rfl
  refine hK.out _ _ ?_
  clear hK K
  refine done_ (by kernel_rfl) ?_
  refine bodyPost_end (results_none rfl _ _ _) rfl ⟨rfl, ⟨_, _, (hR9.out.above (fun k hk => Below.heap_setCell _ ⟨h, 0, none⟩ _ k (by have := ho.out.gh; show k ≠ h; omega))).above (fun k hk => Below.heap_setCell _ ⟨h, 1, none⟩ _ k (by have := ho.out.gh; show k ≠ h; omega))⟩, ⟨_, _, hoP.out⟩, ((mD.out.b.trans m9.out).setCell (p := ⟨h, 0, none⟩) (Nat.le_of_lt ho.out.gh) _).setCell (p := ⟨h, 1, none⟩) (Nat.le_of_lt ho.out.gh) _⟩
set_option maxHeartbeats 4000000 in
set_option maxRecDepth 100000 in
theorem place_bn {g h base : Nat} {w : World} {end_ : Int} {r : RS} {A : Option Addr} {c : Nat} {o : RO} {vP vF : Value} (hr : RAt g w end_ r A c) (ho : OAt g h w base o vP vF) (hgb : g < base) (hbs : base ≤ w.heap.size) (hP : o.P.length ≤ 1048576) {x y v : Int × RS} {t : Tok} {e0 : Int} (he0 : e0 ≠ 0)
    (hx : r.number end_ (-4294967296) 4294967296 = x) (hy : x.2.number end_ (-4294967296) 4294967296 = y) (ht : y.2.peek end_ = t) (hne : tokNum (bytesOf t.f1) 0 = (0, e0)) (hv : ((y.2.wrong t 11).next).number end_ 1 1048576 = v) (hP0 : 0 < o.P.length) (hme : v.1 ≠ o.W) :
    Calls Tryd.prog 19 #[.pointer (some ⟨g, 0, none⟩), .pointer (some ⟨h, 0, none⟩)] w fun e w' => e = .returned (.tuple #[]) ∧ (∃ A' c', RAt g w' end_ (v.2.wrong ((y.2.wrong t 11).next.peek end_) 11) A' c') ∧ (∃ vP' vF', OAt g h w' base { P := o.P ++ [⟨x.1, y.1⟩], W := v.1, F := o.F } vP' vF') ∧ Below g w w' := by
  have C1 := Lib.hid (rnumber_calls hr (-4294967296) 4294967296 (by decide) (by decide) (by decide) (by decide))
  have tok1 : True := trivial
  have tok2 : True := trivial
  have tok3 : True := trivial
  have tok4 : True := trivial
  have tok5 : True := trivial
  have tok6 : True := trivial
  have tok7 : True := trivial
  have hlg := blk_lt hr.blk
  clear hr
  have hvF := Kd.R_lt ho.rf
  have HvF := Lib.hid hvF
  clear hvF
  obtain ⟨AP, cP, rfl, hcP, hCP⟩ := Kd.R_reads ho.rp
  clear hCP hcP
  obtain ⟨nP, hnP⟩ : ∃ nP, o.P.length = nP := ⟨_, rfl⟩
  rw [hnP] at ho hP0 hP
  have hnn : (0 : Int) ≤ (nP : Int) := by omega
  have hd0 : decide (0 < nP) = true := decide_eq_true hP0
  have hd1 : (v.1 != o.W) = true := bne_iff_ne.2 hme
  have hd2 : (v.1 == o.W) = false := beq_eq_false_iff_ne.2 hme
  replace hme := Lib.hid hme
  replace hP0 := Lib.hid hP0
  replace hnP := Lib.hid hnP
  replace ho := Lib.hid ho
  have huo := Tryd.underlying25
  have hup := Tryd.underlying47
  rw [hx] at C1
  have C2 := Lib.hid (fun W A c (h : RAt g W end_ x.2 A c) => by have := rnumber_calls h (-4294967296) 4294967296 (by decide) (by decide) (by decide) (by decide); rw [hy] at this; exact this)
  have CT' := number_calls t.f1 0 (by decide) (by decide)
  rw [hne] at CT'
  have CT := Lib.hid CT'
  clear CT'
  have CP := Lib.hid (fun W A c (h : RAt g W end_ y.2 A c) => by have := peek_calls h; rw [ht] at this; exact this)
  have C3 := Lib.hid (fun W A c (h : RAt g W end_ ((y.2.wrong t 11).next) A c) => by have := rnumber_calls h 1 1048576 (by decide) (by decide) (by decide) (by decide); rw [hv] at this; exact this)
  obtain ⟨q, hq⟩ : ∃ q, ((y.2.wrong t 11).next).peek end_ = q := ⟨_, rfl⟩
  have CQ := Lib.hid (fun W A c (h : RAt g W end_ ((y.2.wrong t 11).next) A c) => by have := peek_calls h; rw [hq] at this; exact this)
  rw [hq]
  have hd3 : (e0 != 0) = true := bne_iff_ne.2 he0
  have hd4 : (e0 == 0) = false := beq_eq_false_iff_ne.2 he0
  clear he0
  clear hx hy ht hne hv hq
  go_enter Tryd.func19, Tryd.ntmps19
  go_wp2_with (first
    | (go_at_call 33; have _t := tok1; refine C1.out.mono ?_; rintro e w1 ⟨rfl, ⟨A1, c1, hr1⟩, hb1, hk1⟩; have m1 := Lib.hid (Mv.mk hb1 hk1); replace hr1 := Lib.hid hr1; clear hb1 hk1 tok1)
    | (go_at_call 33; have _t := tok2; refine (C2.out _ _ _ hr1.out).mono ?_; rintro e w2 ⟨rfl, ⟨A2, c2, hr2⟩, hb2, hk2⟩; have m2 := Lib.hid (m1.out.trans (Mv.mk hb2 hk2)); have hl2 := Lib.hid (Nat.lt_of_lt_of_le hlg m2.out.k.1); replace hr2 := Lib.hid hr2; clear hb2 hk2 tok2)
    | (go_at_call 34; have _t := tok3; refine (CP.out _ _ _ (hr2.out.far (below_alloc (Below.refl _ _) _))).mono ?_; rintro e w3 ⟨rfl, hb3⟩; have mp3 := Lib.hid (Mv.of_below (Mv.refl g (w2.alloc (.cells #[.int .i64 x.1, .int .i64 y.1] 47))) (by simp; have := hl2.out; omega) hb3); have m3 := Lib.hid ((m2.out.alloc hlg _).of_below hlg hb3); have hr3 := Lib.hid (hr2.out.far (hop hb3)); have hl3 := Lib.hid (Nat.lt_of_lt_of_le hlg m3.out.k.1); clear hb3 tok3)
    | (go_at_call 35; refine (CT.out _).mono ?_; rintro e w4 ⟨rfl, hb4⟩; have hz4 := blk_below (Go.Deep.blk_alloc_new w3 _) hb4; have hzc0 : w4.cell? ⟨w3.heap.size, 0, none⟩ = some (.int .i64 t.f0) := (blk_cell hz4 0).trans rfl; have hzc1 : w4.cell? ⟨w3.heap.size, 1, none⟩ = some (.string t.f1) := (blk_cell hz4 1).trans rfl; clear hz4; have mp4 := Lib.hid (mp3.out.trans (Mv.of_below (Mv.alloc (Mv.refl g w3) hl3.out _) hl3.out hb4)); have m4 := Lib.hid ((m3.out.alloc hlg _).of_below hlg hb4); have hr4 := Lib.hid (hr3.out.far (hop hb4)); clear hb4)
    | (go_at_call 21; have _t := tok4; refine (wrong_calls hr4.out t 11).mono ?_; rintro e w4b ⟨rfl, hr4b, hb4b, hk4b⟩; have mp4b := Lib.hid (mp4.out.trans (Mv.mk hb4b hk4b)); have m4b := Lib.hid (m4.out.trans (Mv.mk hb4b hk4b)); replace hr4b := Lib.hid hr4b; clear hb4b hk4b tok4)
    | (go_at_call 18; refine (next_calls hr4b.out).mono ?_; rintro e w5 ⟨rfl, ⟨A5, c5, hr5⟩, hb5, hk5⟩; have mp5 := Lib.hid (mp4b.out.trans (Mv.mk hb5 hk5)); have m5 := Lib.hid (m4b.out.trans (Mv.mk hb5 hk5)); replace hr5 := Lib.hid hr5; clear hb5 hk5)
    | (go_at_call 34; have _t := tok5; refine (CQ.out _ _ _ hr5.out).mono ?_; rintro e w6 ⟨rfl, hb6⟩; have hl5 := Lib.hid (Nat.lt_of_lt_of_le hlg m5.out.k.1); have mp6 := Lib.hid (mp5.out.of_below (by simp; have := hl2.out; omega) hb6); have m6 := Lib.hid (m5.out.of_below hlg hb6); have hr6 := Lib.hid (hr5.out.far hb6); have hl6 := Lib.hid (Nat.lt_of_lt_of_le hlg m6.out.k.1); clear hb6 tok5)
    | (go_at_call 33; have _t := tok6; refine (C3.out _ _ _ (hr6.out.far (below_alloc (Below.refl _ _) _))).mono ?_; rintro e w7 ⟨rfl, ⟨A7, c7, hr7⟩, hb7, hk7⟩; have mp7 := Lib.hid ((mp6.out.alloc (by simp; have := hl2.out; omega) _).trans (Mv.mk hb7 hk7)); have m7 := Lib.hid ((m6.out.alloc hlg _).trans (Mv.mk hb7 hk7)); have hq7 := Mv.new (Mv.mk hb7 hk7) hl6.out; have hqc0 : w7.cell? ⟨w6.heap.size, 0, none⟩ = some (.int .i64 q.f0) := (blk_cell hq7 0).trans rfl; have hqc1 : w7.cell? ⟨w6.heap.size, 1, none⟩ = some (.string q.f1) := (blk_cell hq7 1).trans rfl; clear hq7; replace hr7 := Lib.hid hr7; have how7 := Lib.hid (ho.out.keep m7.out.k); have hpw7 := mp7.out.new hl2.out; have hpc0 : w7.cell? ⟨w2.heap.size, 0, none⟩ = some (.int .i64 x.1) := (blk_cell hpw7 0).trans rfl; have hpc1 : w7.cell? ⟨w2.heap.size, 1, none⟩ = some (.int .i64 y.1) := (blk_cell hpw7 1).trans rfl; clear hpw7; have hoc0 : w7.cell? ⟨h, 0, none⟩ = some (.slice AP nP cP) := (blk_cell how7.out.blk 0).trans rfl; have hoc1 : w7.cell? ⟨h, 1, none⟩ = some (.int .i64 o.W) := (blk_cell how7.out.blk 1).trans rfl; clear hb7 hk7 tok6)
    | (go_at_call 21; have _t := tok7; refine (wrong_calls hr7.out q 11).mono ?_; rintro e w8 ⟨rfl, hr8, hb8, hk8⟩; have mp8 := Lib.hid (mp7.out.trans (Mv.mk hb8 hk8)); have m8 := Lib.hid (m7.out.trans (Mv.mk hb8 hk8)); replace hr8 := Lib.hid hr8; clear hpc0 hpc1 hoc0 hoc1; have how8 := Lib.hid (ho.out.keep m8.out.k); have hpw8 := mp8.out.new hl2.out; have hpc0 : w8.cell? ⟨w2.heap.size, 0, none⟩ = some (.int .i64 x.1) := (blk_cell hpw8 0).trans rfl; have hpc1 : w8.cell? ⟨w2.heap.size, 1, none⟩ = some (.int .i64 y.1) := (blk_cell hpw8 1).trans rfl; clear hpw8; have hoc0 : w8.cell? ⟨h, 0, none⟩ = some (.slice AP nP cP) := (blk_cell how8.out.blk 0).trans rfl; have hoc1 : w8.cell? ⟨h, 1, none⟩ = some (.int .i64 o.W) := (blk_cell how8.out.blk 1).trans rfl; clear hb8 hk8 tok7))
  have hoD := Lib.hid (how8.out.keep (KeepBut.of_below (below_drew (Below.refl _ _)) g none))
  have hrD := Lib.hid (hr8.out.far (below_drew (Below.refl _ _)))
  have mD := Lib.hid (m8.out.of_below hlg (below_drew (Below.refl _ _)))
  have hlp := Lib.hid (Nat.lt_of_lt_of_le hl2.out (Nat.le_refl _))
  clear hqc0 hqc1 hoc1
  refine start_ (n := 16) (S := fun w' => w'.cell? ⟨h, 0, none⟩ = some (.slice AP nP cP) ∧ w'.cell? ⟨w2.heap.size, 0, none⟩ = some (.int .i64 x.1) ∧ w'.cell? ⟨w2.heap.size, 1, none⟩ = some (.int .i64 y.1)) (ds := [8, 12, 15]) #[false, false, false, false, false, false, false, false, false, false, false, false, false, false, false, false] (by kernel_rfl) rfl rfl ⟨pw_cell_below (below_drew (Below.refl _ _)) hoc0, pw_cell_below (below_drew (Below.refl _ _)) hpc0, pw_cell_below (below_drew (Below.refl _ _)) hpc1⟩ (fun hHeld => ?_)
  generalize w8.drew = wd at hHeld hoD hrD mD ⊢
  refine pure_ (i := 0) (N := some 55) (v := ?_) (a' := ?_) #[true, false, false, false, false, false, false, false, false, false, false, false, false, false, false, false] rfl rfl (by kernel_rfl) (fun _ _ _ h => h) (Or.inl ⟨by rfl, ?_⟩) ?_ ?_
  rotate_left
  · intro w'
    go_simp
    with_reducible rfl
  rotate_left
  · simp only [Act.put, List.setIfInBounds_toArray, List.set_cons_zero, List.set_cons_succ, i64_w, i32_w]
    rfl
  refine pure_ (i := 1) (N := some 56) (v := ?_) (a' := ?_) #[true, true, false, false, false, false, false, false, false, false, false, false, false, false, false, false] rfl rfl (by kernel_rfl) (fun _ _ _ h => h) (Or.inl ⟨by rfl, ?_⟩) ?_ ?_
  rotate_left
  · intro w'
    go_simp
    with_reducible rfl
  rotate_left
  · simp only [Act.put, List.setIfInBounds_toArray, List.set_cons_zero, List.set_cons_succ, i64_w, i32_w]
    rfl
  refine pure_ (i := 2) (N := some 57) (v := ?_) (a' := ?_) #[true, true, true, false, false, false, false, false, false, false, false, false, false, false, false, false] rfl rfl (by kernel_rfl) (fun _ _ _ h => h) (Or.inl ⟨by rfl, ?_⟩) ?_ ?_
  rotate_left
  · intro w'
    go_simp
    with_reducible rfl
  rotate_left
  · simp only [Act.put, List.setIfInBounds_toArray, List.set_cons_zero, List.set_cons_succ, i64_w, i32_w]
    rfl
  refine pure_ (i := 3) (N := some 58) (v := ?_) (a' := ?_) #[true, true, true, true, false, false, false, false, false, false, false, false, false, false, false, false] rfl rfl (by kernel_rfl) (fun _ _ _ h => h) (Or.inl ⟨by rfl, ?_⟩) ?_ ?_
  rotate_left
  · intro w'
    go_simp
    with_reducible rfl
  rotate_left
  · simp only [Act.put, List.setIfInBounds_toArray, List.set_cons_zero, List.set_cons_succ, i64_w, i32_w]
    rfl
  refine pure_ (i := 4) (N := some 59) (v := ?_) (a' := ?_) #[true, true, true, true, true, false, false, false, false, false, false, false, false, false, false, false] rfl rfl (by kernel_rfl) (fun _ _ _ h => h) (Or.inl ⟨by rfl, ?_⟩) ?_ ?_
  rotate_left
  · intro w'
    go_simp
    with_reducible rfl
  rotate_left
  · simp only [Act.put, List.setIfInBounds_toArray, List.set_cons_zero, List.set_cons_succ, i64_w, i32_w]
    rfl
  refine pure_ (i := 9) (N := some 64) (v := ?_) (a' := ?_) #[true, true, true, true, true, false, false, false, false, true, false, false, false, false, false, false] rfl rfl (by kernel_rfl) (fun _ _ _ h => h) (Or.inl ⟨by rfl, ?_⟩) ?_ ?_
  rotate_left
  · intro w'
    go_simp
    with_reducible rfl
  rotate_left
  · simp only [Act.put, List.setIfInBounds_toArray, List.set_cons_zero, List.set_cons_succ, i64_w, i32_w]
    rfl
  refine take_ (i := 5) (N := some 60) (v := ?_) (a' := ?_) #[true, true, true, true, true, true, false, false, false, true, false, false, false, false, false, false] rfl rfl (by kernel_rfl) (fun _ _ _ h => h) (Or.inl ⟨by rfl, ?_⟩) hHeld ?_ ?_
  rotate_left
  · rintro w' ⟨s0, s1, s2⟩
    go_simp
    with_reducible rfl
  rotate_left
  · simp only [Act.put, List.setIfInBounds_toArray, List.set_cons_zero, List.set_cons_succ, i64_w, i32_w]
    rfl
  refine take_ (i := 6) (N := some 61) (v := ?_) (a' := ?_) #[true, true, true, true, true, true, true, false, false, true, false, false, false, false, false, false] rfl rfl (by kernel_rfl) (fun _ _ _ h => h) (Or.inl ⟨by rfl, ?_⟩) hHeld ?_ ?_
  rotate_left
  · rintro w' ⟨s0, s1, s2⟩
    go_simp
    with_reducible rfl
  rotate_left
  · simp only [Act.put, List.setIfInBounds_toArray, List.set_cons_zero, List.set_cons_succ, i64_w, i32_w]
    rfl
  refine one_ (i := 7) (N := some 62) #[true, true, true, true, true, true, true, true, false, true, false, false, false, false, false, false] rfl rfl (by kernel_rfl) (by decide) (fun K hK => ?_)
  refine value_ (w1 := ?_) (v := ?_) (by rfl) rfl ?_ ?_
  rotate_left 2
  · go_simp
    constructor
    · rfl
    · rfl
  refine hK.out _ _ ⟨pw_cell_below (below_alloc (Below.refl _ _) _) hHeld.1, pw_cell_below (below_alloc (Below.refl _ _) _) hHeld.2.1, pw_cell_below (below_alloc (Below.refl _ _) _) hHeld.2.2⟩ (fun hHeld => ?_)
  clear hK K
  refine norm_ (a' := ?_) ?_ ?_
  rotate_left
  · show Act.put _ (some 62) _ = _
    simp only [Act.put, List.setIfInBounds_toArray, List.set_cons_zero, List.set_cons_succ, i64_w, i32_w]
    rfl
  refine last_ (i := 8) (N := some 63) #[true, true, true, true, true, true, true, true, true, true, false, false, false, false, false, false] rfl rfl (by kernel_rfl) (by decide) (fun K hK => ?_)
  refine Kd.R_append_step k47 (w0 := wd) (W := wd) base (by rfl) (.tmp 60) (.tmp 62) 22 47 (.agg #[.int .i64 0, .int .i64 0]) 16 (by rfl) Tryd.underlying22 infoPt rfl (by decide) (by omega) (.slice AP nP cP) o.P ⟨x.1, y.1⟩ [.int .i64 x.1, .int .i64 y.1] (fun k => (k ≠ g ∧ k ≠ h) ∧ some k ≠ vF.ownBlock) (fun _ => False) (by rfl) (by rfl) (k47_mkM _ _ _ (⟨x.1, y.1⟩ : Pt)) (fun _ hk => hk.elim) (R_app hoD.out hgb (Nat.le_trans hbs mD.out.k.1) (fun k hk => Kd.R_lt hoD.out.rf k hk)) hoD.out.rp (Below.refl _ _) (Nat.le_trans hbs mD.out.k.1) (by rw [hnP.out]; omega) ?_
  intro v1 w9 hv9 _hb9 hg9 hat9
  obtain ⟨A9, c9, h9⟩ := Kd.R_slice hv9
  rw [List.length_append, List.length_singleton] at h9
  subst h9
  have hoP := hoD.out.put (v := v.1) hv9 hg9 hat9
  have hR9 := hrD.out.above (fun k hk => hg9.block k (Nat.lt_of_le_of_lt hk (blk_lt hrD.out.blk)) (fun e => by have := Kd.R_base hoD.out.rp k e.symm; omega))
  have hb9 : w9.heap[h]? = some (.cells #[.slice AP nP cP, .int .i64 o.W, vF] 25 (0, 0)) := (hg9.block h (blk_lt hoD.out.blk) (fun e => (hoD.out.rp.1 h e.symm).1.2 rfl)).trans hoD.out.blk
  have hz0 : w9.frozen? ⟨h, 0, none⟩ = false := blk_frozen hb9 0
  have hz1 : w9.frozen? ⟨h, 1, none⟩ = false := blk_frozen hb9 1
  have hk9 := hg9.size
  have hlh := blk_lt hb9
  have hy0 : w9.cell? ⟨h, 0, none⟩ = some (.slice AP nP cP) := (blk_cell hb9 0).trans rfl
  have hy1 : w9.cell? ⟨h, 1, none⟩ = some (.int .i64 o.W) := (blk_cell hb9 1).trans rfl
  have m9 := below_le' _hb9 (Nat.le_of_lt hgb)
  replace hoP := Lib.hid hoP
  replace hR9 := Lib.hid hR9
  replace hb9 := Lib.hid hb9
  replace hv9 := Lib.hid hv9
  replace hg9 := Lib.hid hg9
  replace hat9 := Lib.hid hat9
  replace _hb9 := Lib.hid _hb9
  replace m9 := Lib.hid m9
  refine hK.out _ _ ?_
  clear hK K
  refine norm_ (a' := ?_) ?_ ?_
  rotate_left
  · show Act.put _ (some 63) _ = _
    simp only [Act.put, List.setIfInBounds_toArray, List.set_cons_zero, List.set_cons_succ, i64_w, i32_w]
    rfl
  refine pure_ (i := 10) (N := some 65) (v := ?_) (a' := ?_) #[true, true, true, true, true, true, true, true, true, true, true, false, false, false, false, false] rfl rfl (by kernel_rfl) (fun _ _ _ h => h) (Or.inl ⟨by rfl, ?_⟩) ?_ ?_
  rotate_left
  · intro w'
    go_simp
    with_reducible rfl
  rotate_left
  · simp only [Act.put, List.setIfInBounds_toArray, List.set_cons_zero, List.set_cons_succ, i64_w, i32_w]
    rfl
  refine pure_ (i := 11) (N := some 66) (v := ?_) (a' := ?_) #[true, true, true, true, true, true, true, true, true, true, true, true, false, false, false, false] rfl rfl (by kernel_rfl) (fun _ _ _ h => h) (Or.inl ⟨by rfl, ?_⟩) ?_ ?_
  rotate_left
  · intro w'
    go_simp
    with_reducible rfl
  rotate_left
  · simp only [Act.put, List.setIfInBounds_toArray, List.set_cons_zero, List.set_cons_succ, i64_w, i32_w]
    rfl
  refine last_ (i := 12) (N := none) #[true, true, true, true, true, true, true, true, true, true, true, true, true, false, false, false] rfl rfl (by kernel_rfl) (by decide) (fun K hK => ?_)
  refine skip_ (w1 := ?_) (by rfl) rfl ?_ ?_
  rotate_left
  · go_simp
    rfl
  refine hK.out _ _ ?_
  clear hK K
  refine pure_ (i := 13) (N := some 67) (v := ?_) (a' := ?_) #[true, true, true, true, true, true, true, true, true, true, true, true, true, true, false, false] rfl rfl (by kernel_rfl) (fun _ _ _ h => h) (Or.inl ⟨by rfl, ?_⟩) ?_ ?_
  rotate_left
  · intro w'
    go_simp
    with_reducible rfl
  rotate_left
  · simp only [Act.put, List.setIfInBounds_toArray, List.set_cons_zero, List.set_cons_succ, i64_w, i32_w]
    rfl
  refine pure_ (i := 14) (N := some 68) (v := ?_) (a' := ?_) #[true, true, true, true, true, true, true, true, true, true, true, true, true, true, true, false] rfl rfl (by kernel_rfl) (fun _ _ _ h => h) (Or.inl ⟨by rfl, ?_⟩) ?_ ?_
  rotate_left
  · intro w'
    go_simp
    with_reducible rfl
  rotate_left
  · simp only [Act.put, List.setIfInBounds_toArray, List.set_cons_zero, List.set_cons_succ, i64_w, i32_w]
    rfl
  refine last_ (i := 15) (N := none) #[true, true, true, true, true, true, true, true, true, true, true, true, true, true, true, true] rfl rfl (by kernel_rfl) (by decide) (fun K hK => ?_)
  refine skip_ (w1 := ?_) (by rfl) rfl ?_ ?_
  rotate_left
  · go_simp
    rfl
  refine hK.out _ _ ?_
  clear hK K
  refine done_ (by kernel_rfl) ?_
  refine bodyPost_end (results_none rfl _ _ _) rfl ⟨rfl, ⟨_, _, (hR9.out.above (fun k hk => Below.heap_setCell _ ⟨h, 0, none⟩ _ k (by have := ho.out.gh; show k ≠ h; omega))).above (fun k hk => Below.heap_setCell _ ⟨h, 1, none⟩ _ k (by have := ho.out.gh; show k ≠ h; omega))⟩, ⟨_, _, hoP.out⟩, ((mD.out.b.trans m9.out).setCell (p := ⟨h, 0, none⟩) (Nat.le_of_lt ho.out.gh) _).setCell (p := ⟨h, 1, none⟩) (Nat.le_of_lt ho.out.gh) _⟩
end Go.Proofs.YtbmgajddhfjchaaDoor.Obj
namespace Go.Proofs.YtbmgajddhfjchaaDoor.Obj
open Go.RowKit Go.Proofs.YtbmgajddhfjchaaDoorW.PrintWords Go.Proofs.YtbmgajddhfjchaaDoorW.PrintLast Go.Proofs.YtbmgajddhfjchaaDoorW.PrintMore

theorem place_calls {g h base : Nat} {w : World} {end_ : Int} {r : RS} {A : Option Addr} {c : Nat} {o : RO} {vP vF : Value} (hr : RAt g w end_ r A c) (ho : OAt g h w base o vP vF) (hgb : g < base) (hbs : base ≤ w.heap.size) (hP : o.P.length ≤ 1048576) :
    Calls Tryd.prog 19 #[.pointer (some ⟨g, 0, none⟩), .pointer (some ⟨h, 0, none⟩)] w fun e w' => e = .returned (.tuple #[]) ∧ (∃ A' c', RAt g w' end_ (rplace end_ r o).1 A' c') ∧ (∃ vP' vF', OAt g h w' base (rplace end_ r o).2 vP' vF') ∧ Below g w w' := by
  obtain ⟨x, hx⟩ : ∃ x, r.number end_ (-4294967296) 4294967296 = x := ⟨_, rfl⟩
  obtain ⟨y, hy⟩ : ∃ y, x.2.number end_ (-4294967296) 4294967296 = y := ⟨_, rfl⟩
  obtain ⟨t, ht⟩ : ∃ t, y.2.peek end_ = t := ⟨_, rfl⟩
  obtain ⟨⟨n0, e0⟩, hne⟩ : ∃ ne, tokNum (bytesOf t.f1) 0 = ne := ⟨_, rfl⟩
  have hn0 := tokNum_zero (bytesOf t.f1)
  rw [hne] at hn0
  have hn0' : n0 = 0 := hn0
  subst hn0'
  by_cases he0 : e0 = 0
  · subst he0
    have hz : y.2.zero end_ = y.2.next := by unfold RS.zero; rw [ht]; simp only [hne]; simp
    obtain ⟨v, hv⟩ : ∃ v, y.2.next.number end_ 1 1048576 = v := ⟨_, rfl⟩
    rw [rplace_eq hx hy hz hv]
    by_cases hP0 : o.P = []
    · rw [if_neg (fun h => h.1 hP0)]; exact place_g0 hr ho hgb hbs hP hx hy ht hne hv hP0
    · have hl : 0 < o.P.length := List.length_pos_iff.2 hP0
      by_cases hm : v.1 = o.W
      · rw [if_neg (fun h => h.2 hm)]; exact place_ge hr ho hgb hbs hP hx hy ht hne hv hl hm
      · rw [if_pos ⟨hP0, hm⟩]; exact place_gn hr ho hgb hbs hP hx hy ht hne hv hl hm
  · have hz : y.2.zero end_ = (y.2.wrong t 11).next := by unfold RS.zero; rw [ht]; simp only [hne]; rw [if_pos (Or.inr he0)]
    obtain ⟨v, hv⟩ : ∃ v, (y.2.wrong t 11).next.number end_ 1 1048576 = v := ⟨_, rfl⟩
    rw [rplace_eq hx hy hz hv]
    by_cases hP0 : o.P = []
    · rw [if_neg (fun h => h.1 hP0)]; exact place_b0 hr ho hgb hbs hP he0 hx hy ht hne hv hP0
    · have hl : 0 < o.P.length := List.length_pos_iff.2 hP0
      by_cases hm : v.1 = o.W
      · rw [if_neg (fun h => h.2 hm)]; exact place_be hr ho hgb hbs hP he0 hx hy ht hne hv hl hm
      · rw [if_pos ⟨hP0, hm⟩]; exact place_bn hr ho hgb hbs hP he0 hx hy ht hne hv hl hm

def fk (end_ n : Int) (r : RS) : Nat → RS × List Int
  | 0 => (r, [])
  | k + 1 => (((fk end_ n r k).1.number end_ 1 n).2, (fk end_ n r k).2 ++ [((fk end_ n r k).1.number end_ 1 n).1 - 1])
theorem fk_len (end_ n : Int) (r : RS) (k : Nat) : (fk end_ n r k).2.length = k := by
  induction k with
  | zero => rfl
  | succ k ih => simp [fk, ih]
theorem number_range (r : RS) (end_ low high : Int) (hlh : low ≤ high ∨ high = 0) : low ≤ (r.number end_ low high).1 ∧ ((r.number end_ low high).1 ≤ high ∨ (r.number end_ low high).1 = low) := by
  unfold RS.number
  simp only
  generalize tokNum (bytesOf (r.peek end_).f1) (mx high (-low)) = ne
  by_cases h : ne.2 = 0 ∧ (ne.1 < low ∨ high < ne.1)
  · rw [if_pos h, if_pos (by decide)]; exact ⟨Int.le_refl _, .inr rfl⟩
  · rw [if_neg h]
    by_cases h2 : ne.2 = 0
    · rw [if_neg (by simpa using h2)]
      simp only [h2, true_and, not_or, Int.not_lt] at h
      exact ⟨h.1, .inl h.2⟩
    · rw [if_pos h2]; exact ⟨Int.le_refl _, .inr rfl⟩
theorem rface_eq4 {end_ : Int} {r : RS} {o : RO} (he : (tokNum (bytesOf ((fk end_ o.P.length r 3).1.peek end_).f1) o.P.length).2 ≠ 11) : rface end_ r o = ((fk end_ o.P.length r 4).1, { o with F := o.F ++ [(fk end_ o.P.length r 4).2] }) := by
  unfold rface
  exact (if_pos he).trans rfl
theorem rface_eq3 {end_ : Int} {r : RS} {o : RO} (he : (tokNum (bytesOf ((fk end_ o.P.length r 3).1.peek end_).f1) o.P.length).2 = 11) : rface end_ r o = ((fk end_ o.P.length r 3).1, { o with F := o.F ++ [(fk end_ o.P.length r 3).2] }) := by
  unfold rface
  exact (if_neg (fun h => h he)).trans rfl
def FRel (g : Nat) (w : World) (end_ n : Int) (r : RS) (k : Nat) (v : Value) (wr : World) : Prop :=
  (∃ A c, RAt g wr end_ (fk end_ n r k).1 A c) ∧ Kd.R (Kd.int .i64) 3 wr g (fun k => w.heap.size ≤ k) v (fk end_ n r k).2 ∧ Mv g w wr
theorem FRel.step {g : Nat} {w w1 w2 wr : World} {end_ n : Int} {r : RS} {k : Nat} {A : Option Addr} {c : Nat} {v v2 : Value} (hg : g < w.heap.size) (hrel : FRel g w end_ n r k v wr) (h1 : RAt g w1 end_ ((fk end_ n r k).1.number end_ 1 n).2 A c) (m1 : Mv g wr w1)
    (hv2 : Kd.R (Kd.int .i64) 3 w2 g (fun k => w.heap.size ≤ k) v2 ((fk end_ n r k).2 ++ [((fk end_ n r k).1.number end_ 1 n).1 - 1])) (hb2 : Below g w w2) (hg2 : w1.grownBy w2 v.ownBlock) : FRel g w end_ n r (k + 1) v2 w2 := by
  obtain ⟨_, hv, m⟩ := hrel
  have hrow : ∀ j, v.ownBlock = some j → w.heap.size ≤ j := fun j hj => hv.1 j hj
  refine ⟨⟨A, c, ?_⟩, hv2, ⟨hb2, KeepBut.trans (KeepBut.trans m.k m1.k (.inl rfl)) (KeepBut.of_grown hg2 g) ?_⟩⟩
  · have hlt := blk_lt h1.blk
    exact h1.above (fun j hj => hg2.block j (by omega) (fun e => by have := hrow j e.symm; omega))
  · cases hvb : v.ownBlock with
    | none => exact .inl rfl
    | some b => exact .inr ⟨b, rfl, hrow b hvb⟩
theorem OAt.far {g h base : Nat} {w w' : World} {o : RO} {vP vF : Value} (ho : OAt g h w base o vP vF) (hb : Below w.heap.size w w') : OAt g h w' base o vP vF := ho.keep (KeepBut.of_below hb g none)
theorem OAt.putF {g h base : Nat} {w w1 : World} {o : RO} {vP vF v1 : Value} {f : List Int} (ho : OAt g h w base o vP vF) (hv : Kd.R (Kd.slice 3 (Kd.int .i64)) 48 w1 base (fun k => (k ≠ g ∧ k ≠ h) ∧ some k ≠ vP.ownBlock) v1 (o.F ++ [f])) (hg : w.grownBy w1 vF.ownBlock) (hat : v1.ownBlock = vF.ownBlock ∨ ∃ b, v1.ownBlock = some b ∧ w.heap.size ≤ b) :
    OAt g h (w1.setCell ⟨h, 2, none⟩ v1) base { o with F := o.F ++ [f] } vP v1 where
  blk := by
    have hb : w1.heap[h]? = some (.cells #[vP, .int .i64 o.W, vF] 25 (0, 0)) := (hg.block h (blk_lt ho.blk) (fun e => (ho.rf.1 h e.symm).1.2 rfl)).trans ho.blk
    exact blk_put (cs := #[vP, .int .i64 o.W, vF]) hb 2 _ rfl
  rf := Kd.R_far (p := ⟨h, 2, none⟩) hv (fun k hk => hk.1.2) _
  rp := Kd.R_far (p := ⟨h, 2, none⟩) (Kd.R_after ho.rp hg hat) (fun k hk => hk.1.2) _
  gh := ho.gh
theorem infoInt' : (Tryd.prog.info? 3).map (fun i => (i.zero, i.size, i.bytes)) = some (some (.int .i64 0), 1, 8) := by kernel_rfl
theorem infoSI : (Tryd.prog.info? 48).map (fun i => (i.zero, i.size, i.bytes)) = some (some (.slice none 0 0), 1, 24) := by kernel_rfl
theorem fresh_F {g h base : Nat} {W : World} {o : RO} {vP vF : Value} (ho : OAt g h W base o vP vF) : ∀ k, W.heap.size ≤ k → (k ≠ g ∧ k ≠ h) ∧ some k ≠ vP.ownBlock := fun k hk => by
  have h1 := blk_lt ho.blk
  have h2 := ho.gh
  exact ⟨⟨by omega, by omega⟩, fun e => by have := Kd.R_lt ho.rp k e.symm; omega⟩
theorem okp_F {g h base : Nat} {w : World} {o : RO} {vP vF : Value} (ho : OAt g h w base o vP vF) : ∀ k, w.heap.size ≤ k → ((k ≠ g ∧ k ≠ h) ∧ some k ≠ vP.ownBlock) ∧ some k ≠ vF.ownBlock := fun k hk => by
  have h1 := blk_lt ho.blk
  have h2 := ho.gh
  exact ⟨⟨⟨by omega, by omega⟩, fun e => by have := Kd.R_lt ho.rp k e.symm; omega⟩, fun e => by have := Kd.R_lt ho.rf k e.symm; omega⟩

set_option maxHeartbeats 4000000 in
set_option maxRecDepth 100000 in
theorem face_3 {g h base : Nat} {w : World} {end_ : Int} {r : RS} {A : Option Addr} {c : Nat} {o : RO} {vP vF : Value} (hr : RAt g w end_ r A c) (ho : OAt g h w base o vP vF) (hgb : g < base) (hbs : base ≤ w.heap.size) (hP : o.P.length ≤ 1048576) (hFl : o.F.length ≤ 1048576) {er n4 : Int} (her : er = 11) (hne : tokNum (bytesOf ((fk end_ o.P.length r 3).1.peek end_).f1) o.P.length = (n4, er)) :
    Calls Tryd.prog 20 #[.pointer (some ⟨g, 0, none⟩), .pointer (some ⟨h, 0, none⟩)] w fun e w' => e = .returned (.tuple #[]) ∧ (∃ A' c', RAt g w' end_ (fk end_ o.P.length r 3).1 A' c') ∧ (∃ vP' vF', OAt g h w' base { o with F := o.F ++ [(fk end_ o.P.length r 3).2] } vP' vF') ∧ Below g w w' := by
  have hlg := blk_lt hr.blk
  have tokB : True := trivial
  have tokC : True := trivial
  have hvF := Lib.hid (Kd.R_lt ho.rf)
  obtain ⟨AP, cP, rfl, hcP, hCP⟩ := Kd.R_reads ho.rp
  clear hCP hcP
  obtain ⟨nP, hnP⟩ : ∃ nP, o.P.length = nP := ⟨_, rfl⟩
  rw [hnP] at ho hP hne ⊢
  replace hnP := Lib.hid hnP
  obtain ⟨q, hq⟩ : ∃ q, (fk end_ nP r 3).1.peek end_ = q := ⟨_, rfl⟩
  rw [hq] at hne
  have hnn : (0 : Int) ≤ (nP : Int) := by omega
  have hnP1 : (nP : Int) ≤ 4294967296 := by omega
  have CT' := number_calls q.f1 (nP : Int) (by omega) (by omega)
  rw [hne] at CT'
  have CT := Lib.hid CT'
  clear CT' hne
  have CP := Lib.hid (fun W A c (h : RAt g W end_ (fk end_ nP r 3).1 A c) => by have := peek_calls h; rw [hq] at this; exact this)
  clear hq
  have huo := Tryd.underlying25
  have hut := Tryd.underlying40
  have hfd : ∀ w : World, (Instr.field 40 (.agg #[.int .i64 q.f0, .string q.f1]) 1).run Tryd.prog w = .ok (.string q.f1) w := fun _ => by kernel_rfl
  subst her
  have H0 := Lib.hid (⟨⟨A, c, hr⟩, Kd.R_nil (Kd.int .i64) 3 w g (fun k => w.heap.size ≤ k), Mv.refl g w⟩ : FRel g w end_ nP r 0 (.slice none 0 0) w)
  clear hr
  replace ho := Lib.hid ho
  go_enter Tryd.func20, Tryd.ntmps20
  go_wp2_with fail
  go_loopw [4, 7] (fun v i wr => ∃ (k : Nat) (vo : Value), k ≤ 3 ∧ i = .int .i64 k ∧ vo = v ∧ Hid (FRel g w end_ nP r k vo wr)) (fun _ i _ => 3 - (intOf i).toNat)
  case atStart => exact ⟨0, _, by omega, rfl, rfl, H0⟩
  case round =>
    obtain ⟨k, v, hk3, rfl, rfl, hF⟩ := hrel
    have hlen := fk_len end_ nP r k
    by_cases hk : k < 3
    · have hkd : decide ((k : Int) < 3) = true := decide_eq_true (by omega)
      obtain ⟨⟨Ak, ck, hrk⟩, hv, hm⟩ := hF.out
      have ho1 := Lib.hid (ho.out.keep hm.k)
      have hoc0 : wr.cell? ⟨h, 0, none⟩ = some (.slice AP nP cP) := (blk_cell ho1.out.blk 0).trans rfl
      have hne' := World.new_ne wr _ hoc0
      replace hrk := Lib.hid hrk
      replace hm := Lib.hid hm
      have tokN : True := trivial
      have tokA : True := trivial
      obtain ⟨x, hx⟩ : ∃ x, ((fk end_ nP r k).1.number end_ 1 nP).1 = x := ⟨_, rfl⟩
      obtain ⟨fl, hfk⟩ : ∃ fl, (fk end_ nP r k).2 = fl := ⟨_, rfl⟩
      rw [hfk] at hv
      have hfl : fl.length = k := by rw [← hfk]; exact fk_len _ _ _ _
      have hr1 := number_range (fk end_ nP r k).1 end_ 1 nP (by omega)
      rw [hx] at hr1
      have hx1 : 1 ≤ x := hr1.1
      have hx2 : x ≤ 1048577 := by have := hr1.2; omega
      have CN := rnumber_calls hrk.out 1 nP (by decide) (by decide) hnn hnP1
      rw [hx] at CN
      replace CN := Lib.hid CN
      clear hr1
      replace hx := Lib.hid hx
      replace hfk := Lib.hid hfk
      replace hfl := Lib.hid hfl
      replace hv := Lib.hid hv
      clear hlen
      go_wp2_with (first
        | (go_at_call 33; have _t := tokN; refine CN.out.mono ?_; rintro e w1 ⟨rfl, ⟨A1, c1, h1⟩, hb1, hk1⟩; have m1 := Lib.hid (Mv.mk hb1 hk1); replace h1 := Lib.hid h1; have hvA := Lib.hid (Kd.R_keep hv.out hk1 (fun k hk => Nat.ne_of_gt (Nat.lt_of_lt_of_le hlg hk))); have hfrA := Lib.hid (show ∀ k, w1.heap.size ≤ k → w.heap.size ≤ k from fun k hk => Nat.le_trans (Nat.le_trans hm.out.k.1 hk1.1) hk); have hbA := Lib.hid (hm.out.b.trans hb1); have hsA := Lib.hid (Nat.le_of_lt (blk_lt h1.out.blk)); have hlA := Lib.hid (show (fl.length + 1) * 8 ≤ 140737488355328 by rw [hfl.out]; omega); clear hb1 hk1 tokN)
        | (at_builtin; have _t := tokA; refine Kd.R_append (Kd.int .i64) (w0 := w) g rfl (.tmp 9) (.tmp 18) 48 3 (.int .i64 0) 8 rfl Tryd.underlying48 infoInt' rfl (by decide) (by omega) v fl (x - 1) [.int .i64 (x - 1)] (fun k => w.heap.size ≤ k) (fun _ => False) rfl rfl rfl (fun _ hk => hk.elim) hfrA.out hvA.out hbA.out hsA.out hlA.out ?_; intro v2 w2 hv2 hb2 hg2 _hat2; have hn2 := Lib.hid (FRel.step hlg hF.out h1.out m1.out (by rw [hx.out, hfk.out]; exact hv2) hb2 hg2); clear hv2 hb2 hg2 _hat2 tokA))
      go_roundw
      case rel => exact ⟨k + 1, _, by omega, by go_num, rfl, hn2⟩
      case measure => simp [intOf]; omega
    · obtain rfl : k = 3 := by omega
      clear hk hk3 hlen
      obtain ⟨⟨Ak, ck, hrk⟩, hv, hm⟩ := hF.out
      have ho1 := Lib.hid (ho.out.keep hm.k)
      have hoc0 : wr.cell? ⟨h, 0, none⟩ = some (.slice AP nP cP) := (blk_cell ho1.out.blk 0).trans rfl
      replace hrk := Lib.hid hrk
      replace hm := Lib.hid hm
      replace hv := Lib.hid hv
      go_wp2_with fail
      refine start_ (n := 14) (S := fun w' => w'.cell? ⟨h, 0, none⟩ = some (.slice AP nP cP)) (ds := []) #[false, false, false, false, false, false, false, false, false, false, false, false, false, false] (by kernel_rfl) rfl rfl (pw_cell_below (below_drew (Below.refl _ _)) hoc0) (fun hHeld => ?_)
      refine pure_ (i := 0) (N := some 22) (v := ?_) (a' := ?_) #[true, false, false, false, false, false, false, false, false, false, false, false, false, false] rfl rfl (by kernel_rfl) (fun _ _ _ h => h) (Or.inl ⟨by rfl, ?_⟩) ?_ ?_
      rotate_left
      · intro w'
        go_simp
        with_reducible rfl
      rotate_left
      · simp only [Act.put, List.setIfInBounds_toArray, List.set_cons_zero, List.set_cons_succ, i64_w, i32_w]
        rfl
      refine pure_ (i := 3) (N := some 25) (v := ?_) (a' := ?_) #[true, false, false, true, false, false, false, false, false, false, false, false, false, false] rfl rfl (by kernel_rfl) (fun _ _ _ h => h) (Or.inl ⟨by rfl, ?_⟩) ?_ ?_
      rotate_left
      · intro w'
        go_simp
        with_reducible rfl
      rotate_left
      · simp only [Act.put, List.setIfInBounds_toArray, List.set_cons_zero, List.set_cons_succ, i64_w, i32_w]
        rfl
      refine pure_ (i := 4) (N := some 26) (v := ?_) (a' := ?_) #[true, false, false, true, true, false, false, false, false, false, false, false, false, false] rfl rfl (by kernel_rfl) (fun _ _ _ h => h) (Or.inl ⟨by rfl, ?_⟩) ?_ ?_
      rotate_left
      · intro w'
        go_simp
        with_reducible rfl
      rotate_left
      · simp only [Act.put, List.setIfInBounds_toArray, List.set_cons_zero, List.set_cons_succ, i64_w, i32_w]
        rfl
      refine pure_ (i := 5) (N := some 27) (v := ?_) (a' := ?_) #[true, false, false, true, true, true, false, false, false, false, false, false, false, false] rfl rfl (by kernel_rfl) (fun _ _ _ h => h) (Or.inl ⟨by rfl, ?_⟩) ?_ ?_
      rotate_left
      · intro w'
        go_simp
        with_reducible rfl
      rotate_left
      · simp only [Act.put, List.setIfInBounds_toArray, List.set_cons_zero, List.set_cons_succ, i64_w, i32_w]
        rfl
      refine take_ (i := 6) (N := some 28) (v := ?_) (a' := ?_) #[true, false, false, true, true, true, true, false, false, false, false, false, false, false] rfl rfl (by kernel_rfl) (fun _ _ _ h => h) (Or.inl ⟨by rfl, ?_⟩) hHeld ?_ ?_
      rotate_left
      · intro w' s0
        go_simp
        with_reducible rfl
      rotate_left
      · simp only [Act.put, List.setIfInBounds_toArray, List.set_cons_zero, List.set_cons_succ, i64_w, i32_w]
        rfl
      refine pure_ (i := 7) (N := some 29) (v := ?_) (a' := ?_) #[true, false, false, true, true, true, true, true, false, false, false, false, false, false] rfl rfl (by kernel_rfl) (fun _ _ _ h => h) (Or.inl ⟨by rfl, ?_⟩) ?_ ?_
      rotate_left
      · intro w'
        go_simp
        with_reducible rfl
      rotate_left
      · simp only [Act.put, List.setIfInBounds_toArray, List.set_cons_zero, List.set_cons_succ, i64_w, i32_w]
        rfl
      refine one_ (i := 1) (N := some 23) #[true, true, false, true, true, true, true, true, false, false, false, false, false, false] rfl rfl (by kernel_rfl) (by decide) (fun K hK => ?_)
      refine goes_ Tryd.func34 (by kernel_rfl) rfl #[.pointer (some ⟨g, 0, none⟩)] (by rfl) rfl rfl (by simp only [List.map_toArray, List.map_cons, List.map_nil]; rfl) ?_
      with_reducible refine (CP.out _ _ _ (hrk.out.far (below_drew (Below.refl _ _)))).mono ?_
      rintro e w3 ⟨rfl, hb3⟩
      refine ⟨_, rfl, ?_⟩
      have hb3' := Lib.hid hb3
      refine hK.out _ _ (pw_cell_below hb3 hHeld) (fun hHeld => ?_)
      clear hK K
      refine norm_ (a' := ?_) ?_ ?_
      rotate_left
      · show Act.put _ (some 23) _ = _
        simp only [Act.put, List.setIfInBounds_toArray, List.set_cons_zero, List.set_cons_succ, i64_w, i32_w]
        rfl
      refine pure_ (i := 2) (N := some 24) (v := ?_) (a' := ?_) #[true, true, true, true, true, true, true, true, false, false, false, false, false, false] rfl rfl (by kernel_rfl) (fun _ _ _ h => h) (Or.inl ⟨by rfl, ?_⟩) ?_ ?_
      rotate_left
      · intro w'
        go_simp
        with_reducible rfl
      rotate_left
      · simp only [Act.put, List.setIfInBounds_toArray, List.set_cons_zero, List.set_cons_succ, i64_w, i32_w]
        rfl
      refine one_ (i := 8) (N := some 30) #[true, true, true, true, true, true, true, true, true, false, false, false, false, false] rfl rfl (by kernel_rfl) (by decide) (fun K hK => ?_)
      refine goes_ Tryd.func35 (by kernel_rfl) rfl #[.string q.f1, .int .i64 nP] (by rfl) rfl rfl (by simp only [List.map_toArray, List.map_cons, List.map_nil]; rfl) ?_
      with_reducible refine (CT.out _).mono ?_
      rintro e w4 ⟨rfl, hb4⟩
      refine ⟨_, rfl, ?_⟩
      have hb4' := Lib.hid hb4
      refine hK.out _ _ (pw_cell_below hb4 hHeld) (fun hHeld => ?_)
      clear hK K
      refine norm_ (a' := ?_) ?_ ?_
      rotate_left
      · show Act.put _ (some 30) _ = _
        simp only [Act.put, List.setIfInBounds_toArray, List.set_cons_zero, List.set_cons_succ, i64_w, i32_w]
        rfl
      refine pure_ (i := 9) (N := some 21) (v := ?_) (a' := ?_) #[true, true, true, true, true, true, true, true, true, true, false, false, false, false] rfl rfl (by kernel_rfl) (fun _ _ _ h => h) (Or.inl ⟨by rfl, ?_⟩) ?_ ?_
      rotate_left
      · intro w'
        go_simp
        with_reducible rfl
      rotate_left
      · simp only [Act.put, List.setIfInBounds_toArray, List.set_cons_zero, List.set_cons_succ, i64_w, i32_w]
        rfl
      refine pure_ (i := 10) (N := some 31) (v := ?_) (a' := ?_) #[true, true, true, true, true, true, true, true, true, true, true, false, false, false] rfl rfl (by kernel_rfl) (fun _ _ _ h => h) (Or.inl ⟨by rfl, ?_⟩) ?_ ?_
      rotate_left
      · intro w'
        go_simp
        with_reducible rfl
      rotate_left
      · simp only [Act.put, List.setIfInBounds_toArray, List.set_cons_zero, List.set_cons_succ, i64_w, i32_w]
        rfl
      refine pure_ (i := 11) (N := some 32) (v := ?_) (a' := ?_) #[true, true, true, true, true, true, true, true, true, true, true, true, false, false] rfl rfl (by kernel_rfl) (fun _ _ _ h => h) (Or.inl ⟨by rfl, ?_⟩) ?_ ?_
      rotate_left
      · intro w'
        go_simp
        with_reducible rfl
      rotate_left
      · simp only [Act.put, List.setIfInBounds_toArray, List.set_cons_zero, List.set_cons_succ, i64_w, i32_w]
        rfl
      refine pure_ (i := 12) (N := some 5) (v := ?_) (a' := ?_) #[true, true, true, true, true, true, true, true, true, true, true, true, true, false] rfl rfl (by kernel_rfl) (fun _ _ _ h => h) (Or.inl ⟨by rfl, ?_⟩) ?_ ?_
      rotate_left
      · intro w'
        go_simp
        with_reducible rfl
      rotate_left
      · simp only [Act.put, List.setIfInBounds_toArray, List.set_cons_zero, List.set_cons_succ, i64_w, i32_w]
        rfl
      refine pure_ (i := 13) (N := some 6) (v := ?_) (a' := ?_) #[true, true, true, true, true, true, true, true, true, true, true, true, true, true] rfl rfl (by kernel_rfl) (fun _ _ _ h => h) (Or.inl ⟨by rfl, ?_⟩) ?_ ?_
      rotate_left
      · intro w'
        go_simp
        with_reducible rfl
      rotate_left
      · simp only [Act.put, List.setIfInBounds_toArray, List.set_cons_zero, List.set_cons_succ, i64_w, i32_w]
        rfl
      refine done_ (by kernel_rfl) ?_
      have hb := Lib.hid (below_step (below_step (below_drew (Below.refl _ _)) hb3'.out) hb4'.out)
      clear hb3' hb4' hHeld hoc0
      have hF4 := Lib.hid (show FRel g w end_ nP r 3 _ w4 from ⟨⟨_, _, hrk.out.far hb.out⟩, Kd.R_below hv.out hb.out, hm.out.of_below hlg hb.out⟩)
      clear hF hb hrk hv hm ho1
      obtain ⟨⟨A8, c8, hr8⟩, hv8, hm8⟩ := hF4.out
      obtain ⟨Af, cf, hvf⟩ := Kd.R_slice hv8
      rw [fk_len] at hvf
      subst hvf
      have ho8 := Lib.hid (ho.out.keep hm8.k)
      have hoc2 : w4.cell? ⟨h, 2, none⟩ = some vF := (blk_cell ho8.out.blk 2).trans rfl
      have hne8 := World.new_ne w4 _ hoc2
      have hpF := Lib.hid (show (Kd.slice 3 (Kd.int .i64)).M w4 base (fun k => w.heap.size ≤ k) (fk end_ nP r 3).2 [(.slice Af 3 cf)] from ⟨_, rfl, Kd.R_raise (b := g) (b' := base) (fun _ _ _ _ h => h) hv8 (fun k hk => Nat.le_trans hbs (hv8.1 k hk))⟩)
      have hfr8 := Lib.hid (fresh_F ho8.out)
      have hok8 := Lib.hid (show ∀ k, w.heap.size ≤ k → ((k ≠ g ∧ k ≠ h) ∧ some k ≠ (Value.slice AP nP cP).ownBlock) ∧ some k ≠ vF.ownBlock from okp_F ho.out)
      have hbs8 := Lib.hid (Nat.le_trans hbs hm8.k.1)
      replace hr8 := Lib.hid hr8
      replace hm8 := Lib.hid hm8
      clear hv8
      go_wp2_with (first
        | (at_builtin; have _t := tokB; refine Kd.R_append (Kd.slice 3 (Kd.int .i64)) (w0 := w4) base rfl (.tmp 50) (.tmp 52) 23 48 (.slice none 0 0) 24 rfl Tryd.underlying23 infoSI rfl (by decide) (by omega) vF o.F (fk end_ nP r 3).2 [(.slice Af 3 cf)] (fun k => (k ≠ g ∧ k ≠ h) ∧ some k ≠ (Value.slice AP nP cP).ownBlock) (fun k => w.heap.size ≤ k) rfl rfl hpF.out hok8.out hfr8.out ho8.out.rf (Below.refl _ _) hbs8.out (by omega) ?_; intro v9 w9 hv9 hb9 hg9 hat9; obtain ⟨A9, c9, h9⟩ := Kd.R_slice hv9; rw [List.length_append, List.length_singleton] at h9; subst h9; have hoF := ho8.out.putF hv9 hg9 hat9; have hR9 := hr8.out.above (fun k hk => hg9.block k (Nat.lt_of_le_of_lt hk (blk_lt hr8.out.blk)) (fun e => by have := Kd.R_base ho8.out.rf k e.symm; omega)); have hb9h : w9.heap[h]? = some (.cells #[.slice AP nP cP, .int .i64 o.W, vF] 25 (0, 0)) := (hg9.block h (blk_lt ho8.out.blk) (fun e => (ho8.out.rf.1 h e.symm).1.2 rfl)).trans ho8.out.blk; have hz2 : w9.frozen? ⟨h, 2, none⟩ = false := blk_frozen hb9h 2; have hy2 : w9.cell? ⟨h, 2, none⟩ = some vF := (blk_cell hb9h 2).trans rfl; have hlh := blk_lt hb9h; have m9 := Lib.hid (below_le' hb9 (Nat.le_of_lt hgb)); replace hoF := Lib.hid hoF; replace hR9 := Lib.hid hR9; clear hv9 hb9 hg9 hat9 hb9h hoc2 tokB))
      refine bodyPost_end (results_none rfl _ _ _) rfl ⟨rfl, ⟨_, _, hR9.out.above (fun k hk => Below.heap_setCell _ ⟨h, 2, none⟩ _ k (by have := ho.out.gh; show k ≠ h; omega))⟩, ⟨_, _, hoF.out⟩, (hm8.out.b.trans m9.out).setCell (p := ⟨h, 2, none⟩) (Nat.le_of_lt ho.out.gh) _⟩
set_option maxHeartbeats 4000000 in
set_option maxRecDepth 100000 in
theorem face_4 {g h base : Nat} {w : World} {end_ : Int} {r : RS} {A : Option Addr} {c : Nat} {o : RO} {vP vF : Value} (hr : RAt g w end_ r A c) (ho : OAt g h w base o vP vF) (hgb : g < base) (hbs : base ≤ w.heap.size) (hP : o.P.length ≤ 1048576) (hFl : o.F.length ≤ 1048576) {er n4 : Int} (her : er ≠ 11) (hne : tokNum (bytesOf ((fk end_ o.P.length r 3).1.peek end_).f1) o.P.length = (n4, er)) :
    Calls Tryd.prog 20 #[.pointer (some ⟨g, 0, none⟩), .pointer (some ⟨h, 0, none⟩)] w fun e w' => e = .returned (.tuple #[]) ∧ (∃ A' c', RAt g w' end_ (fk end_ o.P.length r 4).1 A' c') ∧ (∃ vP' vF', OAt g h w' base { o with F := o.F ++ [(fk end_ o.P.length r 4).2] } vP' vF') ∧ Below g w w' := by
  have hlg := blk_lt hr.blk
  have tokB : True := trivial
  have tokC : True := trivial
  have hvF := Lib.hid (Kd.R_lt ho.rf)
  obtain ⟨AP, cP, rfl, hcP, hCP⟩ := Kd.R_reads ho.rp
  clear hCP hcP
  obtain ⟨nP, hnP⟩ : ∃ nP, o.P.length = nP := ⟨_, rfl⟩
  rw [hnP] at ho hP hne ⊢
  replace hnP := Lib.hid hnP
  obtain ⟨q, hq⟩ : ∃ q, (fk end_ nP r 3).1.peek end_ = q := ⟨_, rfl⟩
  rw [hq] at hne
  have hnn : (0 : Int) ≤ (nP : Int) := by omega
  have hnP1 : (nP : Int) ≤ 4294967296 := by omega
  have CT' := number_calls q.f1 (nP : Int) (by omega) (by omega)
  rw [hne] at CT'
  have CT := Lib.hid CT'
  clear CT' hne
  have CP := Lib.hid (fun W A c (h : RAt g W end_ (fk end_ nP r 3).1 A c) => by have := peek_calls h; rw [hq] at this; exact this)
  clear hq
  have huo := Tryd.underlying25
  have hut := Tryd.underlying40
  have hfd : ∀ w : World, (Instr.field 40 (.agg #[.int .i64 q.f0, .string q.f1]) 1).run Tryd.prog w = .ok (.string q.f1) w := fun _ => by kernel_rfl
  have hd0 : (er != 11) = true := bne_iff_ne.2 her
  have hd1 : (er == 11) = false := beq_eq_false_iff_ne.2 her
  clear her
  have H0 := Lib.hid (⟨⟨A, c, hr⟩, Kd.R_nil (Kd.int .i64) 3 w g (fun k => w.heap.size ≤ k), Mv.refl g w⟩ : FRel g w end_ nP r 0 (.slice none 0 0) w)
  clear hr
  replace ho := Lib.hid ho
  go_enter Tryd.func20, Tryd.ntmps20
  go_wp2_with fail
  go_loopw [4, 7] (fun v i wr => ∃ (k : Nat) (vo : Value), k ≤ 3 ∧ i = .int .i64 k ∧ vo = v ∧ Hid (FRel g w end_ nP r k vo wr)) (fun _ i _ => 3 - (intOf i).toNat)
  case atStart => exact ⟨0, _, by omega, rfl, rfl, H0⟩
  case round =>
    obtain ⟨k, v, hk3, rfl, rfl, hF⟩ := hrel
    have hlen := fk_len end_ nP r k
    by_cases hk : k < 3
    · have hkd : decide ((k : Int) < 3) = true := decide_eq_true (by omega)
      obtain ⟨⟨Ak, ck, hrk⟩, hv, hm⟩ := hF.out
      have ho1 := Lib.hid (ho.out.keep hm.k)
      have hoc0 : wr.cell? ⟨h, 0, none⟩ = some (.slice AP nP cP) := (blk_cell ho1.out.blk 0).trans rfl
      have hne' := World.new_ne wr _ hoc0
      replace hrk := Lib.hid hrk
      replace hm := Lib.hid hm
      have tokN : True := trivial
      have tokA : True := trivial
      obtain ⟨x, hx⟩ : ∃ x, ((fk end_ nP r k).1.number end_ 1 nP).1 = x := ⟨_, rfl⟩
      obtain ⟨fl, hfk⟩ : ∃ fl, (fk end_ nP r k).2 = fl := ⟨_, rfl⟩
      rw [hfk] at hv
      have hfl : fl.length = k := by rw [← hfk]; exact fk_len _ _ _ _
      have hr1 := number_range (fk end_ nP r k).1 end_ 1 nP (by omega)
      rw [hx] at hr1
      have hx1 : 1 ≤ x := hr1.1
      have hx2 : x ≤ 1048577 := by have := hr1.2; omega
      have CN := rnumber_calls hrk.out 1 nP (by decide) (by decide) hnn hnP1
      rw [hx] at CN
      replace CN := Lib.hid CN
      clear hr1
      replace hx := Lib.hid hx
      replace hfk := Lib.hid hfk
      replace hfl := Lib.hid hfl
      replace hv := Lib.hid hv
      clear hlen
      go_wp2_with (first
        | (go_at_call 33; have _t := tokN; refine CN.out.mono ?_; rintro e w1 ⟨rfl, ⟨A1, c1, h1⟩, hb1, hk1⟩; have m1 := Lib.hid (Mv.mk hb1 hk1); replace h1 := Lib.hid h1; have hvA := Lib.hid (Kd.R_keep hv.out hk1 (fun k hk => Nat.ne_of_gt (Nat.lt_of_lt_of_le hlg hk))); have hfrA := Lib.hid (show ∀ k, w1.heap.size ≤ k → w.heap.size ≤ k from fun k hk => Nat.le_trans (Nat.le_trans hm.out.k.1 hk1.1) hk); have hbA := Lib.hid (hm.out.b.trans hb1); have hsA := Lib.hid (Nat.le_of_lt (blk_lt h1.out.blk)); have hlA := Lib.hid (show (fl.length + 1) * 8 ≤ 140737488355328 by rw [hfl.out]; omega); clear hb1 hk1 tokN)
        | (at_builtin; have _t := tokA; refine Kd.R_append (Kd.int .i64) (w0 := w) g rfl (.tmp 9) (.tmp 18) 48 3 (.int .i64 0) 8 rfl Tryd.underlying48 infoInt' rfl (by decide) (by omega) v fl (x - 1) [.int .i64 (x - 1)] (fun k => w.heap.size ≤ k) (fun _ => False) rfl rfl rfl (fun _ hk => hk.elim) hfrA.out hvA.out hbA.out hsA.out hlA.out ?_; intro v2 w2 hv2 hb2 hg2 _hat2; have hn2 := Lib.hid (FRel.step hlg hF.out h1.out m1.out (by rw [hx.out, hfk.out]; exact hv2) hb2 hg2); clear hv2 hb2 hg2 _hat2 tokA))
      go_roundw
      case rel => exact ⟨k + 1, _, by omega, by go_num, rfl, hn2⟩
      case measure => simp [intOf]; omega
    · obtain rfl : k = 3 := by omega
      clear hk hk3 hlen
      obtain ⟨⟨Ak, ck, hrk⟩, hv, hm⟩ := hF.out
      have ho1 := Lib.hid (ho.out.keep hm.k)
      have hoc0 : wr.cell? ⟨h, 0, none⟩ = some (.slice AP nP cP) := (blk_cell ho1.out.blk 0).trans rfl
      replace hrk := Lib.hid hrk
      replace hm := Lib.hid hm
      replace hv := Lib.hid hv
      go_wp2_with fail
      refine start_ (n := 14) (S := fun w' => w'.cell? ⟨h, 0, none⟩ = some (.slice AP nP cP)) (ds := []) #[false, false, false, false, false, false, false, false, false, false, false, false, false, false] (by kernel_rfl) rfl rfl (pw_cell_below (below_drew (Below.refl _ _)) hoc0) (fun hHeld => ?_)
      refine pure_ (i := 0) (N := some 22) (v := ?_) (a' := ?_) #[true, false, false, false, false, false, false, false, false, false, false, false, false, false] rfl rfl (by kernel_rfl) (fun _ _ _ h => h) (Or.inl ⟨by rfl, ?_⟩) ?_ ?_
      rotate_left
      · intro w'
        go_simp
        with_reducible rfl
      rotate_left
      · simp only [Act.put, List.setIfInBounds_toArray, List.set_cons_zero, List.set_cons_succ, i64_w, i32_w]
        rfl
      refine pure_ (i := 3) (N := some 25) (v := ?_) (a' := ?_) #[true, false, false, true, false, false, false, false, false, false, false, false, false, false] rfl rfl (by kernel_rfl) (fun _ _ _ h => h) (Or.inl ⟨by rfl, ?_⟩) ?_ ?_
      rotate_left
      · intro w'
        go_simp
        with_reducible rfl
      rotate_left
      · simp only [Act.put, List.setIfInBounds_toArray, List.set_cons_zero, List.set_cons_succ, i64_w, i32_w]
        rfl
      refine pure_ (i := 4) (N := some 26) (v := ?_) (a' := ?_) #[true, false, false, true, true, false, false, false, false, false, false, false, false, false] rfl rfl (by kernel_rfl) (fun _ _ _ h => h) (Or.inl ⟨by rfl, ?_⟩) ?_ ?_
      rotate_left
      · intro w'
        go_simp
        with_reducible rfl
      rotate_left
      · simp only [Act.put, List.setIfInBounds_toArray, List.set_cons_zero, List.set_cons_succ, i64_w, i32_w]
        rfl
      refine pure_ (i := 5) (N := some 27) (v := ?_) (a' := ?_) #[true, false, false, true, true, true, false, false, false, false, false, false, false, false] rfl rfl (by kernel_rfl) (fun _ _ _ h => h) (Or.inl ⟨by rfl, ?_⟩) ?_ ?_
      rotate_left
      · intro w'
        go_simp
        with_reducible rfl
      rotate_left
      · simp only [Act.put, List.setIfInBounds_toArray, List.set_cons_zero, List.set_cons_succ, i64_w, i32_w]
        rfl
      refine take_ (i := 6) (N := some 28) (v := ?_) (a' := ?_) #[true, false, false, true, true, true, true, false, false, false, false, false, false, false] rfl rfl (by kernel_rfl) (fun _ _ _ h => h) (Or.inl ⟨by rfl, ?_⟩) hHeld ?_ ?_
      rotate_left
      · intro w' s0
        go_simp
        with_reducible rfl
      rotate_left
      · simp only [Act.put, List.setIfInBounds_toArray, List.set_cons_zero, List.set_cons_succ, i64_w, i32_w]
        rfl
      refine pure_ (i := 7) (N := some 29) (v := ?_) (a' := ?_) #[true, false, false, true, true, true, true, true, false, false, false, false, false, false] rfl rfl (by kernel_rfl) (fun _ _ _ h => h) (Or.inl ⟨by rfl, ?_⟩) ?_ ?_
      rotate_left
      · intro w'
        go_simp
        with_reducible rfl
      rotate_left
      · simp only [Act.put, List.setIfInBounds_toArray, List.set_cons_zero, List.set_cons_succ, i64_w, i32_w]
        rfl
      refine one_ (i := 1) (N := some 23) #[true, true, false, true, true, true, true, true, false, false, false, false, false, false] rfl rfl (by kernel_rfl) (by decide) (fun K hK => ?_)
      refine goes_ Tryd.func34 (by kernel_rfl) rfl #[.pointer (some ⟨g, 0, none⟩)] (by rfl) rfl rfl (by simp only [List.map_toArray, List.map_cons, List.map_nil]; rfl) ?_
      with_reducible refine (CP.out _ _ _ (hrk.out.far (below_drew (Below.refl _ _)))).mono ?_
      rintro e w3 ⟨rfl, hb3⟩
      refine ⟨_, rfl, ?_⟩
      have hb3' := Lib.hid hb3
      refine hK.out _ _ (pw_cell_below hb3 hHeld) (fun hHeld => ?_)
      clear hK K
      refine norm_ (a' := ?_) ?_ ?_
      rotate_left
      · show Act.put _ (some 23) _ = _
        simp only [Act.put, List.setIfInBounds_toArray, List.set_cons_zero, List.set_cons_succ, i64_w, i32_w]
        rfl
      refine pure_ (i := 2) (N := some 24) (v := ?_) (a' := ?_) #[true, true, true, true, true, true, true, true, false, false, false, false, false, false] rfl rfl (by kernel_rfl) (fun _ _ _ h => h) (Or.inl ⟨by rfl, ?_⟩) ?_ ?_
      rotate_left
      · intro w'
        go_simp
        with_reducible rfl
      rotate_left
      · simp only [Act.put, List.setIfInBounds_toArray, List.set_cons_zero, List.set_cons_succ, i64_w, i32_w]
        rfl
      refine one_ (i := 8) (N := some 30) #[true, true, true, true, true, true, true, true, true, false, false, false, false, false] rfl rfl (by kernel_rfl) (by decide) (fun K hK => ?_)
      refine goes_ Tryd.func35 (by kernel_rfl) rfl #[.string q.f1, .int .i64 nP] (by rfl) rfl rfl (by simp only [List.map_toArray, List.map_cons, List.map_nil]; rfl) ?_
      with_reducible refine (CT.out _).mono ?_
      rintro e w4 ⟨rfl, hb4⟩
      refine ⟨_, rfl, ?_⟩
      have hb4' := Lib.hid hb4
      refine hK.out _ _ (pw_cell_below hb4 hHeld) (fun hHeld => ?_)
      clear hK K
      refine norm_ (a' := ?_) ?_ ?_
      rotate_left
      · show Act.put _ (some 30) _ = _
        simp only [Act.put, List.setIfInBounds_toArray, List.set_cons_zero, List.set_cons_succ, i64_w, i32_w]
        rfl
      refine pure_ (i := 9) (N := some 21) (v := ?_) (a' := ?_) #[true, true, true, true, true, true, true, true, true, true, false, false, false, false] rfl rfl (by kernel_rfl) (fun _ _ _ h => h) (Or.inl ⟨by rfl, ?_⟩) ?_ ?_
      rotate_left
      · intro w'
        go_simp
        with_reducible rfl
      rotate_left
      · simp only [Act.put, List.setIfInBounds_toArray, List.set_cons_zero, List.set_cons_succ, i64_w, i32_w]
        rfl
      refine pure_ (i := 10) (N := some 31) (v := ?_) (a' := ?_) #[true, true, true, true, true, true, true, true, true, true, true, false, false, false] rfl rfl (by kernel_rfl) (fun _ _ _ h => h) (Or.inl ⟨by rfl, ?_⟩) ?_ ?_
      rotate_left
      · intro w'
        go_simp
        with_reducible rfl
      rotate_left
      · simp only [Act.put, List.setIfInBounds_toArray, List.set_cons_zero, List.set_cons_succ, i64_w, i32_w]
        rfl
      refine pure_ (i := 11) (N := some 32) (v := ?_) (a' := ?_) #[true, true, true, true, true, true, true, true, true, true, true, true, false, false] rfl rfl (by kernel_rfl) (fun _ _ _ h => h) (Or.inl ⟨by rfl, ?_⟩) ?_ ?_
      rotate_left
      · intro w'
        go_simp
        with_reducible rfl
      rotate_left
      · simp only [Act.put, List.setIfInBounds_toArray, List.set_cons_zero, List.set_cons_succ, i64_w, i32_w]
        rfl
      refine pure_ (i := 12) (N := some 5) (v := ?_) (a' := ?_) #[true, true, true, true, true, true, true, true, true, true, true, true, true, false] rfl rfl (by kernel_rfl) (fun _ _ _ h => h) (Or.inl ⟨by rfl, ?_⟩) ?_ ?_
      rotate_left
      · intro w'
        go_simp
        with_reducible rfl
      rotate_left
      · simp only [Act.put, List.setIfInBounds_toArray, List.set_cons_zero, List.set_cons_succ, i64_w, i32_w]
        rfl
      refine pure_ (i := 13) (N := some 6) (v := ?_) (a' := ?_) #[true, true, true, true, true, true, true, true, true, true, true, true, true, true] rfl rfl (by kernel_rfl) (fun _ _ _ h => h) (Or.inl ⟨by rfl, ?_⟩) ?_ ?_
      rotate_left
      · intro w'
        go_simp
        with_reducible rfl
      rotate_left
      · simp only [Act.put, List.setIfInBounds_toArray, List.set_cons_zero, List.set_cons_succ, i64_w, i32_w]
        rfl
      refine done_ (by kernel_rfl) ?_
      have hb := Lib.hid (below_step (below_step (below_drew (Below.refl _ _)) hb3'.out) hb4'.out)
      clear hb3' hb4' hHeld hoc0
      have hF4 := Lib.hid (show FRel g w end_ nP r 3 _ w4 from ⟨⟨_, _, hrk.out.far hb.out⟩, Kd.R_below hv.out hb.out, hm.out.of_below hlg hb.out⟩)
      clear hF hb hrk hv hm ho1
      have hF := hF4
      clear hF4
      obtain ⟨⟨Ak, ck, hrk⟩, hv, hm⟩ := hF.out
      have ho1 := Lib.hid (ho.out.keep hm.k)
      have hoc0 : w4.cell? ⟨h, 0, none⟩ = some (.slice AP nP cP) := (blk_cell ho1.out.blk 0).trans rfl
      have hne' := World.new_ne w4 _ hoc0
      replace hrk := Lib.hid hrk
      replace hm := Lib.hid hm
      have tokN : True := trivial
      have tokA : True := trivial
      obtain ⟨x, hx⟩ : ∃ x, ((fk end_ nP r 3).1.number end_ 1 nP).1 = x := ⟨_, rfl⟩
      obtain ⟨fl, hfk⟩ : ∃ fl, (fk end_ nP r 3).2 = fl := ⟨_, rfl⟩
      rw [hfk] at hv
      have hfl : fl.length = 3 := by rw [← hfk]; exact fk_len _ _ _ _
      have hr1 := number_range (fk end_ nP r 3).1 end_ 1 nP (by omega)
      rw [hx] at hr1
      have hx1 : 1 ≤ x := hr1.1
      have hx2 : x ≤ 1048577 := by have := hr1.2; omega
      have CN := rnumber_calls hrk.out 1 nP (by decide) (by decide) hnn hnP1
      rw [hx] at CN
      replace CN := Lib.hid CN
      clear hr1
      replace hx := Lib.hid hx
      replace hfk := Lib.hid hfk
      replace hfl := Lib.hid hfl
      replace hv := Lib.hid hv
      go_wp2_with (first
        | (go_at_call 33; have _t := tokN; refine CN.out.mono ?_; rintro e w1 ⟨rfl, ⟨A1, c1, h1⟩, hb1, hk1⟩; have m1 := Lib.hid (Mv.mk hb1 hk1); replace h1 := Lib.hid h1; have hvA := Lib.hid (Kd.R_keep hv.out hk1 (fun k hk => Nat.ne_of_gt (Nat.lt_of_lt_of_le hlg hk))); have hfrA := Lib.hid (show ∀ k, w1.heap.size ≤ k → w.heap.size ≤ k from fun k hk => Nat.le_trans (Nat.le_trans hm.out.k.1 hk1.1) hk); have hbA := Lib.hid (hm.out.b.trans hb1); have hsA := Lib.hid (Nat.le_of_lt (blk_lt h1.out.blk)); have hlA := Lib.hid (show (fl.length + 1) * 8 ≤ 140737488355328 by rw [hfl.out]; omega); clear hb1 hk1 tokN)
        | (at_builtin; have _t := tokA; refine Kd.R_append (Kd.int .i64) (w0 := w) g rfl (.tmp 35) (.tmp 44) 48 3 (.int .i64 0) 8 rfl Tryd.underlying48 infoInt' rfl (by decide) (by omega) v fl (x - 1) [.int .i64 (x - 1)] (fun k => w.heap.size ≤ k) (fun _ => False) rfl rfl rfl (fun _ hk => hk.elim) hfrA.out hvA.out hbA.out hsA.out hlA.out ?_; intro v2 w2 hv2 hb2 hg2 _hat2; have hn2 := Lib.hid (FRel.step hlg hF.out h1.out m1.out (by rw [hx.out, hfk.out]; exact hv2) hb2 hg2); clear hv2 hb2 hg2 _hat2 tokA hF hvA hfrA hbA hsA hlA h1 m1 hoc0 hv hm hrk ho1; obtain ⟨⟨A8, c8, hr8⟩, hv8, hm8⟩ := hn2.out; obtain ⟨Af, cf, hvf⟩ := Kd.R_slice hv8; rw [fk_len] at hvf; subst hvf; have ho8 := Lib.hid (ho.out.keep hm8.k); have hoc2 : w2.cell? ⟨h, 2, none⟩ = some vF := (blk_cell ho8.out.blk 2).trans rfl; have hne8 := World.new_ne w2 _ hoc2; have hpF := Lib.hid (show (Kd.slice 3 (Kd.int .i64)).M w2 base (fun k => w.heap.size ≤ k) (fk end_ nP r 4).2 [(.slice Af 4 cf)] from ⟨_, rfl, Kd.R_raise (b := g) (b' := base) (fun _ _ _ _ h => h) hv8 (fun k hk => Nat.le_trans hbs (hv8.1 k hk))⟩); have hfr8 := Lib.hid (fresh_F ho8.out); have hok8 := Lib.hid (show ∀ k, w.heap.size ≤ k → ((k ≠ g ∧ k ≠ h) ∧ some k ≠ (Value.slice AP nP cP).ownBlock) ∧ some k ≠ vF.ownBlock from okp_F ho.out); have hbs8 := Lib.hid (Nat.le_trans hbs hm8.k.1); replace hr8 := Lib.hid hr8; replace hm8 := Lib.hid hm8; clear hv8)
        | (at_builtin; have _t := tokB; refine Kd.R_append (Kd.slice 3 (Kd.int .i64)) (w0 := w2) base rfl (.tmp 50) (.tmp 52) 23 48 (.slice none 0 0) 24 rfl Tryd.underlying23 infoSI rfl (by decide) (by omega) vF o.F (fk end_ nP r 4).2 [(.slice Af 4 cf)] (fun k => (k ≠ g ∧ k ≠ h) ∧ some k ≠ (Value.slice AP nP cP).ownBlock) (fun k => w.heap.size ≤ k) rfl rfl hpF.out hok8.out hfr8.out ho8.out.rf (Below.refl _ _) hbs8.out (by omega) ?_; intro v9 w9 hv9 hb9 hg9 hat9; obtain ⟨A9, c9, h9⟩ := Kd.R_slice hv9; rw [List.length_append, List.length_singleton] at h9; subst h9; have hoF := ho8.out.putF hv9 hg9 hat9; have hR9 := hr8.out.above (fun k hk => hg9.block k (Nat.lt_of_le_of_lt hk (blk_lt hr8.out.blk)) (fun e => by have := Kd.R_base ho8.out.rf k e.symm; omega)); have hb9h : w9.heap[h]? = some (.cells #[.slice AP nP cP, .int .i64 o.W, vF] 25 (0, 0)) := (hg9.block h (blk_lt ho8.out.blk) (fun e => (ho8.out.rf.1 h e.symm).1.2 rfl)).trans ho8.out.blk; have hz2 : w9.frozen? ⟨h, 2, none⟩ = false := blk_frozen hb9h 2; have hy2 : w9.cell? ⟨h, 2, none⟩ = some vF := (blk_cell hb9h 2).trans rfl; have hlh := blk_lt hb9h; have m9 := Lib.hid (below_le' hb9 (Nat.le_of_lt hgb)); replace hoF := Lib.hid hoF; replace hR9 := Lib.hid hR9; clear hv9 hb9 hg9 hat9 hb9h hoc2 tokB))
      refine bodyPost_end (results_none rfl _ _ _) rfl ⟨rfl, ⟨_, _, hR9.out.above (fun k hk => Below.heap_setCell _ ⟨h, 2, none⟩ _ k (by have := ho.out.gh; show k ≠ h; omega))⟩, ⟨_, _, hoF.out⟩, (hm8.out.b.trans m9.out).setCell (p := ⟨h, 2, none⟩) (Nat.le_of_lt ho.out.gh) _⟩
end Go.Proofs.YtbmgajddhfjchaaDoor.Obj
