/- Plain facts on the words of a text (tok), for the walk of the words' iterator. The words' iterator (token.Words and its closure), and token.All: all words of a text. token.Words hands back its iterator; token.All collects all words. object.Read: the mesh of a text. -/
import Derived.Test.YtbmgajddhfjchaaDoorCtG1
import Derived.RangeFuncNested
import Derived.RangeFuncBound
import Derived.RangeFuncCalls
import Derived.RangeFuncLeaves
import Derived.RangeFuncBox
import Derived.Shelf.Abstract
import Derived.WalkKit
import Derived.OwnWalkIn
import Derived.TacticsInMore
import Derived.LoopNIn
import Derived.LoopIn
import Derived.Maps.AppendAt
import Derived.Lib.Hide
import Derived.Test.YtbmgajddhfjchaaDoorCtG3
import Derived.Test.YtbmgajddhfjchaaDoorCtG2
import Derived.Deep.LoopGhost
import Derived.Test.YtbmgajddhfjchaaDoorCtObjBx3
set_option linter.unusedVariables false
set_option linter.unusedSimpArgs false
namespace Go.Proofs.YtbmgajddhfjchaaDoor.Obj
open Go.RowKit Go.Proofs.YtbmgajddhfjchaaDoorW.PrintWords Go.Proofs.YtbmgajddhfjchaaDoorW.PrintLast Go.Proofs.YtbmgajddhfjchaaDoorW.PrintMore

theorem drop_rd (l : List Int) (k : Nat) (h : k < l.length) : l.drop k = rd l (k : Int) :: l.drop (k + 1) := by
  rw [List.drop_eq_getElem_cons h]
  simp [rd, h]
theorem tok_blank (l : List Int) (k : Nat) (h : k < l.length) (hb : isBlank (rd l (k : Int)) = true) : tok (l.drop k) (k : Int) .out = tok (l.drop (k + 1)) ((k + 1 : Nat) : Int) .out := by
  rw [drop_rd l k h, tok, if_pos hb]; rfl
/-- In a comment that began at k. -/
def InCom (l : List Int) (k m : Nat) : Prop := m = k ∨ (k < m ∧ tok (l.drop k) (k : Int) .out = tok (l.drop m) (m : Int) .com)
theorem InCom.step {l : List Int} {k m : Nat} (h : InCom l k m) (hm : m < l.length) (hk : k < l.length) (hc : rd l (k : Int) = 35) (hne : rd l (m : Int) ≠ 10) : InCom l k (m + 1) := by
  refine .inr ⟨by rcases h with h | h <;> omega, ?_⟩
  rcases h with rfl | ⟨_, h⟩
  · rw [drop_rd l m hm, tok, if_neg (by rw [hc]; decide), if_pos hc]; rfl
  · rw [h, drop_rd l m hm, tok, if_neg hne]; rfl
theorem InCom.done {l : List Int} {k m : Nat} (h : InCom l k m) (hmn : m ≤ l.length) (hk : k < l.length) (hc : rd l (k : Int) = 35) (he : m < l.length → rd l (m : Int) = 10) : k < m ∧ tok (l.drop k) (k : Int) .out = tok (l.drop m) (m : Int) .out := by
  rcases h with rfl | ⟨hkm, h⟩
  · have := he hk; omega
  · refine ⟨hkm, ?_⟩
    rw [h]
    by_cases hlt : m < l.length
    · rw [drop_rd l m hlt, tok, if_pos (he hlt), tok, if_pos (by rw [he hlt]; decide)]
    · rw [List.drop_of_length_le (by omega)]; rfl
/-- In a word that began at k. -/
def InWord (l : List Int) (k m : Nat) : Prop := m = k ∨ (k < m ∧ tok (l.drop k) (k : Int) .out = tok (l.drop m) (m : Int) (.word k ((l.take m).drop k)))
theorem take_drop_snoc (l : List Int) (k m : Nat) (hkm : k ≤ m) (hm : m < l.length) : (l.take (m + 1)).drop k = (l.take m).drop k ++ [rd l (m : Int)] := by
  rw [List.take_succ_eq_append_getElem hm, List.drop_append_of_le_length (by rw [List.length_take]; omega)]
  simp [rd, hm]
theorem InWord.step {l : List Int} {k m : Nat} (h : InWord l k m) (hm : m < l.length) (hk : k < l.length) (hb : isBlank (rd l (k : Int)) = false) (hc : rd l (k : Int) ≠ 35) (hne : isBlank (rd l (m : Int)) = false) : InWord l k (m + 1) := by
  refine .inr ⟨by rcases h with h | h <;> omega, ?_⟩
  rcases h with rfl | ⟨hkm, h⟩
  · rw [drop_rd l m hm, tok, if_neg (by rw [hb]; decide), if_neg hc, take_drop_snoc l m m (Nat.le_refl m) hm]
    rw [List.drop_of_length_le (l := l.take m) (by rw [List.length_take]; omega)]; rfl
  · rw [h, drop_rd l m hm, tok, if_neg (by rw [hne]; decide), take_drop_snoc l k m (by omega) hm]; rfl
theorem InWord.done {l : List Int} {k m : Nat} (h : InWord l k m) (hmn : m ≤ l.length) (hk : k < l.length) (hb : isBlank (rd l (k : Int)) = false) (he : m < l.length → isBlank (rd l (m : Int)) = true) : k < m ∧ tok (l.drop k) (k : Int) .out = ((k : Int), (l.take m).drop k) :: tok (l.drop m) (m : Int) .out := by
  rcases h with rfl | ⟨hkm, h⟩
  · have := he hk; rw [hb] at this; cases this
  · refine ⟨hkm, ?_⟩
    rw [h]
    by_cases hlt : m < l.length
    · rw [drop_rd l m hlt, tok, if_pos (he hlt), tok, if_pos (he hlt)]
    · rw [List.drop_of_length_le (by omega)]; rfl
/-- What has come, and what is still to come from k on. -/
def Come (l : List Int) (pre : List Tok) (k : Nat) : Prop := toks l = pre ++ (tok (l.drop k) (k : Int) .out).map toTok
theorem Come.start (l : List Int) : Come l [] 0 := rfl
theorem Come.word {l : List Int} {pre : List Tok} {k m : Nat} (h : Come l pre k) (hd : tok (l.drop k) (k : Int) .out = ((k : Int), (l.take m).drop k) :: tok (l.drop m) (m : Int) .out) : Come l (pre ++ [⟨(k : Int), strOfNums ((l.take m).drop k)⟩]) m := by
  unfold Come at *
  rw [h, hd]
  simp [toTok]
theorem Come.lt {l : List Int} {pre : List Tok} {k m : Nat} (h : Come l pre k) (hd : tok (l.drop k) (k : Int) .out = ((k : Int), (l.take m).drop k) :: tok (l.drop m) (m : Int) .out) : pre.length < (toks l).length := by
  unfold Come at h
  rw [h, hd]; simp
theorem Come.all {l : List Int} {pre : List Tok} {k : Nat} (h : Come l pre k) (hk : l.length ≤ k) : pre = toks l := by
  unfold Come at h
  rw [h, List.drop_of_length_le hk]
  simp [tok]
theorem Come.skip {l : List Int} {pre : List Tok} {k m : Nat} (h : Come l pre k) (he : tok (l.drop k) (k : Int) .out = tok (l.drop m) (m : Int) .out) : Come l pre m := by
  unfold Come at *
  rw [h, he]
theorem tok_length (l : List Int) (p : Int) (s : TM) : (tok l p s).length ≤ l.length + (match s with | .word _ _ => 1 | _ => 0) := by
  induction l generalizing p s with
  | nil => cases s <;> simp [tok]
  | cons c r ih =>
    cases s with
    | out =>
      simp only [tok]
      split
      · have := ih (p + 1) .out; simp at this ⊢; omega
      · split
        · have := ih (p + 1) .com; simp at this ⊢; omega
        · have := ih (p + 1) (.word p [c]); simp at this ⊢; omega
    | com =>
      simp only [tok]
      by_cases hc : c = 10
      · rw [if_pos hc]; have := ih (p + 1) .out; simp at this ⊢; omega
      · rw [if_neg hc]; have := ih (p + 1) .com; simp at this ⊢; omega
    | word f a =>
      simp only [tok]
      split
      · have := ih (p + 1) .out; simp at this ⊢; omega
      · have := ih (p + 1) (.word f (a ++ [c])); simp at this ⊢; omega
theorem toks_length (l : List Int) : (toks l).length ≤ l.length := by
  unfold toks; rw [List.length_map]; exact tok_length l 0 .out
end Go.Proofs.YtbmgajddhfjchaaDoor.Obj
namespace Go.Proofs.YtbmgajddhfjchaaDoor.Obj
open Go.RowKit Go.Shelf Go.Proofs.YtbmgajddhfjchaaDoorW.PrintWords Go.Proofs.YtbmgajddhfjchaaDoorW.PrintLast Go.Proofs.YtbmgajddhfjchaaDoorW.PrintMore
attribute [local go_sem] Oper.semAt_some

theorem blank_f (c : Int) : token_blank.f c = some (isBlank c) := by
  unfold token_blank.f isBlank
  by_cases h1 : c = 32
  · simp [h1]
  · by_cases h2 : c = 9
    · simp [h2]
    · by_cases h3 : c = 13
      · simp [h3]
      · simp [h1, h2, h3]
theorem abides_drew {J : List Tok → World → Prop} {B : Nat} (h : AbidesFrom B J) {pre : List Tok} {w w' : World} (hj : J pre w) (hd : Drawn0 w w') : J pre w' := by
  obtain ⟨q, hq⟩ := hd
  exact h pre w w' none hj (by subst hq; exact ⟨rfl, rfl, rfl, Nat.le_refl _, fun _ _ _ => rfl⟩) (fun r e => by cases e)
theorem below_drawn {B : Nat} {w W W' : World} (h : Below B w W) (hd : Drawn0 W W') : Below B w W' := by
  obtain ⟨q, hq⟩ := hd
  subst hq
  exact pw_below_drewN h q
def KpB (n₀ Bs : Nat) (W W' : World) : Prop := Below n₀ W W' ∧ W'.heap[Bs]? = W.heap[Bs]?
theorem KpB.refl (n₀ Bs : Nat) (W : World) : KpB n₀ Bs W W := ⟨Below.refl _ _, rfl⟩
theorem KpB.trans {n₀ Bs : Nat} {A B C : World} (h : KpB n₀ Bs A B) (k : KpB n₀ Bs B C) : KpB n₀ Bs A C := ⟨h.1.trans k.1, k.2.trans h.2⟩
theorem KpB.drawn {n₀ Bs : Nat} {A B C : World} (h : KpB n₀ Bs A B) (hd : Drawn0 B C) : KpB n₀ Bs A C := ⟨below_drawn h.1 hd, by obtain ⟨q, hq⟩ := hd; subst hq; exact h.2⟩
theorem KpB.cell {n₀ Bs : Nat} {A B : World} (h : KpB n₀ Bs A B) : B.cell? ⟨Bs, 0, none⟩ = A.cell? ⟨Bs, 0, none⟩ := by simp [World.cell?, h.2]
theorem blank_in (c : Int) (n : Nat) (w : World) (b : Bool) (h : isBlank c = b) : CallsIn Fence.wide n Tryd.prog 42 #[.int .u8 c] w fun e w' => e = .returned (.bool b) ∧ Drawn0 w w' := by
  subst h
  exact callsIn_wide.2 (token_blank.calls c (isBlank c) w (blank_f c))
theorem infoU8 : (Tryd.prog.info? 5).map (fun i => (i.zero, i.size, i.bytes)) = some (some (.int .u8 0), 1, 1) := by kernel_rfl
set_option maxRecDepth 100000 in
set_option maxHeartbeats 4000000 in
theorem words1_in (n : Nat) (hn : 1 ≤ n) (lp Bs n₀ : Nat) (ad : Addr) (c : Nat) (l : List Int) (hlen : l.length ≤ 1048576) (hc : l.length ≤ c) (w : World) (hn₀ : w.heap.size ≤ n₀) (hC : Kd.C (Kd.int .u8) w (some ad) l.length l) (W : World) (J Jx : List Tok → World → Prop) (hJA : AbidesFrom W.heap.size J)
    (hY : ∀ pre x W, J pre W → pre.length < (toks l).length → YieldAt Fence.wide (n - 1) Tryd.prog lp #[.int .i64 x.f0, .string x.f1] W fun e W' =>
      (e = .returned (.bool true) ∧ J (pre ++ [x]) W' ∧ KpB n₀ Bs W W') ∨ (e = .returned (.bool false) ∧ Jx (pre ++ [x]) W'))
    (hW : Below w.heap.size w W) (hBs : W.cell? ⟨Bs, 0, none⟩ = some (.slice (some ad) l.length c)) (h0 : J [] W) :
    CallsIn Fence.wide n Tryd.prog 41 #[.func (.yield lp) #[] #[], .pointer (some ⟨Bs, 0, none⟩)] W fun e W' => (∃ v, e = .returned v) ∧
      ((∃ ys, ys = toks l ∧ J ys W') ∨ (∃ pre, pre <+: toks l ∧ Jx pre W')) := by
  refine callsIn_of_wp Tryd.func41 rfl trivial ?_ rfl
  simp only [Tryd.ntmps41, List.size_toArray, List.length_cons, List.length_nil, Nat.reduceAdd, Nat.reduceSub, Array.replicate_succ, Array.replicate_zero, List.push_toArray, List.append_toArray, List.nil_append, List.cons_append]
  have hf42 : Fence.wide.fn 42 := trivial
  have hld : decide ((1048576 : Int) < (l.length : Int)) = false := decide_eq_false (by omega)
  gi_wp2
  gi_loopw [3] (fun i wr => ∃ (k : Nat) (pre : List Tok), k ≤ l.length ∧ i = .int .i64 k ∧ Hid (J pre wr) ∧ Hid (Come l pre k) ∧ Hid (KpB n₀ Bs W wr)) (fun i _ => l.length - (intOf i).toNat)
  case atStart => exact ⟨0, [], by omega, rfl, Lib.hid h0, Lib.hid (Come.start l), Lib.hid (KpB.refl _ _ _)⟩
  case round =>
    obtain ⟨k, pre, hk, rfl, hJ, hcm, hB⟩ := hrel
    have hbx : wr.cell? ⟨Bs, 0, none⟩ = some (.slice (some ad) l.length c) := hB.out.cell.trans hBs
    by_cases hlt : k < l.length
    · have hcs : ∀ (W1 : World), KpB n₀ Bs W W1 → ∀ m : Nat, m < l.length → W1.cell? (ad.add m) = some (.int .u8 (rd l (m : Int))) := by
        intro W1 hb1 m hm
        obtain ⟨ad', hA, hcell⟩ := Kd.at_int (Kd.C_below hC (hW.trans (hb1.1.mono hn₀))) (m : Int) (by omega) (by omega)
        cases hA
        exact hcell
      have hbx1 : ∀ (W1 : World), KpB n₀ Bs W W1 → W1.cell? ⟨Bs, 0, none⟩ = some (.slice (some ad) l.length c) := fun W1 hb1 => hb1.cell.trans hBs
      replace hcs := Lib.hid hcs
      replace hbx1 := Lib.hid hbx1
      have hk0 := hcs.out wr hB.out k hlt
      have hkd : decide ((k : Int) < (l.length : Int)) = true := decide_eq_true (by omega)
      obtain ⟨ck, hck⟩ : ∃ ck, rd l (k : Int) = ck := ⟨_, rfl⟩
      rw [hck] at hk0
      replace hck := Lib.hid hck
      cases hb : isBlank ck with
      | true =>
        have hbl := Lib.hid (fun n w => blank_in ck n w true hb)
        replace hb := Lib.hid hb
        gi_wp2_with (gi_at_call 42; refine (hbl.out _ _).mono ?_; rintro e w1 ⟨rfl, hd1⟩; replace hd1 := Lib.hid hd1)
        go_roundw
        case rel => exact ⟨k + 1, pre, by omega, by go_num, Lib.hid (abides_drew hJA hJ.out hd1.out), Lib.hid (hcm.out.skip (tok_blank l k hlt (by rw [hck.out]; exact hb.out))), Lib.hid (KpB.drawn hB.out hd1.out)⟩
        case measure => simp [intOf]; omega
      | false =>
        have hbl := Lib.hid (fun n w => blank_in ck n w false hb)
        replace hb := Lib.hid hb
        by_cases h35 : ck = 35
        · have h35d : (ck == 35) = true := beq_iff_eq.2 h35
          have h35' := Lib.hid (hck.out.trans h35)
          clear h35
          gi_wp2_with (gi_at_call 42; refine (hbl.out _ _).mono ?_; rintro e w1 ⟨rfl, hd1⟩; have hJ1 := Lib.hid (abides_drew hJA hJ.out hd1); have hB1 := Lib.hid (KpB.drawn hB.out hd1); have hk1 := hcs.out w1 hB1.out k hlt; have hbx' := hbx1.out w1 hB1.out; rw [hck.out] at hk1; clear hd1)
          clear hk1 hbx' hbx hk0
          rename World => wo
          gi_loopw [3] (fun i wr => ∃ m : Nat, k ≤ m ∧ m ≤ l.length ∧ i = .int .i64 m ∧ Hid (InCom l k m) ∧ Hid (J pre wr) ∧ Hid (KpB n₀ Bs W wr)) (fun i _ => l.length - (intOf i).toNat)
          case atStart => exact ⟨k, Nat.le_refl k, by omega, rfl, Lib.hid (.inl rfl), hJ1, hB1⟩
          case round =>
            obtain ⟨m, hkm, hmn, rfl, hin, hJm, hBm⟩ := hrel
            have hbxm := hbx1.out wr hBm.out
            by_cases hml : m < l.length
            · have hmd : decide ((m : Int) < (l.length : Int)) = true := decide_eq_true (by omega)
              have hcm' := hcs.out wr hBm.out m hml
              obtain ⟨cm, hcmq⟩ : ∃ cm, rd l (m : Int) = cm := ⟨_, rfl⟩
              rw [hcmq] at hcm'
              replace hcmq := Lib.hid hcmq
              by_cases h10 : cm = 10
              · have h10d : (cm == 10) = true := beq_iff_eq.2 h10
                have h10e : (cm != 10) = false := bne_eq_false_iff_eq.2 h10
                have hdn := Lib.hid (hin.out.done hmn hlt h35'.out (fun _ => hcmq.out.trans h10))
                clear h10
                gi_wp2
                go_roundw
                case rel => exact ⟨m, pre, by omega, rfl, hJm, Lib.hid (hcm.out.skip hdn.out.2), hBm⟩
                case measure => have := hdn.out.1; simp [intOf]; omega
              · have h10d : (cm == 10) = false := beq_eq_false_iff_ne.2 h10
                have h10e : (cm != 10) = true := bne_iff_ne.2 h10
                have hst := Lib.hid (hin.out.step hml hlt h35'.out (by rw [hcmq.out]; exact h10))
                clear h10
                gi_wp2
                go_roundw
                case rel => exact ⟨m + 1, by omega, by omega, by go_num, hst, hJm, hBm⟩
                case measure => simp [intOf]; omega
            · obtain rfl : m = l.length := by omega
              have hmd : decide (((l.length : Nat) : Int) < (l.length : Int)) = false := decide_eq_false (by omega)
              have hdn := Lib.hid (hin.out.done hmn hlt h35'.out (fun h => absurd h hml))
              gi_wp2
              go_roundw
              case rel => exact ⟨l.length, pre, by omega, rfl, hJm, Lib.hid (hcm.out.skip hdn.out.2), hBm⟩
              case measure => have := hdn.out.1; simp [intOf]; omega
        · have h35d : (ck == 35) = false := beq_eq_false_iff_ne.2 h35
          have h35' := Lib.hid (show rd l (k : Int) ≠ 35 by rw [hck.out]; exact h35)
          have hb' := Lib.hid (show isBlank (rd l (k : Int)) = false by rw [hck.out]; exact hb.out)
          clear h35
          gi_wp2_with (gi_at_call 42; refine (hbl.out _ _).mono ?_; rintro e w1 ⟨rfl, hd1⟩; have hJ1 := Lib.hid (abides_drew hJA hJ.out hd1); have hB1 := Lib.hid (KpB.drawn hB.out hd1); have hk1 := hcs.out w1 hB1.out k hlt; have hbx' := hbx1.out w1 hB1.out; rw [hck.out] at hk1; clear hd1)
          clear hk1 hbx' hbx hk0
          rename World => wo
          gi_loopw [4] (fun i wr => ∃ m : Nat, k ≤ m ∧ m ≤ l.length ∧ i = .int .i64 m ∧ Hid (InWord l k m) ∧ Hid (J pre wr) ∧ Hid (KpB n₀ Bs W wr)) (fun i _ => l.length - (intOf i).toNat)
          case atStart => exact ⟨k, Nat.le_refl k, by omega, rfl, Lib.hid (.inl rfl), hJ1, hB1⟩
          case round =>
            obtain ⟨m, hkm, hmn, rfl, hin, hJm, hBm⟩ := hrel
            have hbxm := hbx1.out wr hBm.out
            by_cases hml : m < l.length ∧ isBlank (rd l (m : Int)) = false
            · obtain ⟨hml, hnb⟩ := hml
              have hmd : decide ((m : Int) < (l.length : Int)) = true := decide_eq_true (by omega)
              have hcm' := hcs.out wr hBm.out m hml
              have hst := Lib.hid (hin.out.step hml hlt hb'.out h35'.out hnb)
              obtain ⟨cm, hcmq⟩ : ∃ cm, rd l (m : Int) = cm := ⟨_, rfl⟩
              rw [hcmq] at hcm' hnb
              have hblm := Lib.hid (fun n w => blank_in cm n w false hnb)
              clear hnb hcmq
              gi_wp2_with (gi_at_call 42; refine (hblm.out _ _).mono ?_; rintro e w2 ⟨rfl, hd2⟩; replace hd2 := Lib.hid hd2)
              go_roundw
              case rel => exact ⟨m + 1, by omega, by omega, by go_num, hst, Lib.hid (abides_drew hJA hJm.out hd2.out), Lib.hid (KpB.drawn hBm.out hd2.out)⟩
              case measure => simp [intOf]; omega
            · have hdn := Lib.hid (hin.out.done hmn hlt hb'.out (fun h => by cases hx : isBlank (rd l (m : Int)) with | true => rfl | false => exact absurd ⟨h, hx⟩ hml))
              have hlt2 := Lib.hid (hcm.out.lt hdn.out.2)
              obtain ⟨i0, hi, hz0, hz1, hz2⟩ := info_parts infoU8
              obtain ⟨A', hcut, hrdA, _⟩ := print_mid_of (P := Tryd.prog) (Value.int .u8) 0 26 5 .i64 .i64 Tryd.underlying26 hi hz1 (some ad) c l (k : Int) (m : Int) (by omega) (by omega) (by omega) hc
              rw [Int.toNat_natCast, Int.toNat_natCast] at hcut hrdA
              obtain ⟨wd, hwd⟩ : ∃ wd, (l.take m).drop k = wd := ⟨_, rfl⟩
              rw [hwd] at hcut hrdA
              have hcv0 : Hid (∀ W1, KpB n₀ Bs W W1 → (convert 26 9 (.slice A' wd.length (c - k))).run Tryd.prog W1 = .ok (.string (strOfNums wd)) W1) := Lib.hid (fun W1 hb1 => string_of_reads Tryd.underlying26 Tryd.underlying5 Tryd.underlying9 (hrdA W1 (Kd.reads_of_C (enc := Value.int .u8) (d := (0 : Int)) (h1 := fun _ => rfl) (Kd.C_below hC (hW.trans (hb1.1.mono hn₀))))))
              replace hwd := Lib.hid hwd
              clear hi hz0 hz1 hz2 hrdA
              by_cases hmn2 : m < l.length
              · have hmd : decide ((m : Int) < (l.length : Int)) = true := decide_eq_true (by omega)
                have hcm' := hcs.out wr hBm.out m hmn2
                have hbb : isBlank (rd l (m : Int)) = true := by cases hx : isBlank (rd l (m : Int)) with | true => rfl | false => exact absurd ⟨hmn2, hx⟩ hml
                obtain ⟨cm, hcmq⟩ : ∃ cm, rd l (m : Int) = cm := ⟨_, rfl⟩
                rw [hcmq] at hcm' hbb
                have hblm := Lib.hid (fun n w => blank_in cm n w true hbb)
                clear hbb hcmq hml
                gi_wp2_with (gi_at_call 42; refine (hblm.out _ _).mono ?_; rintro e w2 ⟨rfl, hd2⟩; have hJ2 := Lib.hid (abides_drew hJA hJm.out hd2); have hB2 := Lib.hid (KpB.drawn hBm.out hd2); clear hd2; have hbxm2 := hbx1.out w2 hB2.out; have hcv := hcv0.out w2 hB2.out; obtain ⟨fn, tmps, assign, body, hy, hR⟩ := hY pre ⟨(k : Int), strOfNums wd⟩ w2 hJ2.out hlt2.out; dsimp only at hy; replace hR := Lib.hid hR)
                refine hR.out.mono ?_
                rintro e W3 (⟨rfl, hJ3, hk3⟩ | ⟨rfl, hJx3⟩)
                · replace hJ3 := Lib.hid hJ3
                  replace hk3 := Lib.hid hk3
                  clear hR hy
                  gi_wp2
                  go_roundw
                  case rel => exact ⟨m, _, by omega, rfl, hJ3, Lib.hid (by have := hcm.out.word hdn.out.2; rw [hwd.out] at this; exact this), Lib.hid (hB2.out.trans hk3.out)⟩
                  case measure => have := hdn.out.1; simp [intOf]; omega
                · replace hJx3 := Lib.hid hJx3
                  clear hR hy
                  gi_wp2
                  refine bodyPost_ret (results_none rfl _ _ _) rfl ?_
                  exact ⟨⟨_, rfl⟩, .inr ⟨_, by have := hcm.out.word hdn.out.2; rw [hwd.out] at this; exact ⟨_, this.symm⟩, hJx3.out⟩⟩
              · have hmd : decide ((m : Int) < (l.length : Int)) = false := decide_eq_false (by omega)
                clear hml
                have hbxm2 := hbx1.out wr hBm.out
                have hcv := hcv0.out wr hBm.out
                obtain ⟨fn, tmps, assign, body, hy, hR⟩ := hY pre ⟨(k : Int), strOfNums wd⟩ wr hJm.out hlt2.out
                dsimp only at hy
                replace hR := Lib.hid hR
                gi_wp2
                refine hR.out.mono ?_
                rintro e W3 (⟨rfl, hJ3, hk3⟩ | ⟨rfl, hJx3⟩)
                · replace hJ3 := Lib.hid hJ3
                  replace hk3 := Lib.hid hk3
                  clear hR hy
                  gi_wp2
                  go_roundw
                  case rel => exact ⟨m, _, by omega, rfl, hJ3, Lib.hid (by have := hcm.out.word hdn.out.2; rw [hwd.out] at this; exact this), Lib.hid (hBm.out.trans hk3.out)⟩
                  case measure => have := hdn.out.1; simp [intOf]; omega
                · replace hJx3 := Lib.hid hJx3
                  clear hR hy
                  gi_wp2
                  refine bodyPost_ret (results_none rfl _ _ _) rfl ?_
                  exact ⟨⟨_, rfl⟩, .inr ⟨_, by have := hcm.out.word hdn.out.2; rw [hwd.out] at this; exact ⟨_, this.symm⟩, hJx3.out⟩⟩
    · obtain rfl : k = l.length := by omega
      gi_wp2
      go_end0
      exact ⟨⟨_, rfl⟩, .inl ⟨_, hcm.out.all (Nat.le_refl _), hJ.out⟩⟩
end Go.Proofs.YtbmgajddhfjchaaDoor.Obj
namespace Go.Proofs.YtbmgajddhfjchaaDoor.Obj
open Go.RowKit Go.Shelf Go.Proofs.YtbmgajddhfjchaaDoorW.PrintWords Go.Proofs.YtbmgajddhfjchaaDoorW.PrintLast Go.Proofs.YtbmgajddhfjchaaDoorW.PrintMore
attribute [local go_sem] Oper.semAt_some

set_option maxRecDepth 100000 in
set_option maxHeartbeats 4000000 in
theorem words1_nil_in (n : Nat) (lp Bs : Nat) (A : Option Addr) (c : Nat) (J : List Tok → World → Prop) (W : World) (hBs : W.cell? ⟨Bs, 0, none⟩ = some (.slice A 0 c)) (h0 : J [] W) :
    CallsIn Fence.wide n Tryd.prog 41 #[.func (.yield lp) #[] #[], .pointer (some ⟨Bs, 0, none⟩)] W fun e W' => (∃ v, e = .returned v) ∧ J [] W' := by
  refine callsIn_of_wp Tryd.func41 rfl trivial ?_ rfl
  simp only [Tryd.ntmps41, List.size_toArray, List.length_cons, List.length_nil, Nat.reduceAdd, Nat.reduceSub, Array.replicate_succ, Array.replicate_zero, List.push_toArray, List.append_toArray, List.nil_append, List.cons_append]
  gi_wp2
  gi_loopw [3] (fun i wr => i = .int .i64 0 ∧ wr.cell? ⟨Bs, 0, none⟩ = some (.slice A 0 c) ∧ J [] wr) (fun _ _ => 0)
  case atStart => exact ⟨rfl, hBs, h0⟩
  case round =>
    obtain ⟨rfl, hBs', hJs⟩ := hrel
    gi_wp2
    go_end0
    exact ⟨⟨_, rfl⟩, hJs⟩
set_option maxHeartbeats 1000000 in
theorem words_in (n : Nat) (a : Option Addr) (len cap : Nat) (w : World) :
    CallsIn Fence.wide n Tryd.prog 32 #[.slice a len cap] w fun e w' => e = .returned (.func (.func 41) #[] #[.pointer (some ⟨w.heap.size, 0, none⟩)]) ∧ w' = w.alloc (.cells #[.slice a len cap] 26) := by
  refine callsIn_of_wp Tryd.func32 rfl trivial ?_ rfl
  simp only [Tryd.ntmps32, List.size_toArray, List.length_cons, List.length_nil, Nat.reduceAdd, Nat.reduceSub, Array.replicate_succ, Array.replicate_zero, List.push_toArray, List.append_toArray, List.nil_append, List.cons_append]
  gi_wp2
  go_ret
  exact ⟨rfl, rfl⟩
theorem words_stops (n : Nat) (hn : 1 ≤ n) (Bs n₀ : Nat) (A : Option Addr) (c : Nat) (l : List Int) (hlen : l.length ≤ 1048576) (hc : l.length ≤ c) (w0 w : World) (hn₀ : w0.heap.size ≤ n₀) (hC : Kd.C (Kd.int .u8) w0 A l.length l) (hw : Below w0.heap.size w0 w) (hBn : Bs < w.heap.size)
    (hBs : w.cell? ⟨Bs, 0, none⟩ = some (.slice A l.length c)) :
    SeqStopsK Fence.wide n Tryd.prog 41 #[.pointer (some ⟨Bs, 0, none⟩)] (fun x : Tok => #[Value.int .i64 x.f0, .string x.f1]) (KpB n₀ Bs) (fun ys => ys = toks l) (fun pre => pre <+: toks l) (toks l).length w := fun lp J Jx W hW hJ _ hY h0 => by
  have hBs' := (hW.cell (p := ⟨Bs, 0, none⟩) hBn).trans hBs
  have hWw : Below w0.heap.size w0 W := below_step hw hW
  cases A with
  | some ad => exact words1_in n hn lp Bs n₀ ad c l hlen hc w0 hn₀ hC W J Jx hJ hY hWw hBs' h0
  | none =>
    have hl0 : l = [] := by
      cases l with
      | nil => rfl
      | cons x r =>
        obtain ⟨ad, hA, _⟩ := Kd.at_int hC 0 (by omega) (by simp)
        cases hA
    subst hl0
    exact (words1_nil_in n lp Bs none c J W hBs' h0).mono fun e W' ⟨he, hj⟩ => ⟨he, .inl ⟨_, rfl, hj⟩⟩
theorem putObj_other (W : World) (l k : Nat) (o : Obj) (h : k ≠ l) : (W.putObj l o).heap[k]? = W.heap[k]? := by simp [World.putObj, Array.getElem?_set, h.symm, Ne.symm h]
theorem infoTok0 : (Tryd.prog.info? 40).map (fun i => (i.zero, i.size, i.bytes)) = some (some (.agg #[.int .i64 0, .string ⟨#[]⟩]), 2, 24) := by kernel_rfl
def tokCells (l : List Tok) : List Value := l.flatMap fun t => [.int .i64 t.f0, .string t.f1]
theorem tokCells_snoc (l : List Tok) (t : Tok) : tokCells (l ++ [t]) = tokCells l ++ [.int .i64 t.f0, .string t.f1] := by simp [tokCells]
theorem cell_two_new (w : World) (x y : Value) (t : TypeId) : ∀ j u, [x, y][j]? = some u → (w.alloc (.cells #[x, y] t)).cell? ((⟨w.heap.size, 0, none⟩ : Addr).add j) = some u := by
  intro j u hj
  have hb : (w.alloc (.cells #[x, y] t)).heap[w.heap.size]? = some (.cells #[x, y] t (0, 0)) := World.alloc_heap_new w _
  match j, hj with
  | 0, hj => exact (blk_cell hb 0).trans (by simpa using hj)
  | 1, hj => exact (blk_cell hb 1).trans (by simpa using hj)
  | j + 2, hj => simp at hj
theorem reps_cons {α : Type} {R : α → List Value → Prop} {sz : Nat} {x : α} {xs : List α} {cs inner : List Value} (h : R x cs) (hl : cs.length = sz) (hr : Reps R sz xs inner) : Reps R sz (x :: xs) (cs ++ inner) := by
  refine ⟨by rw [List.length_append, hl, hr.1]; simp [Nat.succ_mul]; omega, fun j p hj => ?_⟩
  cases j with
  | zero =>
    obtain rfl : x = p := by simpa using hj
    rw [Nat.zero_mul, List.drop_zero, List.take_append_of_le_length (by omega), List.take_of_length_le (by omega)]
    exact h
  | succ j =>
    have := hr.2 j p (by simpa using hj)
    rw [show (j + 1) * sz = cs.length + j * sz by rw [hl, Nat.succ_mul]; omega, List.drop_append, List.drop_of_length_le (by omega)]
    simpa using this
theorem reps_toks {w : World} {base : Nat} {ok : Nat → Prop} (l : List Tok) : Reps (Kd.M k40 w base ok) 2 l (tokCells l) := by
  induction l with
  | nil => exact ⟨rfl, fun j p h => by simp at h⟩
  | cons t r ih => exact reps_cons (k40_mkM w base ok t) rfl ih
set_option maxRecDepth 100000 in
set_option maxHeartbeats 4000000 in
theorem all_calls (A : Option Addr) (c : Nat) (l : List Int) (w : World) (hlen : l.length ≤ 1048576) (hc : l.length ≤ c) (hC : Kd.C (Kd.int .u8) w A l.length l) :
    Calls Tryd.prog 17 #[.slice A l.length c] w fun e w' => ∃ v, e = .returned (.tuple #[v, .int .i64 0]) ∧ Kd.R k40 40 w' w.heap.size (fun _ => True) v (toks l) ∧ Below w.heap.size w w' := by
  refine (callsIn_wide (n := 6)).1 ?_
  have hf1 : Fence.wide.fn 32 := trivial
  have hf2 : Fence.wide.fn 41 := trivial
  have hld : decide ((1048576 : Int) < (l.length : Int)) = false := decide_eq_false (by omega)
  have htl := toks_length l
  obtain ⟨i0, hi, hz0, hz1, hz2⟩ := info_parts infoTok0
  refine callsIn_of_wp_marks Tryd.func17 rfl trivial ?_ rfl
  simp only [Tryd.ntmps17, List.size_toArray, List.length_cons, List.length_nil, Nat.reduceAdd, Nat.reduceSub, Array.replicate_succ, Array.replicate_zero, List.push_toArray, List.append_toArray, List.nil_append, List.cons_append]
  gi_wp2_with (gi_at_call 32; refine (words_in _ _ _ _ _).mono ?_; rintro e w' ⟨rfl, rfl⟩)
  have bO := Boxed.new w 35 (.slice none 0 0)
  have bN := Boxed.new (w.alloc (.cells #[.slice none 0 0] 35)) 26 (.slice A l.length c)
  rw [World.size_alloc] at bN
  have hB0 : Below w.heap.size w ((w.alloc (.cells #[.slice none 0 0] 35)).alloc (.cells #[.slice A l.length c] 26)) := ((Below.refl _ w).alloc (Nat.le_refl _) _).alloc (by simp) _
  refine wpIn_rangeFunc_ownG rfl (by omega) (gf := 41) (lb := #[.pointer (some ⟨w.heap.size + 1, 0, none⟩)]) rfl trivial (enters_of Tryd.func41 (by kernel_rfl) rfl)
    (words_stops _ (by omega) (w.heap.size + 1) w.heap.size A c l hlen hc w _ (Nat.le_refl _) hC hB0 (by simp) bN.cell) (fun h k => h.trans k) (fun W l o o' hl ho h1 h2 => ⟨belowK_b (w := w) (Nat.le_refl _) W l o o' (by simp at hl; omega) ho h1 h2, putObj_other W l _ o' (by simp at hl; omega)⟩) (Below.refl _ _) (fun _ => rfl)
    (fun pre W => (∃ v, Boxed W w.heap.size 35 v ∧ W.ownsRow w.heap.size 40 2 v pre.length (tokCells pre) ∧ True) ∧ (Boxed W (w.heap.size + 1) 26 (.slice A l.length c) ∧ Below w.heap.size w W))
    (fun _ _ _ => False)
    (OwnFrom.and (Own.from (holdsRow_own w.heap.size w.heap.size 35 40 2 (fun pre : List Tok => pre.length) (fun pre => tokCells pre) (fun _ _ => True)) _) (OwnFrom.and (Own.from (boxed_own _ _ _) _) (ownFrom_below (Nat.le_refl _) (by simp; omega))))
    (fun _ _ _ _ _ hs _ _ => hs)
    ⟨⟨_, bO.alloc _, World.ownsRow_nil _ _ _ _, trivial⟩, bN, hB0⟩
    (fun x => { tmps := #[.slice A l.length c, undef, .slice none 0 0, .int .i64 0, .pointer (some ⟨w.heap.size, 0, none⟩), .int .i64 x.f0, .string x.f1, .slice A l.length c, .int .i64 (l.length : Int), .bool false, .slice A l.length c, .func (.func 41) #[] #[.pointer (some ⟨w.heap.size + 1, 0, none⟩)], .int .i64 x.f0, .string x.f1, undef, undef, undef, undef, undef, undef, undef], defers := [] }) ?assign ?body ?done ?stop
  case assign =>
    intro l x W K hK
    gi_wp2
    exact hK
  case body =>
    rintro lp pre x W ⟨⟨v, hv, hrow, _⟩, hbn, hB⟩ hlt
    have hc' := hv.cell
    have hut := Tryd.underlying40
    gi_wp2_with (gi_at_builtin; refine wpListIn_append_own _ rfl _ _ 35 rfl w.heap.size 40 i0 (.agg #[.int .i64 0, .string ⟨#[]⟩]) 2 24 Tryd.underlying35 hi hz0 hz1 hz2 rfl (by decide) _ _ _ rfl (hrow.alloc _) ⟨W.heap.size, 0, none⟩ 1 1 [.int .i64 x.f0, .string x.f1] rfl rfl (cell_two_new _ _ _ _) (by simp [Value.oneCell']) (by unfold maxLen; omega) (by omega) (by have := hB.size; simp; omega) ?_; intro v' w1 hown' hgrow _; obtain ⟨g', cap', rfl⟩ := ownsRow_succ hown'; obtain ⟨hv1, hv2, hr2, hk2, hb2⟩ := hv.appended (by decide) hrow hB.size (Nat.le_refl _) hown' hgrow; have hbn1 := (hbn.alloc _).kept hgrow (hbn.not_row (by decide) hrow); have hc1 := hv1.cell; have hf1 := hv1.frozen)
    have hne : w.heap.size + 1 ≠ w.heap.size := by omega
    have hbn2 : Boxed (w1.setCell ⟨w.heap.size, 0, none⟩ (.slice (some ⟨g', 0, none⟩) (pre.length + 1) cap')) (w.heap.size + 1) 26 (.slice A l.length c) := (Below.heap_setCell _ ⟨w.heap.size, 0, none⟩ _ _ hne).trans hbn1
    exact ⟨hk2.from _, ⟨hb2, hbn2.trans (Eq.symm hbn)⟩, ⟨_, hv2, by rw [tokCells_snoc]; simpa using hr2, trivial⟩, hbn2, hB.trans hb2⟩
  case done =>
    rintro D ys W hD rfl ⟨⟨v, hv, hrow, _⟩, hbn, hB⟩ hK
    have hc' := hv.cell
    gi_wp2
    refine ⟨by simp, .inl ⟨_, _, rfl, run_takeDeferred hK, ?_⟩⟩
    exact ⟨_, results_tmp2 rfl _ _ _, v, rfl, ⟨fun _ _ => trivial, tokCells (toks l), ownsRow_putObj hrow _ hK rfl, reps_toks _⟩, hB.trans (belowK_b (w := w) (Nat.le_refl _) W D _ _ (by simp at hD; omega) hK rfl rfl)⟩
  case stop =>
    rintro D c pre W _ _ h _
    exact h.elim
end Go.Proofs.YtbmgajddhfjchaaDoor.Obj
namespace Go.Proofs.YtbmgajddhfjchaaDoor.Obj
open Go.RowKit Go.Proofs.YtbmgajddhfjchaaDoorW.PrintWords Go.Proofs.YtbmgajddhfjchaaDoorW.PrintLast Go.Proofs.YtbmgajddhfjchaaDoorW.PrintMore

theorem face_calls {g h base : Nat} {w : World} {end_ : Int} {r : RS} {A : Option Addr} {c : Nat} {o : RO} {vP vF : Value} (hr : RAt g w end_ r A c) (ho : OAt g h w base o vP vF) (hgb : g < base) (hbs : base ≤ w.heap.size) (hP : o.P.length ≤ 1048576) (hFl : o.F.length ≤ 1048576) :
    Calls Tryd.prog 20 #[.pointer (some ⟨g, 0, none⟩), .pointer (some ⟨h, 0, none⟩)] w fun e w' => e = .returned (.tuple #[]) ∧ (∃ A' c', RAt g w' end_ (rface end_ r o).1 A' c') ∧ (∃ vP' vF', OAt g h w' base (rface end_ r o).2 vP' vF') ∧ Below g w w' := by
  obtain ⟨⟨n4, er⟩, hne⟩ : ∃ ne, tokNum (bytesOf ((fk end_ o.P.length r 3).1.peek end_).f1) o.P.length = ne := ⟨_, rfl⟩
  by_cases her : er = 11
  · rw [rface_eq3 (by rw [hne]; exact her)]
    exact face_3 hr ho hgb hbs hP hFl her hne
  · rw [rface_eq4 (by rw [hne]; exact her)]
    exact face_4 hr ho hgb hbs hP hFl her hne

/-! ### the plain loop -/
theorem wrong_l (r : RS) (t : Tok) (e : Int) : (r.wrong t e).l = r.l := by unfold RS.wrong; split <;> rfl
theorem number_l (r : RS) (end_ low high : Int) : (r.number end_ low high).2.l = r.l.tail := by
  unfold RS.number
  simp only
  split <;> split <;> first | exact wrong_l _ _ _ | rfl
theorem tail_le {α : Type} (l : List α) : l.tail.length ≤ l.length := by rw [List.length_tail]; omega
theorem rplace_l (end_ : Int) (r : RS) (o : RO) : (rplace end_ r o).1.l.length ≤ r.l.length := by
  have h1 := number_l r end_ (-4294967296) 4294967296
  have h2 := number_l (r.number end_ (-4294967296) 4294967296).2 end_ (-4294967296) 4294967296
  have h3 : (((r.number end_ (-4294967296) 4294967296).2.number end_ (-4294967296) 4294967296).2.zero end_).l = ((r.number end_ (-4294967296) 4294967296).2.number end_ (-4294967296) 4294967296).2.l.tail := by
    unfold RS.zero
    simp only [RS.next]
    split
    · rw [wrong_l]
    · rfl
  have h4 := number_l (((r.number end_ (-4294967296) 4294967296).2.number end_ (-4294967296) 4294967296).2.zero end_) end_ 1 1048576
  have e : (rplace end_ r o).1.l = r.l.tail.tail.tail.tail := by
    unfold rplace
    simp only
    rw [← h1, ← h2, ← h3, ← h4]
    split
    · rw [wrong_l]
    · rfl
  rw [e]
  simp only [List.length_tail]
  omega
theorem fk_l (end_ n : Int) (r : RS) (k : Nat) : (fk end_ n r k).1.l.length ≤ r.l.length := by
  induction k with
  | zero => exact Nat.le_refl _
  | succ k ih => simp only [fk]; rw [number_l]; exact Nat.le_trans (tail_le _) ih
theorem rface_l (end_ : Int) (r : RS) (o : RO) : (rface end_ r o).1.l.length ≤ r.l.length := by
  by_cases he : (tokNum (bytesOf ((fk end_ o.P.length r 3).1.peek end_).f1) o.P.length).2 = 11
  · rw [rface_eq3 he]; exact fk_l _ _ _ _
  · rw [rface_eq4 he]; exact fk_l _ _ _ _
theorem rface_o (end_ : Int) (r : RS) (o : RO) : ∃ f, (rface end_ r o).2 = { o with F := o.F ++ [f] } ∧ f.length ≤ 4 := by
  by_cases he : (tokNum (bytesOf ((fk end_ o.P.length r 3).1.peek end_).f1) o.P.length).2 = 11
  · rw [rface_eq3 he]; exact ⟨_, rfl, by rw [fk_len]; omega⟩
  · rw [rface_eq4 he]; exact ⟨_, rfl, by rw [fk_len]; omega⟩
theorem rplace_o (end_ : Int) (r : RS) (o : RO) : ∃ p W, (rplace end_ r o).2 = { P := o.P ++ [p], W := W, F := o.F } := ⟨_, _, rfl⟩
theorem rloop_stop {end_ : Int} {k : Nat} {r : RS} {o : RO} (h : r.l = [] ∨ r.e ≠ 0) : rloop end_ k r o = (r, o) := by
  cases k with
  | zero => rfl
  | succ k => unfold rloop; exact if_pos h
theorem str_is (s : ByteArray) (c : UInt8) : s.toList = [c] ↔ s = ⟨#[c]⟩ := by
  rw [ByteArray.toList_eq]
  constructor
  · intro h
    have : s.data = #[c] := Array.toList_inj.1 h
    cases s
    cases this
    rfl
  · rintro rfl
    rfl
/-- What stands at a round's head. -/
structure RL (g : Nat) (W0 : World) (end_ : Int) (Z : RS × RO) (k : Nat) (rs : RS) (ro : RO) (A : Option Addr) (c : Nat) (vP vF : Value) (W : World) : Prop where
  r : RAt g W end_ rs A c
  o : OAt g (g + 1) W (g + 1) ro vP vF
  b : Below g W0 W
  z : rloop end_ k rs ro = Z
  len : rs.l.length ≤ k
  pl : ro.P.length + k ≤ 1048576
  fl : ro.F.length + k ≤ 1048576
  f4 : ∀ f ∈ ro.F, f.length ≤ 4
theorem RL.toPlace {g : Nat} {W0 W W' : World} {end_ : Int} {Z : RS × RO} {k : Nat} {rs : RS} {ro : RO} {A A' : Option Addr} {c c' : Nat} {vP vF vP' vF' : Value} (h : RL g W0 end_ Z (k + 1) rs ro A c vP vF W) (hl : rs.l ≠ []) (he : rs.e = 0) (hv : (rs.peek end_).f1 = wordV ∧ ro.F = [])
    (hr : RAt g W' end_ (rplace end_ rs.next ro).1 A' c') (ho : OAt g (g + 1) W' (g + 1) (rplace end_ rs.next ro).2 vP' vF') (hb : Below g W W') : RL g W0 end_ Z k (rplace end_ rs.next ro).1 (rplace end_ rs.next ro).2 A' c' vP' vF' W' where
  r := hr
  o := ho
  b := h.b.trans hb
  z := by
    have := h.z
    unfold rloop at this
    rw [if_neg (by rintro (h | h); exact hl h; exact h he)] at this
    simp only at this
    rwa [if_pos hv] at this
  len := by
    have h1 := rplace_l end_ rs.next ro
    have h2 : rs.next.l.length + 1 = rs.l.length := by
      cases hq : rs.l with
      | nil => exact absurd hq hl
      | cons a b => simp [RS.next, hq]
    have := h.len
    omega
  pl := by obtain ⟨p, W, e⟩ := rplace_o end_ rs.next ro; rw [e]; simp only [List.length_append, List.length_singleton]; have := h.pl; omega
  fl := by obtain ⟨p, W, e⟩ := rplace_o end_ rs.next ro; rw [e]; have := h.fl; show ro.F.length + k ≤ 1048576; omega
  f4 := by obtain ⟨p, W, e⟩ := rplace_o end_ rs.next ro; rw [e]; exact h.f4
theorem RL.toFace {g : Nat} {W0 W W' : World} {end_ : Int} {Z : RS × RO} {k : Nat} {rs : RS} {ro : RO} {A A' : Option Addr} {c c' : Nat} {vP vF vP' vF' : Value} (h : RL g W0 end_ Z (k + 1) rs ro A c vP vF W) (hl : rs.l ≠ []) (he : rs.e = 0) (hv : ¬ ((rs.peek end_).f1 = wordV ∧ ro.F = [])) (hf : (rs.peek end_).f1 = wordF)
    (hr : RAt g W' end_ (rface end_ rs.next ro).1 A' c') (ho : OAt g (g + 1) W' (g + 1) (rface end_ rs.next ro).2 vP' vF') (hb : Below g W W') : RL g W0 end_ Z k (rface end_ rs.next ro).1 (rface end_ rs.next ro).2 A' c' vP' vF' W' where
  r := hr
  o := ho
  b := h.b.trans hb
  z := by
    have := h.z
    unfold rloop at this
    rw [if_neg (by rintro (h | h); exact hl h; exact h he)] at this
    simp only at this
    rwa [if_neg hv, if_pos hf] at this
  len := by
    have h1 := rface_l end_ rs.next ro
    have h2 : rs.next.l.length + 1 = rs.l.length := by
      cases hq : rs.l with
      | nil => exact absurd hq hl
      | cons a b => simp [RS.next, hq]
    have := h.len
    omega
  pl := by obtain ⟨f, e, _⟩ := rface_o end_ rs.next ro; rw [e]; have := h.pl; show ro.P.length + k ≤ 1048576; omega
  fl := by obtain ⟨f, e, _⟩ := rface_o end_ rs.next ro; rw [e]; simp only [List.length_append, List.length_singleton]; have := h.fl; omega
  f4 := by
    obtain ⟨f, e, hf⟩ := rface_o end_ rs.next ro
    rw [e]
    intro x hx
    rcases List.mem_append.1 hx with hx | hx
    · exact h.f4 x hx
    · rw [List.mem_singleton.1 hx]; exact hf
theorem RL.toBad {g : Nat} {W0 W : World} {end_ : Int} {Z : RS × RO} {k : Nat} {rs : RS} {ro : RO} {A : Option Addr} {c : Nat} {vP vF : Value} (h : RL g W0 end_ Z (k + 1) rs ro A c vP vF W) (hl : rs.l ≠ []) (he : rs.e = 0) (hv : ¬ ((rs.peek end_).f1 = wordV ∧ ro.F = [])) (hf : (rs.peek end_).f1 ≠ wordF) : Z = (rs.next.wrong (rs.peek end_) 11, ro) := by
  have := h.z
  unfold rloop at this
  rw [if_neg (by rintro (h | h); exact hl h; exact h he)] at this
  simp only at this
  rw [if_neg hv, if_neg hf] at this
  exact this.symm
theorem read_unfold {l : List Int} {r : List Pt × Int × List (List Int) × Int × Int} (h : object_Read.f l = some r) : l.length ≤ 1048576 ∧ ∃ Z, rloop l.length (toks l).length ⟨toks l, 0, 0⟩ ⟨[], 0, []⟩ = Z ∧ r = if Z.1.e ≠ 0 then ([], 0, [], Z.1.at_, Z.1.e) else if objOk Z.2.P Z.2.W Z.2.F then (Z.2.P, Z.2.W, Z.2.F, 0, 0) else ([], 0, [], 0, 2) := by
  unfold object_Read.f at h
  by_cases hl : l.length ≤ 1048576
  · rw [if_pos hl] at h
    refine ⟨hl, _, rfl, ?_⟩
    simp only at h
    split at h
    · rw [if_pos (by assumption)]; injection h with h; exact h.symm
    · rw [if_neg (by assumption)]
      split at h
      · rw [if_pos (by assumption)]; injection h with h; exact h.symm
      · rw [if_neg (by assumption)]; injection h with h; exact h.symm
  · rw [if_neg hl] at h; cases h
theorem cell_set3 (w : World) {d g : Nat} (hne : g ≠ d) (a b c : Value) (j : Nat) : (((w.setCell ⟨d, 0, none⟩ a).setCell ⟨d, 1, none⟩ b).setCell ⟨d, 2, none⟩ c).cell? ⟨g, j, none⟩ = w.cell? ⟨g, j, none⟩ := by
  have h : (((w.setCell ⟨d, 0, none⟩ a).setCell ⟨d, 1, none⟩ b).setCell ⟨d, 2, none⟩ c).heap[g]? = w.heap[g]? := (Below.heap_setCell _ ⟨d, 2, none⟩ _ _ hne).trans ((Below.heap_setCell _ ⟨d, 1, none⟩ _ _ hne).trans (Below.heap_setCell _ ⟨d, 0, none⟩ _ _ hne))
  simp [World.cell?, h]
def ReadPost (w : World) (r : List Pt × Int × List (List Int) × Int × Int) (e : Ending) (w' : World) : Prop := ∃ v0_ v2_ : Value, e = .returned (.tuple #[.agg #[v0_, .int .i64 r.2.1, v2_], .int .i64 r.2.2.2.1, .int .i64 r.2.2.2.2]) ∧ Kd.V k47 47 w' w.heap.size (fun k_ => w.heap.size ≤ k_) v0_ r.1 ∧ Kd.V (Kd.slice 3 (Kd.int .i64)) 48 w' w.heap.size (fun k_ => w.heap.size ≤ k_) v2_ r.2.2.1 ∧ Below w.heap.size w w'
theorem set3_below {w W : World} {d : Nat} (hd : w.heap.size ≤ d) (hb : Below w.heap.size w W) (a b c : Value) : Below w.heap.size w (((W.setCell ⟨d, 0, none⟩ a).setCell ⟨d, 1, none⟩ b).setCell ⟨d, 2, none⟩ c) := ((hb.setCell (p := ⟨d, 0, none⟩) hd _).setCell (p := ⟨d, 1, none⟩) hd _).setCell (p := ⟨d, 2, none⟩) hd _

theorem RL.below {g : Nat} {w W0 W w2 : World} {end_ : Int} {Z : RS × RO} {k : Nat} {rs : RS} {ro : RO} {A : Option Addr} {c : Nat} {vP vF : Value} (h : RL g W0 end_ Z k rs ro A c vP vF W) (hB0 : Below w.heap.size w W0) (hg : w.heap.size < g) (hb2 : Below W.heap.size W w2) : Below w.heap.size w w2 := by
  have h1 := hB0.trans (below_le' h.b (Nat.le_of_lt hg))
  exact h1.trans (below_le' hb2 h1.size)
theorem readPost_ok {g : Nat} {w W0 W w2 : World} {end_ : Int} {Z : RS × RO} {k : Nat} {rs : RS} {ro : RO} {A : Option Addr} {c : Nat} {vP vF : Value} (h : RL g W0 end_ Z k rs ro A c vP vF W) (hB0 : Below w.heap.size w W0) (hg : w.heap.size < g) (hb2 : Below W.heap.size W w2) (a b c' : Value) :
    ReadPost w (ro.P, ro.W, ro.F, 0, 0) (.returned (.tuple #[.agg #[vP, .int .i64 ro.W, vF], .int .i64 0, .int .i64 0])) (((w2.setCell ⟨w.heap.size, 0, none⟩ a).setCell ⟨w.heap.size, 1, none⟩ b).setCell ⟨w.heap.size, 2, none⟩ c') := by
  have hp := Kd.R_below (Kd.R_mono (Kd.R_bound h.o.rp) (ok' := fun k => g + 1 ≤ k) (fun k hk => hk.2.1)) hb2
  have hf := Kd.R_below (Kd.R_mono (Kd.R_bound h.o.rf) (ok' := fun k => g + 1 ≤ k) (fun k hk => hk.2.1)) hb2
  have hne : ∀ k, g + 1 ≤ k → k ≠ w.heap.size := fun k hk => by omega
  have hp3 := Kd.R_far (p := ⟨w.heap.size, 2, none⟩) (Kd.R_far (p := ⟨w.heap.size, 1, none⟩) (Kd.R_far (p := ⟨w.heap.size, 0, none⟩) hp hne a) hne b) hne c'
  have hf3 := Kd.R_far (p := ⟨w.heap.size, 2, none⟩) (Kd.R_far (p := ⟨w.heap.size, 1, none⟩) (Kd.R_far (p := ⟨w.heap.size, 0, none⟩) hf hne a) hne b) hne c'
  exact ⟨vP, vF, rfl, Kd.R_V (Kd.R_mono hp3 (fun k hk => by omega)), Kd.R_V (Kd.R_mono hf3 (fun k hk => by omega)), set3_below (Nat.le_refl _) (h.below hB0 hg hb2) a b c'⟩
theorem readPost_no {g : Nat} {w W0 W w2 : World} {end_ : Int} {Z : RS × RO} {k : Nat} {rs : RS} {ro : RO} {A : Option Addr} {c : Nat} {vP vF : Value} (h : RL g W0 end_ Z k rs ro A c vP vF W) (hB0 : Below w.heap.size w W0) (hg : w.heap.size < g) (hb2 : Below W.heap.size W w2) (a b c' : Value) (x y : Int) :
    ReadPost w ([], 0, [], x, y) (.returned (.tuple #[.agg #[.slice none 0 0, .int .i64 0, .slice none 0 0], .int .i64 x, .int .i64 y])) (((w2.setCell ⟨w.heap.size, 0, none⟩ a).setCell ⟨w.heap.size, 1, none⟩ b).setCell ⟨w.heap.size, 2, none⟩ c') :=
  ⟨_, _, rfl, Kd.R_V (base := 0) (Kd.R_nil _ _ _ _ _), Kd.R_V (base := 0) (Kd.R_nil _ _ _ _ _), set3_below (Nat.le_refl _) (h.below hB0 hg hb2) a b c'⟩
theorem readPost_bad {w W : World} (hB : Below w.heap.size w W) (a b c' : Value) (x y : Int) :
    ReadPost w ([], 0, [], x, y) (.returned (.tuple #[.agg #[.slice none 0 0, .int .i64 0, .slice none 0 0], .int .i64 x, .int .i64 y])) (((W.setCell ⟨w.heap.size, 0, none⟩ a).setCell ⟨w.heap.size, 1, none⟩ b).setCell ⟨w.heap.size, 2, none⟩ c') :=
  ⟨_, _, rfl, Kd.R_V (base := 0) (Kd.R_nil _ _ _ _ _), Kd.R_V (base := 0) (Kd.R_nil _ _ _ _ _), set3_below (Nat.le_refl _) hB a b c'⟩
theorem wrong_eq {rs : RS} (h : rs.e = 0) (t : Tok) : rs.next.wrong t 11 = ⟨rs.next.l, t.f0, 11⟩ := by unfold RS.wrong; rw [if_pos (show rs.next.e = 0 from h)]
set_option maxHeartbeats 8000000 in
set_option maxRecDepth 100000 in
theorem read_walk (A : Option Addr) (c : Nat) (l : List Int) (w : World) (hC : Kd.C (Kd.int .u8) w A l.length l) (hc : l.length ≤ c) (hlen : l.length ≤ 1048576) (Z : RS × RO) (hZ : rloop l.length (toks l).length ⟨toks l, 0, 0⟩ ⟨[], 0, []⟩ = Z) (r : List Pt × Int × List (List Int) × Int × Int)
    (hr : r = if Z.1.e ≠ 0 then ([], 0, [], Z.1.at_, Z.1.e) else if objOk Z.2.P Z.2.W Z.2.F then (Z.2.P, Z.2.W, Z.2.F, 0, 0) else ([], 0, [], 0, 2)) :
    Calls Tryd.prog 10 #[.slice A l.length c] w (ReadPost w r) := by
  have CA := Lib.hid (all_calls A c l (w.alloc (.cells #[.slice none 0 0, .int .i64 0, .slice none 0 0] 25)) hlen hc (Kd.C_alloc hC _))
  have htl := toks_length l
  obtain ⟨tn, htn⟩ : ∃ tn, (toks l).length = tn := ⟨_, rfl⟩
  rw [htn] at htl
  replace htn := Lib.hid htn
  replace hZ := Lib.hid hZ
  replace hr := Lib.hid hr
  clear hC
  have hu25 := Tryd.underlying25
  have hu60 := Tryd.underlying60
  have hu40 := Tryd.underlying40
  go_enter Tryd.func10, Tryd.ntmps10
  go_wp2_with fail
  go_step3
  go_wp2_with fail
  refine CA.out.mono ?_
  rintro e w1 ⟨v, rfl, hv, hb1⟩
  obtain ⟨At, ct, hvq⟩ := Kd.R_slice hv
  rw [htn.out] at hvq
  subst hvq
  have hct : tn ≤ ct := (Kd.R_reads' hv).2.1
  replace hct := Lib.hid hct
  replace hv := Lib.hid hv
  replace hb1 := Lib.hid hb1
  go_wp2_with fail
  have hsz := hb1.out.size
  simp only [World.size_alloc] at hsz
  have hR0 := Lib.hid (show RAt w1.heap.size ((w1.alloc (.cells #[.slice At tn ct, .int .i64 l.length, .int .i64 0, .int .i64 0] 60)).alloc (.cells #[.slice none 0 0, .int .i64 0, .slice none 0 0] 25)) (l.length : Int) ⟨toks l, 0, 0⟩ At ct from by
    refine ⟨?_, Kd.F_alloc (Kd.F_alloc ?_ _) _, by rw [htn.out]; exact hct.out⟩
    · rw [htn.out]; exact blk_alloc (Go.Deep.blk_alloc_new w1 _) _
    · rw [htn.out]
      exact Kd.F_mono (Kd.R_F (Kd.R_bound hv.out)) (fun k hk => hk.2.2.1))
  have hO0 := Lib.hid (show OAt w1.heap.size (w1.heap.size + 1) ((w1.alloc (.cells #[.slice At tn ct, .int .i64 l.length, .int .i64 0, .int .i64 0] 60)).alloc (.cells #[.slice none 0 0, .int .i64 0, .slice none 0 0] 25)) (w1.heap.size + 1) ⟨[], 0, []⟩ (.slice none 0 0) (.slice none 0 0) from by
    refine ⟨?_, Kd.R_nil _ _ _ _ _, Kd.R_nil _ _ _ _ _, Nat.lt_succ_self _⟩
    have := Go.Deep.blk_alloc_new (w1.alloc (.cells #[.slice At tn ct, .int .i64 l.length, .int .i64 0, .int .i64 0] 60)) (.cells #[.slice none 0 0, .int .i64 0, .slice none 0 0] 25)
    rwa [World.size_alloc] at this)
  have hB0 := Lib.hid (show Below w.heap.size w ((w1.alloc (.cells #[.slice At tn ct, .int .i64 l.length, .int .i64 0, .int .i64 0] 60)).alloc (.cells #[.slice none 0 0, .int .i64 0, .slice none 0 0] 25)) from below_alloc (below_alloc (below_step (below_alloc (Below.refl _ _) _) hb1.out) _) _)
  have hd0 := Lib.hid (show ((w1.alloc (.cells #[.slice At tn ct, .int .i64 l.length, .int .i64 0, .int .i64 0] 60)).alloc (.cells #[.slice none 0 0, .int .i64 0, .slice none 0 0] 25)).heap[w.heap.size]? = some (.cells #[.slice none 0 0, .int .i64 0, .slice none 0 0] 25 (0, 0)) from blk_alloc (blk_alloc (blk_below (Go.Deep.blk_alloc_new w _) hb1.out) _) _)
  have hs0 : w1.heap.size + 1 < ((w1.alloc (.cells #[.slice At tn ct, .int .i64 l.length, .int .i64 0, .int .i64 0] 60)).alloc (.cells #[.slice none 0 0, .int .i64 0, .slice none 0 0] 25)).heap.size := by simp
  obtain ⟨g, hg⟩ : ∃ g, w1.heap.size = g := ⟨_, rfl⟩
  generalize hW0 : (w1.alloc (.cells #[.slice At tn ct, .int .i64 l.length, .int .i64 0, .int .i64 0] 60)).alloc (.cells #[.slice none 0 0, .int .i64 0, .slice none 0 0] 25) = W0 at *
  clear hW0
  have hsz2 : w.heap.size < g := by omega
  rw [hg] at *
  clear hg hb1 hv hct CA
  have hZ' := hZ.out
  rw [htn.out] at hZ'
  have hL0 := Lib.hid (⟨hR0.out, hO0.out, Below.refl _ _, hZ', by rw [← htn.out]; exact Nat.le_refl _, by simp; omega, by simp; omega, fun f hf => by simp at hf⟩ : RL g W0 (l.length : Int) Z tn ⟨toks l, 0, 0⟩ ⟨[], 0, []⟩ At ct (.slice none 0 0) (.slice none 0 0) W0)
  clear hR0 hO0 hZ' hZ htn
  go_step3
  go_wp2_with fail
  go_loopg [9] tn (fun kq v9 wr => ∃ (rs : RS) (ro : RO) (Ac : Option Addr) (cc : Nat) (vP vF : Value), Hid (RL g W0 (l.length : Int) Z kq rs ro Ac cc vP vF wr))
  case atStart => exact ⟨_, _, _, _, _, _, hL0⟩
  case round =>
    obtain ⟨rs, ro, Ac, cc, vP, vF, hL⟩ := hrel
    obtain ⟨AP, cP, hvP, hcP, hCP⟩ := Kd.R_reads hL.out.o.rp
    obtain ⟨AF, cF, hvF, hcF, hCF⟩ := Kd.R_reads hL.out.o.rf
    subst hvP hvF
    have hCk := Lib.hid (And.intro hcP (And.intro hCP (And.intro hcF hCF)))
    clear hcP hCP hcF hCF
    obtain ⟨n, hn⟩ : ∃ n, rs.l.length = n := ⟨_, rfl⟩
    obtain ⟨er, her⟩ : ∃ er, rs.e = er := ⟨_, rfl⟩
    obtain ⟨nF, hnF⟩ : ∃ nF, ro.F.length = nF := ⟨_, rfl⟩
    obtain ⟨nP, hnP⟩ : ∃ nP, ro.P.length = nP := ⟨_, rfl⟩
    have hc0 : wr.cell? ⟨g, 0, none⟩ = some (.slice Ac n cc) := by rw [← hn]; exact hL.out.r.c0
    have hc3 : wr.cell? ⟨g, 3, none⟩ = some (.int .i64 er) := by rw [← her]; exact hL.out.r.c3
    have hc2 : wr.cell? ⟨g, 2, none⟩ = some (.int .i64 rs.at_) := hL.out.r.c2
    have hf0 : wr.cell? ⟨g + 1, 0, none⟩ = some (.slice AP nP cP) := by rw [← hnP]; exact (blk_cell hL.out.o.blk 0).trans rfl
    have hf1 : wr.cell? ⟨g + 1, 1, none⟩ = some (.int .i64 ro.W) := (blk_cell hL.out.o.blk 1).trans rfl
    have hf2 : wr.cell? ⟨g + 1, 2, none⟩ = some (.slice AF nF cF) := by rw [← hnF]; exact (blk_cell hL.out.o.blk 2).trans rfl
    rw [hnP, hnF] at hL
    have hnn : (0 : Int) ≤ (n : Int) := by omega
    replace hn := Lib.hid hn
    replace her := Lib.hid her
    replace hnF := Lib.hid hnF
    replace hnP := Lib.hid hnP
    have hdw := Lib.hid (show wr.heap[w.heap.size]? = _ from (hL.out.b.block _ (by omega)).trans hd0.out)
    have hdz0 : wr.frozen? ⟨w.heap.size, 0, none⟩ = false := blk_frozen hdw.out 0
    have hdz1 : wr.frozen? ⟨w.heap.size, 1, none⟩ = false := blk_frozen hdw.out 1
    have hdz2 : wr.frozen? ⟨w.heap.size, 2, none⟩ = false := blk_frozen hdw.out 2
    have hdc0 : wr.cell? ⟨w.heap.size, 0, none⟩ = some (.slice none 0 0) := (blk_cell hdw.out 0).trans rfl
    have hdc1 : wr.cell? ⟨w.heap.size, 1, none⟩ = some (.int .i64 0) := (blk_cell hdw.out 1).trans rfl
    have hdc2 : wr.cell? ⟨w.heap.size, 2, none⟩ = some (.slice none 0 0) := (blk_cell hdw.out 2).trans rfl
    by_cases hn0 : n = 0
    · subst hn0
      have hnd : decide (0 < 0) = false := rfl
      have hst := Lib.hid (hL.out.z.symm.trans (rloop_stop (.inl (List.length_eq_zero_iff.1 hn.out))))
      by_cases he0 : er = 0
      · subst he0
        have hed : ((0 : Int) == 0) = true := rfl
        have hsm : small_obj ro.P ro.F := ⟨by have := hL.out.pl; omega, by have := hL.out.fl; omega, fun f hf => by have := hL.out.f4 f hf; omega⟩
        obtain ⟨kc, hkc⟩ := check_spec ro.P ro.W ro.F hsm
        have hCC := Lib.hid (object_Check.calls kc AP cP ro.P ro.W AF cF ro.F _ wr hCk.out.2.1 hCk.out.1 hCk.out.2.2.2 hCk.out.2.2.1 hkc)
        rw [hnP.out, hnF.out] at hCC
        clear hkc
        have hrz := hr.out
        rw [hst.out] at hrz
        simp only [her.out] at hrz
        rw [if_neg (by simp)] at hrz
        by_cases hok : objOk ro.P ro.W ro.F
        · rw [if_pos hok] at hrz hCC
          replace hok := Lib.hid hok
          replace hrz := Lib.hid hrz
          go_wp2_with (go_at_call 13; refine hCC.out.mono ?_; rintro e w2 ⟨rfl, hb2⟩; have hd2 := blk_below hdw.out hb2; have hez0 : w2.frozen? ⟨w.heap.size, 0, none⟩ = false := blk_frozen hd2 0; have hez1 : w2.frozen? ⟨w.heap.size, 1, none⟩ = false := blk_frozen hd2 1; have hez2 : w2.frozen? ⟨w.heap.size, 2, none⟩ = false := blk_frozen hd2 2; have hec0 : w2.cell? ⟨w.heap.size, 0, none⟩ = some (.slice none 0 0) := (blk_cell hd2 0).trans rfl; have hec1 : w2.cell? ⟨w.heap.size, 1, none⟩ = some (.int .i64 0) := (blk_cell hd2 1).trans rfl; have hec2 : w2.cell? ⟨w.heap.size, 2, none⟩ = some (.slice none 0 0) := (blk_cell hd2 2).trans rfl; have hgc0 := pw_cell_below hb2 hf0; have hgc1 := pw_cell_below hb2 hf1; have hgc2 := pw_cell_below hb2 hf2; replace hb2 := Lib.hid hb2; replace hd2 := Lib.hid hd2; clear hdz0 hdz1 hdz2 hdc0 hdc1 hdc2 hf0 hf1 hf2 hc0 hc2 hc3)
          rw [Exit.noGoto_ret]
          rw [hrz.out]
          exact bodyPost_ret (v := .tuple #[.agg #[.slice AP nP cP, .int .i64 ro.W, .slice AF nF cF], .int .i64 0, .int .i64 0]) (by simp [results, Tryd.results10, go_sem, hec0, hec1, hec2]) rfl (readPost_ok hL.out hB0.out hsz2 hb2.out _ _ _)
        · rw [if_neg hok] at hrz hCC
          replace hok := Lib.hid hok
          replace hrz := Lib.hid hrz
          go_wp2_with (go_at_call 13; refine hCC.out.mono ?_; rintro e w2 ⟨rfl, hb2⟩; have hd2 := blk_below hdw.out hb2; have hez0 : w2.frozen? ⟨w.heap.size, 0, none⟩ = false := blk_frozen hd2 0; have hez1 : w2.frozen? ⟨w.heap.size, 1, none⟩ = false := blk_frozen hd2 1; have hez2 : w2.frozen? ⟨w.heap.size, 2, none⟩ = false := blk_frozen hd2 2; have hec0 : w2.cell? ⟨w.heap.size, 0, none⟩ = some (.slice none 0 0) := (blk_cell hd2 0).trans rfl; have hec1 : w2.cell? ⟨w.heap.size, 1, none⟩ = some (.int .i64 0) := (blk_cell hd2 1).trans rfl; have hec2 : w2.cell? ⟨w.heap.size, 2, none⟩ = some (.slice none 0 0) := (blk_cell hd2 2).trans rfl; replace hb2 := Lib.hid hb2; replace hd2 := Lib.hid hd2; clear hdz0 hdz1 hdz2 hdc0 hdc1 hdc2 hf0 hf1 hf2 hc0 hc2 hc3)
          rw [Exit.noGoto_ret]
          rw [hrz.out]
          exact bodyPost_ret (v := .tuple #[.agg #[.slice none 0 0, .int .i64 0, .slice none 0 0], .int .i64 0, .int .i64 2]) (by simp [results, Tryd.results10, go_sem, hec0, hec1, hec2]) rfl (readPost_no hL.out hB0.out hsz2 hb2.out _ _ _ _ _)
      · have hed : (er == 0) = false := beq_eq_false_iff_ne.2 he0
        have hed2 : (er != 0) = true := bne_iff_ne.2 he0
        have hrz := hr.out
        rw [hst.out] at hrz
        simp only [her.out] at hrz
        rw [if_pos he0] at hrz
        replace hrz := Lib.hid hrz
        go_wp2_with fail
        refine start_ (n := 12) (S := fun w' => w'.cell? ⟨g, 2, none⟩ = some (.int .i64 rs.at_) ∧ w'.cell? ⟨g, 3, none⟩ = some (.int .i64 er)) (ds := []) #[false, false, false, false, false, false, false, false, false, false, false, false] (by kernel_rfl) rfl rfl ⟨pw_cell_below (below_drew (Below.refl _ _)) hc2, pw_cell_below (below_drew (Below.refl _ _)) hc3⟩ (fun hHeld => ?_)
        refine pure_ (i := 0) (N := some 66) (v := ?_) (a' := ?_) #[true, false, false, false, false, false, false, false, false, false, false, false] rfl rfl (by kernel_rfl) (fun _ _ _ h => h) (Or.inl ⟨by rfl, ?_⟩) ?_ ?_
        rotate_left
        · intro w'
          go_simp
          with_reducible rfl
        rotate_left
        · simp only [Act.put, List.setIfInBounds_toArray, List.set_cons_zero, List.set_cons_succ, i64_w, i32_w]
          rfl
        refine pure_ (i := 1) (N := some 67) (v := ?_) (a' := ?_) #[true, true, false, false, false, false, false, false, false, false, false, false] rfl rfl (by kernel_rfl) (fun _ _ _ h => h) (Or.inl ⟨by rfl, ?_⟩) ?_ ?_
        rotate_left
        · intro w'
          go_simp
          with_reducible rfl
        rotate_left
        · simp only [Act.put, List.setIfInBounds_toArray, List.set_cons_zero, List.set_cons_succ, i64_w, i32_w]
          rfl
        refine pure_ (i := 2) (N := some 68) (v := ?_) (a' := ?_) #[true, true, true, false, false, false, false, false, false, false, false, false] rfl rfl (by kernel_rfl) (fun _ _ _ h => h) (Or.inl ⟨by rfl, ?_⟩) ?_ ?_
        rotate_left
        · intro w'
          go_simp
          with_reducible rfl
        rotate_left
        · simp only [Act.put, List.setIfInBounds_toArray, List.set_cons_zero, List.set_cons_succ, i64_w, i32_w]
          rfl
        refine pure_ (i := 3) (N := some 69) (v := ?_) (a' := ?_) #[true, true, true, true, false, false, false, false, false, false, false, false] rfl rfl (by kernel_rfl) (fun _ _ _ h => h) (Or.inl ⟨by rfl, ?_⟩) ?_ ?_
        rotate_left
        · intro w'
          go_simp
          with_reducible rfl
        rotate_left
        · simp only [Act.put, List.setIfInBounds_toArray, List.set_cons_zero, List.set_cons_succ, i64_w, i32_w]
          rfl
        refine pure_ (i := 5) (N := some 71) (v := ?_) (a' := ?_) #[true, true, true, true, false, true, false, false, false, false, false, false] rfl rfl (by kernel_rfl) (fun _ _ _ h => h) (Or.inl ⟨by rfl, ?_⟩) ?_ ?_
        rotate_left
        · intro w'
          go_simp
          with_reducible rfl
        rotate_left
        · simp only [Act.put, List.setIfInBounds_toArray, List.set_cons_zero, List.set_cons_succ, i64_w, i32_w]
          rfl
        refine pure_ (i := 6) (N := some 72) (v := ?_) (a' := ?_) #[true, true, true, true, false, true, true, false, false, false, false, false] rfl rfl (by kernel_rfl) (fun _ _ _ h => h) (Or.inl ⟨by rfl, ?_⟩) ?_ ?_
        rotate_left
        · intro w'
          go_simp
          with_reducible rfl
        rotate_left
        · simp only [Act.put, List.setIfInBounds_toArray, List.set_cons_zero, List.set_cons_succ, i64_w, i32_w]
          rfl
        refine pure_ (i := 7) (N := some 73) (v := ?_) (a' := ?_) #[true, true, true, true, false, true, true, true, false, false, false, false] rfl rfl (by kernel_rfl) (fun _ _ _ h => h) (Or.inl ⟨by rfl, ?_⟩) ?_ ?_
        rotate_left
        · intro w'
          go_simp
          with_reducible rfl
        rotate_left
        · simp only [Act.put, List.setIfInBounds_toArray, List.set_cons_zero, List.set_cons_succ, i64_w, i32_w]
          rfl
        refine take_ (i := 4) (N := some 70) (v := ?_) (a' := ?_) #[true, true, true, true, true, true, true, true, false, false, false, false] rfl rfl (by kernel_rfl) (fun _ _ _ h => h) (Or.inl ⟨by rfl, ?_⟩) hHeld ?_ ?_
        rotate_left
        · rintro w' ⟨s0, s1⟩
          go_simp
          with_reducible rfl
        rotate_left
        · simp only [Act.put, List.setIfInBounds_toArray, List.set_cons_zero, List.set_cons_succ, i64_w, i32_w]
          rfl
        refine take_ (i := 8) (N := some 74) (v := ?_) (a' := ?_) #[true, true, true, true, true, true, true, true, true, false, false, false] rfl rfl (by kernel_rfl) (fun _ _ _ h => h) (Or.inl ⟨by rfl, ?_⟩) hHeld ?_ ?_
        rotate_left
        · rintro w' ⟨s0, s1⟩
          go_simp
          with_reducible rfl
        rotate_left
        · simp only [Act.put, List.setIfInBounds_toArray, List.set_cons_zero, List.set_cons_succ, i64_w, i32_w]
          rfl
        refine one_ (i := 9) (N := none) #[true, true, true, true, true, true, true, true, true, true, false, false] rfl rfl (by kernel_rfl) (by decide) (fun K hK => ?_)
        refine skip_ (w1 := ?_) (by rfl) rfl ?_ ?_
        rotate_left
        · go_simp
          rfl
        refine hK.out _ _ ⟨(cell_set3 _ (Nat.ne_of_gt hsz2) _ _ _ 2).trans hHeld.1, (cell_set3 _ (Nat.ne_of_gt hsz2) _ _ _ 3).trans hHeld.2⟩ (fun hHeld => ?_)
        clear hK K
        refine pure_ (i := 10) (N := some 3) (v := ?_) (a' := ?_) #[true, true, true, true, true, true, true, true, true, true, true, false] rfl rfl (by kernel_rfl) (fun _ _ _ h => h) (Or.inl ⟨by rfl, ?_⟩) ?_ ?_
        rotate_left
        · intro w'
          go_simp
          with_reducible rfl
        rotate_left
        · simp only [Act.put, List.setIfInBounds_toArray, List.set_cons_zero, List.set_cons_succ, i64_w, i32_w]
          rfl
        refine pure_ (i := 11) (N := some 4) (v := ?_) (a' := ?_) #[true, true, true, true, true, true, true, true, true, true, true, true] rfl rfl (by kernel_rfl) (fun _ _ _ h => h) (Or.inl ⟨by rfl, ?_⟩) ?_ ?_
        rotate_left
        · intro w'
          go_simp
          with_reducible rfl
        rotate_left
        · simp only [Act.put, List.setIfInBounds_toArray, List.set_cons_zero, List.set_cons_succ, i64_w, i32_w]
          rfl
        refine done_ (by kernel_rfl) ?_
        go_wp2_with fail
        rw [Exit.noGoto_ret]
        rw [hrz.out]
        exact bodyPost_ret (v := .tuple #[.agg #[.slice none 0 0, .int .i64 0, .slice none 0 0], .int .i64 (rs.at_), .int .i64 er]) (by simp [results, Tryd.results10, go_sem, hdc0, hdc1, hdc2]) rfl (readPost_no hL.out hB0.out hsz2 (below_drew (Below.refl _ _)) _ _ _ _ _)
    · have hnd : decide (0 < n) = true := decide_eq_true (Nat.pos_of_ne_zero hn0)
      have hln := Lib.hid (show rs.l ≠ [] from fun h => hn0 (by rw [← hn.out, h]; rfl))
      by_cases he0 : er = 0
      · subst he0
        have hed : ((0 : Int) == 0) = true := rfl
        have hkq : gk ≠ 0 := fun h => by have := hL.out.len; have := hn.out; omega
        obtain ⟨k', rfl⟩ : ∃ k', gk = k' + 1 := ⟨gk - 1, by omega⟩
        obtain ⟨t, ht⟩ : ∃ t, rs.peek (l.length : Int) = t := ⟨_, rfl⟩
        have CN := next_calls hL.out.r
        rw [ht] at CN
        replace CN := Lib.hid CN
        replace ht := Lib.hid ht
        have htn0 : (l.length : Nat) = l.length := rfl
        clear hn0
        by_cases hv : t.f1 = wordV ∧ ro.F = []
        · have hv1 : (t.f1.toList == [118]) = true := beq_iff_eq.2 ((str_is _ 118).2 hv.1)
          have hF0 : nF = 0 := by rw [← hnF.out, hv.2]; rfl
          subst hF0
          have hvv := Lib.hid (show (rs.peek (l.length : Int)).f1 = wordV ∧ ro.F = [] by rw [ht.out]; exact hv)
          clear hv
          go_wp2_with (first
            | (go_at_call 18; refine CN.out.mono ?_; rintro e w2 ⟨rfl, ⟨A2, c2, hr2⟩, hb2, hk2⟩; have ho2 := Lib.hid (hL.out.o.keep hk2); have hs2 := Lib.hid (show g + 1 < w2.heap.size from blk_lt ho2.out.blk); have hg2 : w2.cell? ⟨g + 1, 2, none⟩ = some (.slice AF 0 cF) := (blk_cell ho2.out.blk 2).trans rfl; have hg2a := pw_cell_below (below_alloc (Below.refl w2.heap.size w2) (.cells #[.int .i64 t.f0, .string t.f1] 40)) hg2; replace hr2 := Lib.hid hr2; replace hb2 := Lib.hid hb2; clear hk2 hdz0 hdz1 hdz2 hdc0 hdc1 hdc2 hf0 hf1 hf2 hc0 hc2 hc3)
            | (go_at_call 19; refine (place_calls (hr2.out.far (below_alloc (Below.refl _ _) _)) (ho2.out.keep (KeepBut.of_below (below_alloc (Below.refl _ _) _) g none)) (Nat.lt_succ_self g) (by have := hs2.out; simp; omega) (by have := hL.out.pl; omega)).mono ?_; rintro e w3 ⟨rfl, ⟨A3, c3, hr3⟩, ⟨vP3, vF3, ho3⟩, hb3⟩; have hL3 := Lib.hid (hL.out.toPlace hln.out her.out hvv.out hr3 ho3 (hb2.out.trans ((Below.refl g w2).alloc (by have := hs2.out; omega) _ |>.trans hb3))); clear hr3 ho3 hb3))
          go_roundg k'
          case measure => omega
          case rel => exact ⟨_, _, _, _, _, _, hL3⟩
        · have hvv := Lib.hid (show ¬ ((rs.peek (l.length : Int)).f1 = wordV ∧ ro.F = []) by rw [ht.out]; exact hv)
          by_cases hv1 : t.f1 = wordV
          · have hv1d : (t.f1.toList == [118]) = true := beq_iff_eq.2 ((str_is _ 118).2 hv1)
            have hF0 : nF ≠ 0 := fun h => hv ⟨hv1, List.length_eq_zero_iff.1 (hnF.out.trans h)⟩
            have hF0d : (nF == 0) = false := beq_eq_false_iff_ne.2 hF0
            have hF0e : ((nF : Int) == 0) = false := beq_eq_false_iff_ne.2 (by omega)
            have hf1d : (t.f1.toList == [102]) = false := beq_eq_false_iff_ne.2 (fun h => by have h2 := (str_is _ 102).1 h; rw [hv1] at h2; exact absurd (congrArg (fun b : ByteArray => b.data.toList) h2) (by decide))
            have hff := Lib.hid (show (rs.peek (l.length : Int)).f1 ≠ wordF by rw [ht.out, hv1]; intro h2; exact absurd (congrArg (fun b : ByteArray => b.data.toList) h2) (by decide))
            clear hv hv1 hF0
            have hbd := hL.out.toBad hln.out her.out hvv.out hff.out
            rw [ht.out, wrong_eq her.out] at hbd
            have hrz := hr.out
            rw [hbd] at hrz
            simp only at hrz
            rw [if_pos (by decide)] at hrz
            replace hrz := Lib.hid hrz
            clear hbd
            go_wp2_with (first
              | (go_at_call 18; refine CN.out.mono ?_; rintro e w2 ⟨rfl, ⟨A2, c2, hr2⟩, hb2, hk2⟩; have ho2 := Lib.hid (hL.out.o.keep hk2); have hs2 := Lib.hid (show g + 1 < w2.heap.size from blk_lt ho2.out.blk); have hg2 : w2.cell? ⟨g + 1, 2, none⟩ = some (.slice AF nF cF) := (blk_cell ho2.out.blk 2).trans rfl; have hg2a := pw_cell_below (below_alloc (Below.refl w2.heap.size w2) (.cells #[.int .i64 t.f0, .string t.f1] 40)) hg2; replace hr2 := Lib.hid hr2; replace hb2 := Lib.hid hb2; clear hk2 hdz0 hdz1 hdz2 hdc0 hdc1 hdc2 hf0 hf1 hf2 hc0 hc2 hc3)
              | (go_at_call 21; refine (wrong_calls (hr2.out.far (below_alloc (Below.refl _ _) _)) t 11).mono ?_; rintro e w3 ⟨rfl, hr3, hb3, hk3⟩; rw [wrong_eq her.out] at hr3; have hb23 := hb2.out.trans ((Below.refl g w2).alloc (by have := hs2.out; omega) _ |>.trans hb3); have hd3 := (hb23.block _ hsz2).trans hdw.out; have hdz0 : w3.frozen? ⟨w.heap.size, 0, none⟩ = false := blk_frozen hd3 0; have hdz1 : w3.frozen? ⟨w.heap.size, 1, none⟩ = false := blk_frozen hd3 1; have hdz2 : w3.frozen? ⟨w.heap.size, 2, none⟩ = false := blk_frozen hd3 2; have hdc0 : w3.cell? ⟨w.heap.size, 0, none⟩ = some (.slice none 0 0) := (blk_cell hd3 0).trans rfl; have hdc1 : w3.cell? ⟨w.heap.size, 1, none⟩ = some (.int .i64 0) := (blk_cell hd3 1).trans rfl; have hdc2 : w3.cell? ⟨w.heap.size, 2, none⟩ = some (.slice none 0 0) := (blk_cell hd3 2).trans rfl; have hc2 : w3.cell? ⟨g, 2, none⟩ = some (.int .i64 t.f0) := hr3.c2; have hc3 : w3.cell? ⟨g, 3, none⟩ = some (.int .i64 11) := hr3.c3; have hB3 := Lib.hid (hB0.out.trans ((below_le' hL.out.b (Nat.le_of_lt hsz2)).trans (below_le' hb23 (Nat.le_of_lt hsz2)))); clear hr3 hb3 hk3 hd3 hb23))
            refine start_ (n := 12) (S := fun w' => w'.cell? ⟨g, 2, none⟩ = some (.int .i64 t.f0) ∧ w'.cell? ⟨g, 3, none⟩ = some (.int .i64 11)) (ds := []) #[false, false, false, false, false, false, false, false, false, false, false, false] (by kernel_rfl) rfl rfl ⟨pw_cell_below (below_drew (Below.refl _ _)) hc2, pw_cell_below (below_drew (Below.refl _ _)) hc3⟩ (fun hHeld => ?_)
            refine pure_ (i := 0) (N := some 66) (v := ?_) (a' := ?_) #[true, false, false, false, false, false, false, false, false, false, false, false] rfl rfl (by kernel_rfl) (fun _ _ _ h => h) (Or.inl ⟨by rfl, ?_⟩) ?_ ?_
            rotate_left
            · intro w'
              go_simp
              with_reducible rfl
            rotate_left
            · simp only [Act.put, List.setIfInBounds_toArray, List.set_cons_zero, List.set_cons_succ, i64_w, i32_w]
              rfl
            refine pure_ (i := 1) (N := some 67) (v := ?_) (a' := ?_) #[true, true, false, false, false, false, false, false, false, false, false, false] rfl rfl (by kernel_rfl) (fun _ _ _ h => h) (Or.inl ⟨by rfl, ?_⟩) ?_ ?_
            rotate_left
            · intro w'
              go_simp
              with_reducible rfl
            rotate_left
            · simp only [Act.put, List.setIfInBounds_toArray, List.set_cons_zero, List.set_cons_succ, i64_w, i32_w]
              rfl
            refine pure_ (i := 2) (N := some 68) (v := ?_) (a' := ?_) #[true, true, true, false, false, false, false, false, false, false, false, false] rfl rfl (by kernel_rfl) (fun _ _ _ h => h) (Or.inl ⟨by rfl, ?_⟩) ?_ ?_
            rotate_left
            · intro w'
              go_simp
              with_reducible rfl
            rotate_left
            · simp only [Act.put, List.setIfInBounds_toArray, List.set_cons_zero, List.set_cons_succ, i64_w, i32_w]
              rfl
            refine pure_ (i := 3) (N := some 69) (v := ?_) (a' := ?_) #[true, true, true, true, false, false, false, false, false, false, false, false] rfl rfl (by kernel_rfl) (fun _ _ _ h => h) (Or.inl ⟨by rfl, ?_⟩) ?_ ?_
            rotate_left
            · intro w'
              go_simp
              with_reducible rfl
            rotate_left
            · simp only [Act.put, List.setIfInBounds_toArray, List.set_cons_zero, List.set_cons_succ, i64_w, i32_w]
              rfl
            refine pure_ (i := 5) (N := some 71) (v := ?_) (a' := ?_) #[true, true, true, true, false, true, false, false, false, false, false, false] rfl rfl (by kernel_rfl) (fun _ _ _ h => h) (Or.inl ⟨by rfl, ?_⟩) ?_ ?_
            rotate_left
            · intro w'
              go_simp
              with_reducible rfl
            rotate_left
            · simp only [Act.put, List.setIfInBounds_toArray, List.set_cons_zero, List.set_cons_succ, i64_w, i32_w]
              rfl
            refine pure_ (i := 6) (N := some 72) (v := ?_) (a' := ?_) #[true, true, true, true, false, true, true, false, false, false, false, false] rfl rfl (by kernel_rfl) (fun _ _ _ h => h) (Or.inl ⟨by rfl, ?_⟩) ?_ ?_
            rotate_left
            · intro w'
              go_simp
              with_reducible rfl
            rotate_left
            · simp only [Act.put, List.setIfInBounds_toArray, List.set_cons_zero, List.set_cons_succ, i64_w, i32_w]
              rfl
            refine pure_ (i := 7) (N := some 73) (v := ?_) (a' := ?_) #[true, true, true, true, false, true, true, true, false, false, false, false] rfl rfl (by kernel_rfl) (fun _ _ _ h => h) (Or.inl ⟨by rfl, ?_⟩) ?_ ?_
            rotate_left
            · intro w'
              go_simp
              with_reducible rfl
            rotate_left
            · simp only [Act.put, List.setIfInBounds_toArray, List.set_cons_zero, List.set_cons_succ, i64_w, i32_w]
              rfl
            refine take_ (i := 4) (N := some 70) (v := ?_) (a' := ?_) #[true, true, true, true, true, true, true, true, false, false, false, false] rfl rfl (by kernel_rfl) (fun _ _ _ h => h) (Or.inl ⟨by rfl, ?_⟩) hHeld ?_ ?_
            rotate_left
            · rintro w' ⟨s0, s1⟩
              go_simp
              with_reducible rfl
            rotate_left
            · simp only [Act.put, List.setIfInBounds_toArray, List.set_cons_zero, List.set_cons_succ, i64_w, i32_w]
              rfl
            refine take_ (i := 8) (N := some 74) (v := ?_) (a' := ?_) #[true, true, true, true, true, true, true, true, true, false, false, false] rfl rfl (by kernel_rfl) (fun _ _ _ h => h) (Or.inl ⟨by rfl, ?_⟩) hHeld ?_ ?_
            rotate_left
            · rintro w' ⟨s0, s1⟩
              go_simp
              with_reducible rfl
            rotate_left
            · simp only [Act.put, List.setIfInBounds_toArray, List.set_cons_zero, List.set_cons_succ, i64_w, i32_w]
              rfl
            refine one_ (i := 9) (N := none) #[true, true, true, true, true, true, true, true, true, true, false, false] rfl rfl (by kernel_rfl) (by decide) (fun K hK => ?_)
            refine skip_ (w1 := ?_) (by rfl) rfl ?_ ?_
            rotate_left
            · go_simp
              rfl
            refine hK.out _ _ ⟨(cell_set3 _ (Nat.ne_of_gt hsz2) _ _ _ 2).trans hHeld.1, (cell_set3 _ (Nat.ne_of_gt hsz2) _ _ _ 3).trans hHeld.2⟩ (fun hHeld => ?_)
            clear hK K
            refine pure_ (i := 10) (N := some 3) (v := ?_) (a' := ?_) #[true, true, true, true, true, true, true, true, true, true, true, false] rfl rfl (by kernel_rfl) (fun _ _ _ h => h) (Or.inl ⟨by rfl, ?_⟩) ?_ ?_
            rotate_left
            · intro w'
              go_simp
              with_reducible rfl
            rotate_left
            · simp only [Act.put, List.setIfInBounds_toArray, List.set_cons_zero, List.set_cons_succ, i64_w, i32_w]
              rfl
            refine pure_ (i := 11) (N := some 4) (v := ?_) (a' := ?_) #[true, true, true, true, true, true, true, true, true, true, true, true] rfl rfl (by kernel_rfl) (fun _ _ _ h => h) (Or.inl ⟨by rfl, ?_⟩) ?_ ?_
            rotate_left
            · intro w'
              go_simp
              with_reducible rfl
            rotate_left
            · simp only [Act.put, List.setIfInBounds_toArray, List.set_cons_zero, List.set_cons_succ, i64_w, i32_w]
              rfl
            refine done_ (by kernel_rfl) ?_
            go_wp2_with fail
            rw [Exit.noGoto_ret]
            rw [hrz.out]
            exact bodyPost_ret (v := .tuple #[.agg #[.slice none 0 0, .int .i64 0, .slice none 0 0], .int .i64 (t.f0), .int .i64 11]) (by simp [results, Tryd.results10, go_sem, hdc0, hdc1, hdc2]) rfl (readPost_bad (below_step hB3.out (below_drew (Below.refl _ _))) _ _ _ _ _)
          · have hv1d : (t.f1.toList == [118]) = false := beq_eq_false_iff_ne.2 (fun h => hv1 ((str_is _ 118).1 h))
            clear hv hv1
            by_cases hf1 : t.f1 = wordF
            · have hf1d : (t.f1.toList == [102]) = true := beq_iff_eq.2 ((str_is _ 102).2 hf1)
              have hff := Lib.hid (show (rs.peek (l.length : Int)).f1 = wordF by rw [ht.out]; exact hf1)
              clear hf1
              go_wp2_with (first
                | (go_at_call 18; refine CN.out.mono ?_; rintro e w2 ⟨rfl, ⟨A2, c2, hr2⟩, hb2, hk2⟩; have ho2 := Lib.hid (hL.out.o.keep hk2); have hs2 := Lib.hid (show g + 1 < w2.heap.size from blk_lt ho2.out.blk); have hg2 : w2.cell? ⟨g + 1, 2, none⟩ = some (.slice AF nF cF) := (blk_cell ho2.out.blk 2).trans rfl; have hg2a := pw_cell_below (below_alloc (Below.refl w2.heap.size w2) (.cells #[.int .i64 t.f0, .string t.f1] 40)) hg2; replace hr2 := Lib.hid hr2; replace hb2 := Lib.hid hb2; clear hk2 hdz0 hdz1 hdz2 hdc0 hdc1 hdc2 hf0 hf1 hf2 hc0 hc2 hc3)
                | (go_at_call 20; refine (face_calls (hr2.out.far (below_alloc (Below.refl _ _) _)) (ho2.out.keep (KeepBut.of_below (below_alloc (Below.refl _ _) _) g none)) (Nat.lt_succ_self g) (by have := hs2.out; simp; omega) (by have := hL.out.pl; omega) (by have := hL.out.fl; omega)).mono ?_; rintro e w3 ⟨rfl, ⟨A3, c3, hr3⟩, ⟨vP3, vF3, ho3⟩, hb3⟩; have hL3 := Lib.hid (hL.out.toFace hln.out her.out hvv.out hff.out hr3 ho3 (hb2.out.trans ((Below.refl g w2).alloc (by have := hs2.out; omega) _ |>.trans hb3))); clear hr3 ho3 hb3))
              go_roundg k'
              case measure => omega
              case rel => exact ⟨_, _, _, _, _, _, hL3⟩
            · have hf1d : (t.f1.toList == [102]) = false := beq_eq_false_iff_ne.2 (fun h => hf1 ((str_is _ 102).1 h))
              have hff := Lib.hid (show (rs.peek (l.length : Int)).f1 ≠ wordF by rw [ht.out]; exact hf1)
              clear hf1
              have hbd := hL.out.toBad hln.out her.out hvv.out hff.out
              rw [ht.out, wrong_eq her.out] at hbd
              have hrz := hr.out
              rw [hbd] at hrz
              simp only at hrz
              rw [if_pos (by decide)] at hrz
              replace hrz := Lib.hid hrz
              clear hbd
              go_wp2_with (first
                | (go_at_call 18; refine CN.out.mono ?_; rintro e w2 ⟨rfl, ⟨A2, c2, hr2⟩, hb2, hk2⟩; have ho2 := Lib.hid (hL.out.o.keep hk2); have hs2 := Lib.hid (show g + 1 < w2.heap.size from blk_lt ho2.out.blk); have hg2 : w2.cell? ⟨g + 1, 2, none⟩ = some (.slice AF nF cF) := (blk_cell ho2.out.blk 2).trans rfl; have hg2a := pw_cell_below (below_alloc (Below.refl w2.heap.size w2) (.cells #[.int .i64 t.f0, .string t.f1] 40)) hg2; replace hr2 := Lib.hid hr2; replace hb2 := Lib.hid hb2; clear hk2 hdz0 hdz1 hdz2 hdc0 hdc1 hdc2 hf0 hf1 hf2 hc0 hc2 hc3)
                | (go_at_call 21; refine (wrong_calls (hr2.out.far (below_alloc (Below.refl _ _) _)) t 11).mono ?_; rintro e w3 ⟨rfl, hr3, hb3, hk3⟩; rw [wrong_eq her.out] at hr3; have hb23 := hb2.out.trans ((Below.refl g w2).alloc (by have := hs2.out; omega) _ |>.trans hb3); have hd3 := (hb23.block _ hsz2).trans hdw.out; have hdz0 : w3.frozen? ⟨w.heap.size, 0, none⟩ = false := blk_frozen hd3 0; have hdz1 : w3.frozen? ⟨w.heap.size, 1, none⟩ = false := blk_frozen hd3 1; have hdz2 : w3.frozen? ⟨w.heap.size, 2, none⟩ = false := blk_frozen hd3 2; have hdc0 : w3.cell? ⟨w.heap.size, 0, none⟩ = some (.slice none 0 0) := (blk_cell hd3 0).trans rfl; have hdc1 : w3.cell? ⟨w.heap.size, 1, none⟩ = some (.int .i64 0) := (blk_cell hd3 1).trans rfl; have hdc2 : w3.cell? ⟨w.heap.size, 2, none⟩ = some (.slice none 0 0) := (blk_cell hd3 2).trans rfl; have hc2 : w3.cell? ⟨g, 2, none⟩ = some (.int .i64 t.f0) := hr3.c2; have hc3 : w3.cell? ⟨g, 3, none⟩ = some (.int .i64 11) := hr3.c3; have hB3 := Lib.hid (hB0.out.trans ((below_le' hL.out.b (Nat.le_of_lt hsz2)).trans (below_le' hb23 (Nat.le_of_lt hsz2)))); clear hr3 hb3 hk3 hd3 hb23))
              refine start_ (n := 12) (S := fun w' => w'.cell? ⟨g, 2, none⟩ = some (.int .i64 t.f0) ∧ w'.cell? ⟨g, 3, none⟩ = some (.int .i64 11)) (ds := []) #[false, false, false, false, false, false, false, false, false, false, false, false] (by kernel_rfl) rfl rfl ⟨pw_cell_below (below_drew (Below.refl _ _)) hc2, pw_cell_below (below_drew (Below.refl _ _)) hc3⟩ (fun hHeld => ?_)
              refine pure_ (i := 0) (N := some 66) (v := ?_) (a' := ?_) #[true, false, false, false, false, false, false, false, false, false, false, false] rfl rfl (by kernel_rfl) (fun _ _ _ h => h) (Or.inl ⟨by rfl, ?_⟩) ?_ ?_
              rotate_left
              · intro w'
                go_simp
                with_reducible rfl
              rotate_left
              · simp only [Act.put, List.setIfInBounds_toArray, List.set_cons_zero, List.set_cons_succ, i64_w, i32_w]
                rfl
              refine pure_ (i := 1) (N := some 67) (v := ?_) (a' := ?_) #[true, true, false, false, false, false, false, false, false, false, false, false] rfl rfl (by kernel_rfl) (fun _ _ _ h => h) (Or.inl ⟨by rfl, ?_⟩) ?_ ?_
              rotate_left
              · intro w'
                go_simp
                with_reducible rfl
              rotate_left
              · simp only [Act.put, List.setIfInBounds_toArray, List.set_cons_zero, List.set_cons_succ, i64_w, i32_w]
                rfl
              refine pure_ (i := 2) (N := some 68) (v := ?_) (a' := ?_) #[true, true, true, false, false, false, false, false, false, false, false, false] rfl rfl (by kernel_rfl) (fun _ _ _ h => h) (Or.inl ⟨by rfl, ?_⟩) ?_ ?_
              rotate_left
              · intro w'
                go_simp
                with_reducible rfl
              rotate_left
              · simp only [Act.put, List.setIfInBounds_toArray, List.set_cons_zero, List.set_cons_succ, i64_w, i32_w]
                rfl
              refine pure_ (i := 3) (N := some 69) (v := ?_) (a' := ?_) #[true, true, true, true, false, false, false, false, false, false, false, false] rfl rfl (by kernel_rfl) (fun _ _ _ h => h) (Or.inl ⟨by rfl, ?_⟩) ?_ ?_
              rotate_left
              · intro w'
                go_simp
                with_reducible rfl
              rotate_left
              · simp only [Act.put, List.setIfInBounds_toArray, List.set_cons_zero, List.set_cons_succ, i64_w, i32_w]
                rfl
              refine pure_ (i := 5) (N := some 71) (v := ?_) (a' := ?_) #[true, true, true, true, false, true, false, false, false, false, false, false] rfl rfl (by kernel_rfl) (fun _ _ _ h => h) (Or.inl ⟨by rfl, ?_⟩) ?_ ?_
              rotate_left
              · intro w'
                go_simp
                with_reducible rfl
              rotate_left
              · simp only [Act.put, List.setIfInBounds_toArray, List.set_cons_zero, List.set_cons_succ, i64_w, i32_w]
                rfl
              refine pure_ (i := 6) (N := some 72) (v := ?_) (a' := ?_) #[true, true, true, true, false, true, true, false, false, false, false, false] rfl rfl (by kernel_rfl) (fun _ _ _ h => h) (Or.inl ⟨by rfl, ?_⟩) ?_ ?_
              rotate_left
              · intro w'
                go_simp
                with_reducible rfl
              rotate_left
              · simp only [Act.put, List.setIfInBounds_toArray, List.set_cons_zero, List.set_cons_succ, i64_w, i32_w]
                rfl
              refine pure_ (i := 7) (N := some 73) (v := ?_) (a' := ?_) #[true, true, true, true, false, true, true, true, false, false, false, false] rfl rfl (by kernel_rfl) (fun _ _ _ h => h) (Or.inl ⟨by rfl, ?_⟩) ?_ ?_
              rotate_left
              · intro w'
                go_simp
                with_reducible rfl
              rotate_left
              · simp only [Act.put, List.setIfInBounds_toArray, List.set_cons_zero, List.set_cons_succ, i64_w, i32_w]
                rfl
              refine take_ (i := 4) (N := some 70) (v := ?_) (a' := ?_) #[true, true, true, true, true, true, true, true, false, false, false, false] rfl rfl (by kernel_rfl) (fun _ _ _ h => h) (Or.inl ⟨by rfl, ?_⟩) hHeld ?_ ?_
              rotate_left
              · rintro w' ⟨s0, s1⟩
                go_simp
                with_reducible rfl
              rotate_left
              · simp only [Act.put, List.setIfInBounds_toArray, List.set_cons_zero, List.set_cons_succ, i64_w, i32_w]
                rfl
              refine take_ (i := 8) (N := some 74) (v := ?_) (a' := ?_) #[true, true, true, true, true, true, true, true, true, false, false, false] rfl rfl (by kernel_rfl) (fun _ _ _ h => h) (Or.inl ⟨by rfl, ?_⟩) hHeld ?_ ?_
              rotate_left
              · rintro w' ⟨s0, s1⟩
                go_simp
                with_reducible rfl
              rotate_left
              · simp only [Act.put, List.setIfInBounds_toArray, List.set_cons_zero, List.set_cons_succ, i64_w, i32_w]
                rfl
              refine one_ (i := 9) (N := none) #[true, true, true, true, true, true, true, true, true, true, false, false] rfl rfl (by kernel_rfl) (by decide) (fun K hK => ?_)
              refine skip_ (w1 := ?_) (by rfl) rfl ?_ ?_
              rotate_left
              · go_simp
                rfl
              refine hK.out _ _ ⟨(cell_set3 _ (Nat.ne_of_gt hsz2) _ _ _ 2).trans hHeld.1, (cell_set3 _ (Nat.ne_of_gt hsz2) _ _ _ 3).trans hHeld.2⟩ (fun hHeld => ?_)
              clear hK K
              refine pure_ (i := 10) (N := some 3) (v := ?_) (a' := ?_) #[true, true, true, true, true, true, true, true, true, true, true, false] rfl rfl (by kernel_rfl) (fun _ _ _ h => h) (Or.inl ⟨by rfl, ?_⟩) ?_ ?_
              rotate_left
              · intro w'
                go_simp
                with_reducible rfl
              rotate_left
              · simp only [Act.put, List.setIfInBounds_toArray, List.set_cons_zero, List.set_cons_succ, i64_w, i32_w]
                rfl
              refine pure_ (i := 11) (N := some 4) (v := ?_) (a' := ?_) #[true, true, true, true, true, true, true, true, true, true, true, true] rfl rfl (by kernel_rfl) (fun _ _ _ h => h) (Or.inl ⟨by rfl, ?_⟩) ?_ ?_
              rotate_left
              · intro w'
                go_simp
                with_reducible rfl
              rotate_left
              · simp only [Act.put, List.setIfInBounds_toArray, List.set_cons_zero, List.set_cons_succ, i64_w, i32_w]
                rfl
              refine done_ (by kernel_rfl) ?_
              go_wp2_with fail
              rw [Exit.noGoto_ret]
              rw [hrz.out]
              exact bodyPost_ret (v := .tuple #[.agg #[.slice none 0 0, .int .i64 0, .slice none 0 0], .int .i64 (t.f0), .int .i64 11]) (by simp [results, Tryd.results10, go_sem, hdc0, hdc1, hdc2]) rfl (readPost_bad (below_step hB3.out (below_drew (Below.refl _ _))) _ _ _ _ _)
      · have hed : (er == 0) = false := beq_eq_false_iff_ne.2 he0
        have hed2 : (er != 0) = true := bne_iff_ne.2 he0
        have hst := Lib.hid (hL.out.z.symm.trans (rloop_stop (.inr (by rw [her.out]; exact he0))))
        have hrz := hr.out
        rw [hst.out] at hrz
        simp only [her.out] at hrz
        rw [if_pos he0] at hrz
        replace hrz := Lib.hid hrz
        go_wp2_with fail
        refine start_ (n := 12) (S := fun w' => w'.cell? ⟨g, 2, none⟩ = some (.int .i64 rs.at_) ∧ w'.cell? ⟨g, 3, none⟩ = some (.int .i64 er)) (ds := []) #[false, false, false, false, false, false, false, false, false, false, false, false] (by kernel_rfl) rfl rfl ⟨pw_cell_below (below_drew (Below.refl _ _)) hc2, pw_cell_below (below_drew (Below.refl _ _)) hc3⟩ (fun hHeld => ?_)
        refine pure_ (i := 0) (N := some 66) (v := ?_) (a' := ?_) #[true, false, false, false, false, false, false, false, false, false, false, false] rfl rfl (by kernel_rfl) (fun _ _ _ h => h) (Or.inl ⟨by rfl, ?_⟩) ?_ ?_
        rotate_left
        · intro w'
          go_simp
          with_reducible rfl
        rotate_left
        · simp only [Act.put, List.setIfInBounds_toArray, List.set_cons_zero, List.set_cons_succ, i64_w, i32_w]
          rfl
        refine pure_ (i := 1) (N := some 67) (v := ?_) (a' := ?_) #[true, true, false, false, false, false, false, false, false, false, false, false] rfl rfl (by kernel_rfl) (fun _ _ _ h => h) (Or.inl ⟨by rfl, ?_⟩) ?_ ?_
        rotate_left
        · intro w'
          go_simp
          with_reducible rfl
        rotate_left
        · simp only [Act.put, List.setIfInBounds_toArray, List.set_cons_zero, List.set_cons_succ, i64_w, i32_w]
          rfl
        refine pure_ (i := 2) (N := some 68) (v := ?_) (a' := ?_) #[true, true, true, false, false, false, false, false, false, false, false, false] rfl rfl (by kernel_rfl) (fun _ _ _ h => h) (Or.inl ⟨by rfl, ?_⟩) ?_ ?_
        rotate_left
        · intro w'
          go_simp
          with_reducible rfl
        rotate_left
        · simp only [Act.put, List.setIfInBounds_toArray, List.set_cons_zero, List.set_cons_succ, i64_w, i32_w]
          rfl
        refine pure_ (i := 3) (N := some 69) (v := ?_) (a' := ?_) #[true, true, true, true, false, false, false, false, false, false, false, false] rfl rfl (by kernel_rfl) (fun _ _ _ h => h) (Or.inl ⟨by rfl, ?_⟩) ?_ ?_
        rotate_left
        · intro w'
          go_simp
          with_reducible rfl
        rotate_left
        · simp only [Act.put, List.setIfInBounds_toArray, List.set_cons_zero, List.set_cons_succ, i64_w, i32_w]
          rfl
        refine pure_ (i := 5) (N := some 71) (v := ?_) (a' := ?_) #[true, true, true, true, false, true, false, false, false, false, false, false] rfl rfl (by kernel_rfl) (fun _ _ _ h => h) (Or.inl ⟨by rfl, ?_⟩) ?_ ?_
        rotate_left
        · intro w'
          go_simp
          with_reducible rfl
        rotate_left
        · simp only [Act.put, List.setIfInBounds_toArray, List.set_cons_zero, List.set_cons_succ, i64_w, i32_w]
          rfl
        refine pure_ (i := 6) (N := some 72) (v := ?_) (a' := ?_) #[true, true, true, true, false, true, true, false, false, false, false, false] rfl rfl (by kernel_rfl) (fun _ _ _ h => h) (Or.inl ⟨by rfl, ?_⟩) ?_ ?_
        rotate_left
        · intro w'
          go_simp
          with_reducible rfl
        rotate_left
        · simp only [Act.put, List.setIfInBounds_toArray, List.set_cons_zero, List.set_cons_succ, i64_w, i32_w]
          rfl
        refine pure_ (i := 7) (N := some 73) (v := ?_) (a' := ?_) #[true, true, true, true, false, true, true, true, false, false, false, false] rfl rfl (by kernel_rfl) (fun _ _ _ h => h) (Or.inl ⟨by rfl, ?_⟩) ?_ ?_
        rotate_left
        · intro w'
          go_simp
          with_reducible rfl
        rotate_left
        · simp only [Act.put, List.setIfInBounds_toArray, List.set_cons_zero, List.set_cons_succ, i64_w, i32_w]
          rfl
        refine take_ (i := 4) (N := some 70) (v := ?_) (a' := ?_) #[true, true, true, true, true, true, true, true, false, false, false, false] rfl rfl (by kernel_rfl) (fun _ _ _ h => h) (Or.inl ⟨by rfl, ?_⟩) hHeld ?_ ?_
        rotate_left
        · rintro w' ⟨s0, s1⟩
          go_simp
          with_reducible rfl
        rotate_left
        · simp only [Act.put, List.setIfInBounds_toArray, List.set_cons_zero, List.set_cons_succ, i64_w, i32_w]
          rfl
        refine take_ (i := 8) (N := some 74) (v := ?_) (a' := ?_) #[true, true, true, true, true, true, true, true, true, false, false, false] rfl rfl (by kernel_rfl) (fun _ _ _ h => h) (Or.inl ⟨by rfl, ?_⟩) hHeld ?_ ?_
        rotate_left
        · rintro w' ⟨s0, s1⟩
          go_simp
          with_reducible rfl
        rotate_left
        · simp only [Act.put, List.setIfInBounds_toArray, List.set_cons_zero, List.set_cons_succ, i64_w, i32_w]
          rfl
        refine one_ (i := 9) (N := none) #[true, true, true, true, true, true, true, true, true, true, false, false] rfl rfl (by kernel_rfl) (by decide) (fun K hK => ?_)
        refine skip_ (w1 := ?_) (by rfl) rfl ?_ ?_
        rotate_left
        · go_simp
          rfl
        refine hK.out _ _ ⟨(cell_set3 _ (Nat.ne_of_gt hsz2) _ _ _ 2).trans hHeld.1, (cell_set3 _ (Nat.ne_of_gt hsz2) _ _ _ 3).trans hHeld.2⟩ (fun hHeld => ?_)
        clear hK K
        refine pure_ (i := 10) (N := some 3) (v := ?_) (a' := ?_) #[true, true, true, true, true, true, true, true, true, true, true, false] rfl rfl (by kernel_rfl) (fun _ _ _ h => h) (Or.inl ⟨by rfl, ?_⟩) ?_ ?_
        rotate_left
        · intro w'
          go_simp
          with_reducible rfl
        rotate_left
        · simp only [Act.put, List.setIfInBounds_toArray, List.set_cons_zero, List.set_cons_succ, i64_w, i32_w]
          rfl
        refine pure_ (i := 11) (N := some 4) (v := ?_) (a' := ?_) #[true, true, true, true, true, true, true, true, true, true, true, true] rfl rfl (by kernel_rfl) (fun _ _ _ h => h) (Or.inl ⟨by rfl, ?_⟩) ?_ ?_
        rotate_left
        · intro w'
          go_simp
          with_reducible rfl
        rotate_left
        · simp only [Act.put, List.setIfInBounds_toArray, List.set_cons_zero, List.set_cons_succ, i64_w, i32_w]
          rfl
        refine done_ (by kernel_rfl) ?_
        go_wp2_with fail
        rw [Exit.noGoto_ret]
        rw [hrz.out]
        exact bodyPost_ret (v := .tuple #[.agg #[.slice none 0 0, .int .i64 0, .slice none 0 0], .int .i64 (rs.at_), .int .i64 er]) (by simp [results, Tryd.results10, go_sem, hdc0, hdc1, hdc2]) rfl (readPost_no hL.out hB0.out hsz2 (below_drew (Below.refl _ _)) _ _ _ _ _)
theorem object_Read.calls (A0 : Option Addr) (c0 : Nat) (l0 : List Int) (r1 : List Pt) (r2 : Int) (r3 : List (List Int)) (r4 r5 : Int) (w : World) (hr0 : Kd.C (Kd.int .u8) w A0 l0.length l0) (hc0 : l0.length ≤ c0) (h : object_Read.f l0 = some (r1, r2, r3, r4, r5)) :
    Calls Tryd.prog 10 #[.slice A0 l0.length c0] w fun e w' => ∃ v0_ v2_ : Value, e = .returned (.tuple #[.agg #[v0_, .int .i64 r2, v2_], .int .i64 r4, .int .i64 r5]) ∧ Kd.V k47 47 w' w.heap.size (fun k_ => w.heap.size ≤ k_) v0_ r1 ∧ Kd.V (Kd.slice 3 (Kd.int .i64)) 48 w' w.heap.size (fun k_ => w.heap.size ≤ k_) v2_ r3 ∧ Below w.heap.size w w' := by
  obtain ⟨hlen, Z, hZ, hr⟩ := read_unfold h
  exact read_walk A0 c0 l0 w hr0 hc0 hlen Z hZ _ hr
end Go.Proofs.YtbmgajddhfjchaaDoor.Obj
