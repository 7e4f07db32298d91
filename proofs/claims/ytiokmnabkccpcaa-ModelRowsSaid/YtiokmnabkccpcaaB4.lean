/- A name's text: term.named, walked. -/
import Derived.Test.YtiokmnabkccpcaaB3
set_option linter.unusedVariables false
set_option linter.unusedSimpArgs false
namespace Go.Proofs.Ytiokmnabkccpcaa.Kit
open Go.RowKit Go.Proofs.YtiokmnabkccpcaaW.PrintWords Go.Proofs.YtiokmnabkccpcaaW.PrintLast Go.Proofs.YtiokmnabkccpcaaW.PrintMore

def letterB (c : Int) : Bool := (decide (97 ≤ c) && decide (c ≤ 122)) || (decide (65 ≤ c) && decide (c ≤ 90)) || decide (c = 95)
def digitB (c : Int) : Bool := decide (48 ≤ c) && decide (c ≤ 57)
def kwL : List (List UInt8) := [[110, 111, 116], [97, 110, 100], [111, 114], [105, 102, 102], [105, 116, 101], [110, 101, 103], [102, 111, 114, 97, 108, 108], [112, 97, 116, 116, 101, 114, 110], [116, 114, 117, 101], [102, 97, 108, 115, 101], [105, 110, 116], [98, 111, 111, 108], [111, 98, 106]]
def charOk (s : ByteArray) (k : Nat) : Bool := letterB (bt s k) || (decide (k ≠ 0) && digitB (bt s k))
def charsTo (s : ByteArray) : Nat → Bool
  | 0 => true
  | k + 1 => charsTo s k && charOk s k
theorem toList_empty (s : ByteArray) : s.toList.isEmpty = decide (s.size = 0) := by
  have h : s.toList.length = s.size := by rw [Go.ByteArray.toList_eq]; exact data_length s
  rw [← h]
  cases s.toList <;> simp
/-- May a thing be named so? -/
def namedS (s : ByteArray) : Bool := !(kwL.any fun l => s.toList == l) && charsTo s s.size && decide (s.size ≠ 0) && decide (s.size ≤ 40)
theorem charsTo_false (s : ByteArray) (k n : Nat) (hk : k < n) (h : charOk s k = false) : charsTo s n = false := by
  induction n with
  | zero => omega
  | succ n ih =>
    rw [charsTo]
    by_cases e : k = n
    · subst e; rw [h]; simp
    · rw [ih (by omega)]; rfl

set_option maxHeartbeats 1000000 in
theorem named_calls (s : ByteArray) (w : World) (hs : s.size ≤ 9223372036854775807) : Calls Try.prog 49 #[.string s] w (Gives w (.bool (namedS s))) := by
  cases h0 : (s.toList == [110, 111, 116]) with
  | true =>
    have HF := Aside0.mk (show namedS s = false from by unfold namedS; rw [show (kwL.any fun l => s.toList == l) = true from List.any_eq_true.2 ⟨[110, 111, 116], by decide, h0⟩]; rfl)
    go_enter Try.func49, Try.ntmps49
    go_wp2_with fail
    go_ret
    exact ⟨by rw [HF.out]; rfl, Below.refl _ _⟩
  | false =>
  cases h1 : (s.toList == [97, 110, 100]) with
  | true =>
    have HF := Aside0.mk (show namedS s = false from by unfold namedS; rw [show (kwL.any fun l => s.toList == l) = true from List.any_eq_true.2 ⟨[97, 110, 100], by decide, h1⟩]; rfl)
    go_enter Try.func49, Try.ntmps49
    go_wp2_with fail
    go_ret
    exact ⟨by rw [HF.out]; rfl, Below.refl _ _⟩
  | false =>
  cases h2 : (s.toList == [111, 114]) with
  | true =>
    have HF := Aside0.mk (show namedS s = false from by unfold namedS; rw [show (kwL.any fun l => s.toList == l) = true from List.any_eq_true.2 ⟨[111, 114], by decide, h2⟩]; rfl)
    go_enter Try.func49, Try.ntmps49
    go_wp2_with fail
    go_ret
    exact ⟨by rw [HF.out]; rfl, Below.refl _ _⟩
  | false =>
  cases h3 : (s.toList == [105, 102, 102]) with
  | true =>
    have HF := Aside0.mk (show namedS s = false from by unfold namedS; rw [show (kwL.any fun l => s.toList == l) = true from List.any_eq_true.2 ⟨[105, 102, 102], by decide, h3⟩]; rfl)
    go_enter Try.func49, Try.ntmps49
    go_wp2_with fail
    go_ret
    exact ⟨by rw [HF.out]; rfl, Below.refl _ _⟩
  | false =>
  cases h4 : (s.toList == [105, 116, 101]) with
  | true =>
    have HF := Aside0.mk (show namedS s = false from by unfold namedS; rw [show (kwL.any fun l => s.toList == l) = true from List.any_eq_true.2 ⟨[105, 116, 101], by decide, h4⟩]; rfl)
    go_enter Try.func49, Try.ntmps49
    go_wp2_with fail
    go_ret
    exact ⟨by rw [HF.out]; rfl, Below.refl _ _⟩
  | false =>
  cases h5 : (s.toList == [110, 101, 103]) with
  | true =>
    have HF := Aside0.mk (show namedS s = false from by unfold namedS; rw [show (kwL.any fun l => s.toList == l) = true from List.any_eq_true.2 ⟨[110, 101, 103], by decide, h5⟩]; rfl)
    go_enter Try.func49, Try.ntmps49
    go_wp2_with fail
    go_ret
    exact ⟨by rw [HF.out]; rfl, Below.refl _ _⟩
  | false =>
  cases h6 : (s.toList == [102, 111, 114, 97, 108, 108]) with
  | true =>
    have HF := Aside0.mk (show namedS s = false from by unfold namedS; rw [show (kwL.any fun l => s.toList == l) = true from List.any_eq_true.2 ⟨[102, 111, 114, 97, 108, 108], by decide, h6⟩]; rfl)
    go_enter Try.func49, Try.ntmps49
    go_wp2_with fail
    go_ret
    exact ⟨by rw [HF.out]; rfl, Below.refl _ _⟩
  | false =>
  cases h7 : (s.toList == [112, 97, 116, 116, 101, 114, 110]) with
  | true =>
    have HF := Aside0.mk (show namedS s = false from by unfold namedS; rw [show (kwL.any fun l => s.toList == l) = true from List.any_eq_true.2 ⟨[112, 97, 116, 116, 101, 114, 110], by decide, h7⟩]; rfl)
    go_enter Try.func49, Try.ntmps49
    go_wp2_with fail
    go_ret
    exact ⟨by rw [HF.out]; rfl, Below.refl _ _⟩
  | false =>
  cases h8 : (s.toList == [116, 114, 117, 101]) with
  | true =>
    have HF := Aside0.mk (show namedS s = false from by unfold namedS; rw [show (kwL.any fun l => s.toList == l) = true from List.any_eq_true.2 ⟨[116, 114, 117, 101], by decide, h8⟩]; rfl)
    go_enter Try.func49, Try.ntmps49
    go_wp2_with fail
    go_ret
    exact ⟨by rw [HF.out]; rfl, Below.refl _ _⟩
  | false =>
  cases h9 : (s.toList == [102, 97, 108, 115, 101]) with
  | true =>
    have HF := Aside0.mk (show namedS s = false from by unfold namedS; rw [show (kwL.any fun l => s.toList == l) = true from List.any_eq_true.2 ⟨[102, 97, 108, 115, 101], by decide, h9⟩]; rfl)
    go_enter Try.func49, Try.ntmps49
    go_wp2_with fail
    go_ret
    exact ⟨by rw [HF.out]; rfl, Below.refl _ _⟩
  | false =>
  cases h10 : (s.toList == [105, 110, 116]) with
  | true =>
    have HF := Aside0.mk (show namedS s = false from by unfold namedS; rw [show (kwL.any fun l => s.toList == l) = true from List.any_eq_true.2 ⟨[105, 110, 116], by decide, h10⟩]; rfl)
    go_enter Try.func49, Try.ntmps49
    go_wp2_with fail
    go_ret
    exact ⟨by rw [HF.out]; rfl, Below.refl _ _⟩
  | false =>
  cases h11 : (s.toList == [98, 111, 111, 108]) with
  | true =>
    have HF := Aside0.mk (show namedS s = false from by unfold namedS; rw [show (kwL.any fun l => s.toList == l) = true from List.any_eq_true.2 ⟨[98, 111, 111, 108], by decide, h11⟩]; rfl)
    go_enter Try.func49, Try.ntmps49
    go_wp2_with fail
    go_ret
    exact ⟨by rw [HF.out]; rfl, Below.refl _ _⟩
  | false =>
  cases h12 : (s.toList == [111, 98, 106]) with
  | true =>
    have HF := Aside0.mk (show namedS s = false from by unfold namedS; rw [show (kwL.any fun l => s.toList == l) = true from List.any_eq_true.2 ⟨[111, 98, 106], by decide, h12⟩]; rfl)
    go_enter Try.func49, Try.ntmps49
    go_wp2_with fail
    go_ret
    exact ⟨by rw [HF.out]; rfl, Below.refl _ _⟩
  | false =>
  have HKW := Aside0.mk (show (kwL.any fun l => s.toList == l) = false from by simp only [kwL, List.any_cons, List.any_nil, h0, h1, h2, h3, h4, h5, h6, h7, h8, h9, h10, h11, h12, Bool.or_false])
  go_enter Try.func49, Try.ntmps49
  go_wp2_with ((with_reducible refine gate_dst (N := 22) rfl ?_); refine range_event rfl 9 _ rfl s rfl Try.underlying9 ?_; intro g w1 hk hg hb; have HK := Aside0.mk hk; have HB := Aside0.mk hb; clear hk hb)
  simp only [Act.put, List.setIfInBounds_toArray, List.set_cons_succ, List.set_cons_zero]
  go_loopg [3, 4] s.size (fun gg v3 v4 wr => ∃ pos : Nat, pos ≤ s.size ∧ s.size - pos ≤ gg ∧ Aside0 (charsTo s pos = true) ∧ Aside0 (wr.heap[g]? = some (.stringIter s pos)) ∧ Aside0 (Below w.heap.size w wr))
  case atStart => exact ⟨0, Nat.zero_le _, by omega, ⟨rfl⟩, HK, HB⟩
  case round =>
    obtain ⟨pos, hpos, hgg, HC, HI, BW⟩ := hrel
    by_cases hlt : pos < s.size
    · obtain ⟨r, hr⟩ : ∃ r : Int, r = (Utf8.decode s pos).1 := ⟨_, rfl⟩
      have hr1 : letterB r = true ∨ digitB r = true → r < 128 := by unfold letterB digitB; simp; try omega
      have hc0 := bt_range s (pos : Int)
      have hok : charOk s pos = (letterB r || (decide (pos ≠ 0) && digitB r)) := by
        by_cases h : bt s pos < 128
        · have := (decode_low s pos hlt h).1
          unfold charOk; rw [hr, this]
        · have h1 := decode_up s pos hlt (by omega)
          have h2 : letterB r = false := by unfold letterB; simp; omega
          have h3 : digitB r = false := by unfold digitB; simp; omega
          have h4 : letterB (bt s pos) = false := by unfold letterB; simp; omega
          have h5 : digitB (bt s pos) = false := by unfold digitB; simp; omega
          unfold charOk; rw [h2, h3, h4, h5]
      have hw : charOk s pos = true → (Utf8.decode s pos).2 = 1 := by
        intro h
        rw [hok] at h
        have h1 : r < 128 := hr1 (by
          rw [Bool.or_eq_true, Bool.and_eq_true] at h
          rcases h with h | h
          · exact .inl h
          · exact .inr h.2)
        by_cases hb : bt s pos < 128
        · exact (decode_low s pos hlt hb).2
        · have := decode_up s pos hlt (by omega)
          omega
      have HOK := Aside0.mk hok
      have HW := Aside0.mk hw
      have HR := Aside0.mk hr
      clear hok hw hr hr1 hc0
      rcases (by omega : (97 ≤ r ∧ r ≤ 122) ∨ (65 ≤ r ∧ r ≤ 90) ∨ r = 95 ∨ (48 ≤ r ∧ r ≤ 57) ∨ r < 48 ∨ (58 ≤ r ∧ r ≤ 64) ∨ (91 ≤ r ∧ r ≤ 94) ∨ r = 96 ∨ 122 < r) with ⟨q1, q2⟩ | ⟨q1, q2⟩ | rfl | ⟨q1, q2⟩ | q1 | ⟨q1, q2⟩ | ⟨q1, q2⟩ | rfl | q1
      · have h95 : (r == 95) = false := by simp; omega
        go_wp2_with ((with_reducible refine gate_dst (N := 23) rfl ?_); refine next_event rfl _ rfl g rfl s pos HI.out hlt ?_; rw [← HR.out]; intro w1 hk1 hm1; have HK1 := Aside0.mk hk1; have HM1 := Aside0.mk hm1; clear hk1 hm1) 
        have hok1 : charOk s pos = true := by rw [HOK.out]; unfold letterB digitB; simp; try omega
        go_roundg (s.size - (pos + 1))
        case measure => omega
        case rel => exact ⟨pos + 1, by omega, by omega, ⟨by rw [charsTo, HC.out, hok1]; rfl⟩, ⟨by rw [← HW.out hok1]; exact HK1.out⟩, ⟨HM1.out.below _ _ (by omega) BW.out⟩⟩
      · have h95 : (r == 95) = false := by simp; omega
        go_wp2_with ((with_reducible refine gate_dst (N := 23) rfl ?_); refine next_event rfl _ rfl g rfl s pos HI.out hlt ?_; rw [← HR.out]; intro w1 hk1 hm1; have HK1 := Aside0.mk hk1; have HM1 := Aside0.mk hm1; clear hk1 hm1) 
        have hok1 : charOk s pos = true := by rw [HOK.out]; unfold letterB digitB; simp; try omega
        go_roundg (s.size - (pos + 1))
        case measure => omega
        case rel => exact ⟨pos + 1, by omega, by omega, ⟨by rw [charsTo, HC.out, hok1]; rfl⟩, ⟨by rw [← HW.out hok1]; exact HK1.out⟩, ⟨HM1.out.below _ _ (by omega) BW.out⟩⟩
      · go_wp2_with ((with_reducible refine gate_dst (N := 23) rfl ?_); refine next_event rfl _ rfl g rfl s pos HI.out hlt ?_; rw [← HR.out]; intro w1 hk1 hm1; have HK1 := Aside0.mk hk1; have HM1 := Aside0.mk hm1; clear hk1 hm1) 
        have hok1 : charOk s pos = true := by rw [HOK.out]; unfold letterB digitB; simp; try omega
        go_roundg (s.size - (pos + 1))
        case measure => omega
        case rel => exact ⟨pos + 1, by omega, by omega, ⟨by rw [charsTo, HC.out, hok1]; rfl⟩, ⟨by rw [← HW.out hok1]; exact HK1.out⟩, ⟨HM1.out.below _ _ (by omega) BW.out⟩⟩
      · have h95 : (r == 95) = false := by simp; omega
        by_cases hp0 : pos = 0
        · have hp1 : ((pos : Int) == 0) = true := by rw [hp0]; rfl
          have HP0 := Aside0.mk hp0
          clear hp0
          go_wp2_with ((with_reducible refine gate_dst (N := 23) rfl ?_); refine next_event rfl _ rfl g rfl s pos HI.out hlt ?_; rw [← HR.out]; intro w1 hk1 hm1; have HK1 := Aside0.mk hk1; have HM1 := Aside0.mk hm1; clear hk1 hm1) 
          have hok1 : charOk s pos = false := by rw [HOK.out]; have hp0 := HP0.out; unfold letterB digitB; simp; try omega
          have hf : namedS s = false := by unfold namedS; rw [charsTo_false s pos s.size hlt hok1]; simp
          go_ret
          exact ⟨by rw [hf]; rfl, HM1.out.below _ _ (by omega) BW.out⟩
        · have hp1 : ((pos : Int) == 0) = false := by simp; omega
          go_wp2_with ((with_reducible refine gate_dst (N := 23) rfl ?_); refine next_event rfl _ rfl g rfl s pos HI.out hlt ?_; rw [← HR.out]; intro w1 hk1 hm1; have HK1 := Aside0.mk hk1; have HM1 := Aside0.mk hm1; clear hk1 hm1) 
          have hok1 : charOk s pos = true := by rw [HOK.out]; unfold letterB digitB; simp; try omega
          go_roundg (s.size - (pos + 1))
          case measure => omega
          case rel => exact ⟨pos + 1, by omega, by omega, ⟨by rw [charsTo, HC.out, hok1]; rfl⟩, ⟨by rw [← HW.out hok1]; exact HK1.out⟩, ⟨HM1.out.below _ _ (by omega) BW.out⟩⟩
      · have h95 : (r == 95) = false := by simp; omega
        by_cases hp0 : pos = 0
        · have hp1 : ((pos : Int) == 0) = true := by rw [hp0]; rfl
          have HP0 := Aside0.mk hp0
          clear hp0
          go_wp2_with ((with_reducible refine gate_dst (N := 23) rfl ?_); refine next_event rfl _ rfl g rfl s pos HI.out hlt ?_; rw [← HR.out]; intro w1 hk1 hm1; have HK1 := Aside0.mk hk1; have HM1 := Aside0.mk hm1; clear hk1 hm1) 
          have hok1 : charOk s pos = false := by rw [HOK.out]; have hp0 := HP0.out; unfold letterB digitB; simp; try omega
          have hf : namedS s = false := by unfold namedS; rw [charsTo_false s pos s.size hlt hok1]; simp
          go_ret
          exact ⟨by rw [hf]; rfl, HM1.out.below _ _ (by omega) BW.out⟩
        · have hp1 : ((pos : Int) == 0) = false := by simp; omega
          go_wp2_with ((with_reducible refine gate_dst (N := 23) rfl ?_); refine next_event rfl _ rfl g rfl s pos HI.out hlt ?_; rw [← HR.out]; intro w1 hk1 hm1; have HK1 := Aside0.mk hk1; have HM1 := Aside0.mk hm1; clear hk1 hm1) 
          have hok1 : charOk s pos = false := by rw [HOK.out]; unfold letterB digitB; simp; try omega
          have hf : namedS s = false := by unfold namedS; rw [charsTo_false s pos s.size hlt hok1]; simp
          go_ret
          exact ⟨by rw [hf]; rfl, HM1.out.below _ _ (by omega) BW.out⟩
      · have h95 : (r == 95) = false := by simp; omega
        by_cases hp0 : pos = 0
        · have hp1 : ((pos : Int) == 0) = true := by rw [hp0]; rfl
          have HP0 := Aside0.mk hp0
          clear hp0
          go_wp2_with ((with_reducible refine gate_dst (N := 23) rfl ?_); refine next_event rfl _ rfl g rfl s pos HI.out hlt ?_; rw [← HR.out]; intro w1 hk1 hm1; have HK1 := Aside0.mk hk1; have HM1 := Aside0.mk hm1; clear hk1 hm1) 
          have hok1 : charOk s pos = false := by rw [HOK.out]; have hp0 := HP0.out; unfold letterB digitB; simp; try omega
          have hf : namedS s = false := by unfold namedS; rw [charsTo_false s pos s.size hlt hok1]; simp
          go_ret
          exact ⟨by rw [hf]; rfl, HM1.out.below _ _ (by omega) BW.out⟩
        · have hp1 : ((pos : Int) == 0) = false := by simp; omega
          go_wp2_with ((with_reducible refine gate_dst (N := 23) rfl ?_); refine next_event rfl _ rfl g rfl s pos HI.out hlt ?_; rw [← HR.out]; intro w1 hk1 hm1; have HK1 := Aside0.mk hk1; have HM1 := Aside0.mk hm1; clear hk1 hm1) 
          have hok1 : charOk s pos = false := by rw [HOK.out]; unfold letterB digitB; simp; try omega
          have hf : namedS s = false := by unfold namedS; rw [charsTo_false s pos s.size hlt hok1]; simp
          go_ret
          exact ⟨by rw [hf]; rfl, HM1.out.below _ _ (by omega) BW.out⟩
      · have h95 : (r == 95) = false := by simp; omega
        have h90 : decide (r ≤ 90) = false := by simp; omega
        by_cases hp0 : pos = 0
        · have hp1 : ((pos : Int) == 0) = true := by rw [hp0]; rfl
          have HP0 := Aside0.mk hp0
          clear hp0
          go_wp2_with ((with_reducible refine gate_dst (N := 23) rfl ?_); refine next_event rfl _ rfl g rfl s pos HI.out hlt ?_; rw [← HR.out]; intro w1 hk1 hm1; have HK1 := Aside0.mk hk1; have HM1 := Aside0.mk hm1; clear hk1 hm1) 
          have hok1 : charOk s pos = false := by rw [HOK.out]; have hp0 := HP0.out; unfold letterB digitB; simp; try omega
          have hf : namedS s = false := by unfold namedS; rw [charsTo_false s pos s.size hlt hok1]; simp
          go_ret
          exact ⟨by rw [hf]; rfl, HM1.out.below _ _ (by omega) BW.out⟩
        · have hp1 : ((pos : Int) == 0) = false := by simp; omega
          go_wp2_with ((with_reducible refine gate_dst (N := 23) rfl ?_); refine next_event rfl _ rfl g rfl s pos HI.out hlt ?_; rw [← HR.out]; intro w1 hk1 hm1; have HK1 := Aside0.mk hk1; have HM1 := Aside0.mk hm1; clear hk1 hm1) 
          have hok1 : charOk s pos = false := by rw [HOK.out]; unfold letterB digitB; simp; try omega
          have hf : namedS s = false := by unfold namedS; rw [charsTo_false s pos s.size hlt hok1]; simp
          go_ret
          exact ⟨by rw [hf]; rfl, HM1.out.below _ _ (by omega) BW.out⟩
      · by_cases hp0 : pos = 0
        · have hp1 : ((pos : Int) == 0) = true := by rw [hp0]; rfl
          have HP0 := Aside0.mk hp0
          clear hp0
          go_wp2_with ((with_reducible refine gate_dst (N := 23) rfl ?_); refine next_event rfl _ rfl g rfl s pos HI.out hlt ?_; rw [← HR.out]; intro w1 hk1 hm1; have HK1 := Aside0.mk hk1; have HM1 := Aside0.mk hm1; clear hk1 hm1) 
          have hok1 : charOk s pos = false := by rw [HOK.out]; have hp0 := HP0.out; unfold letterB digitB; simp; try omega
          have hf : namedS s = false := by unfold namedS; rw [charsTo_false s pos s.size hlt hok1]; simp
          go_ret
          exact ⟨by rw [hf]; rfl, HM1.out.below _ _ (by omega) BW.out⟩
        · have hp1 : ((pos : Int) == 0) = false := by simp; omega
          go_wp2_with ((with_reducible refine gate_dst (N := 23) rfl ?_); refine next_event rfl _ rfl g rfl s pos HI.out hlt ?_; rw [← HR.out]; intro w1 hk1 hm1; have HK1 := Aside0.mk hk1; have HM1 := Aside0.mk hm1; clear hk1 hm1) 
          have hok1 : charOk s pos = false := by rw [HOK.out]; unfold letterB digitB; simp; try omega
          have hf : namedS s = false := by unfold namedS; rw [charsTo_false s pos s.size hlt hok1]; simp
          go_ret
          exact ⟨by rw [hf]; rfl, HM1.out.below _ _ (by omega) BW.out⟩
      · have h95 : (r == 95) = false := by simp; omega
        have h90 : decide (r ≤ 90) = false := by simp; omega
        have h122 : decide (r ≤ 122) = false := by simp; omega
        by_cases hp0 : pos = 0
        · have hp1 : ((pos : Int) == 0) = true := by rw [hp0]; rfl
          have HP0 := Aside0.mk hp0
          clear hp0
          go_wp2_with ((with_reducible refine gate_dst (N := 23) rfl ?_); refine next_event rfl _ rfl g rfl s pos HI.out hlt ?_; rw [← HR.out]; intro w1 hk1 hm1; have HK1 := Aside0.mk hk1; have HM1 := Aside0.mk hm1; clear hk1 hm1) 
          have hok1 : charOk s pos = false := by rw [HOK.out]; have hp0 := HP0.out; unfold letterB digitB; simp; try omega
          have hf : namedS s = false := by unfold namedS; rw [charsTo_false s pos s.size hlt hok1]; simp
          go_ret
          exact ⟨by rw [hf]; rfl, HM1.out.below _ _ (by omega) BW.out⟩
        · have hp1 : ((pos : Int) == 0) = false := by simp; omega
          go_wp2_with ((with_reducible refine gate_dst (N := 23) rfl ?_); refine next_event rfl _ rfl g rfl s pos HI.out hlt ?_; rw [← HR.out]; intro w1 hk1 hm1; have HK1 := Aside0.mk hk1; have HM1 := Aside0.mk hm1; clear hk1 hm1) 
          have hok1 : charOk s pos = false := by rw [HOK.out]; unfold letterB digitB; simp; try omega
          have hf : namedS s = false := by unfold namedS; rw [charsTo_false s pos s.size hlt hok1]; simp
          go_ret
          exact ⟨by rw [hf]; rfl, HM1.out.below _ _ (by omega) BW.out⟩
    · have e : pos = s.size := by omega
      subst e
      have HF := Aside0.mk (show namedS s = (!s.toList.isEmpty && decide ((s.size : Int) ≤ 40)) from by
        unfold namedS
        rw [HKW.out, HC.out, toList_empty]
        have : decide ((s.size : Int) ≤ 40) = decide (s.size ≤ 40) := by rw [decide_eq_decide]; omega
        rw [this]
        by_cases h : s.size = 0 <;> simp [h])
      go_wp2_with ((with_reducible refine gate_dst (N := 23) rfl ?_); refine next_end rfl _ rfl g rfl s s.size HI.out hlt ?_)
      · rename_i hq
        go_ret
        exact ⟨by rw [HF.out, hq]; rfl, BW.out⟩
      · go_ret
        exact ⟨by rw [HF.out]; rfl, BW.out⟩
end Go.Proofs.Ytiokmnabkccpcaa.Kit
