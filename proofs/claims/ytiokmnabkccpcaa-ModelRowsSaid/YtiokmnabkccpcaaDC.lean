/- The law's closure that tells a small number's text. -/
import Derived.Test.YtiokmnabkccpcaaDB
set_option linter.unusedVariables false
set_option linter.unusedSimpArgs false
namespace Go.Proofs.Ytiokmnabkccpcaa.Kit
open Go.RowKit Go.Proofs.YtiokmnabkccpcaaW.PrintWords Go.Proofs.YtiokmnabkccpcaaW.PrintLast Go.Proofs.YtiokmnabkccpcaaW.PrintMore

def digsM (K : Nat) : Nat → List Int
  | 0 => []
  | j + 1 => (48 + (((K / 10 ^ j) % 10 : Nat) : Int)) :: digsM K j
def okD (K j : Nat) : Bool := !(decide (0 < j) && decide (K / 10 ^ j = 0) && (List.range j).all (fun i => decide (i = 0) || decide (K / 10 ^ i ≠ 0))) || ((decN K).reverse == digsM K j)
theorem okD_all : ((List.range 129).all fun K => (List.range 4).all (okD K)) = true := by kernel_rfl
theorem digsM_dec (K : Nat) (hK : K < 129) (j : Nat) (hj : j < 4) (h0 : 0 < j) (hz : K / 10 ^ j = 0) (hb : ∀ i, i < j → 0 < i → K / 10 ^ i ≠ 0) : (decN K).reverse = digsM K j := by
  have h := List.all_eq_true.1 (List.all_eq_true.1 okD_all K (List.mem_range.2 hK)) j (List.mem_range.2 hj)
  unfold okD at h
  have h1 : (List.range j).all (fun i => decide (i = 0) || decide (K / 10 ^ i ≠ 0)) = true := by
    refine List.all_eq_true.2 fun i hi => ?_
    rw [List.mem_range] at hi
    rcases Nat.eq_zero_or_pos i with e | e
    · simp [e]
    · have := hb i hi e
      simp [this]
  rw [h1, decide_eq_true h0, decide_eq_true hz] at h
  simpa using h
theorem digsM_three (K : Nat) (hK : K < 129) : K / 10 ^ 3 = 0 := by omega
theorem strs_size (l : List Int) : (strOfNums l).size = l.length := by simp [strOfNums, ByteArray.size]
theorem digsM_len (K j : Nat) : (digsM K j).length = j := by
  induction j with
  | zero => rfl
  | succ j ih => rw [digsM, List.length_cons, ih]
theorem strs_cons (K j k : Nat) (h : k = K / 10 ^ j) : strOfNums [48 + (k : Int) % 10] ++ strOfNums (digsM K j) = strOfNums (digsM K (j + 1)) := by
  rw [digsM, ← h]
  have e : (((k % 10 : Nat)) : Int) = (k : Int) % 10 := by omega
  rw [e]
  have hd : (strOfNums [48 + (k : Int) % 10] ++ strOfNums (digsM K j)).data = (strOfNums ((48 + (k : Int) % 10) :: digsM K j)).data := by
    simp [strOfNums, ByteArray.data_append]
  exact ByteArray.ext hd
theorem ten_cut (s : ByteArray) (d : Nat) (h : d < 10) : (⟨#[48, 49, 50, 51, 52, 53, 54, 55, 56, 57]⟩ : ByteArray).extract d (d + 1) = strOfNums [48 + (d : Int)] := by
  have : d = 0 ∨ d = 1 ∨ d = 2 ∨ d = 3 ∨ d = 4 ∨ d = 5 ∨ d = 6 ∨ d = 7 ∨ d = 8 ∨ d = 9 := by omega
  rcases this with h | h | h | h | h | h | h | h | h | h <;> subst h <;> rfl
theorem decS_nonneg (K : Nat) : decS K = strOfNums (decN K).reverse := by
  unfold decS
  rw [if_neg (by omega)]
  rfl
theorem decS_neg (K : Nat) (h : 0 < K) : decS (-(K : Int)) = strOfNums (45 :: (decN K).reverse) := by
  unfold decS
  rw [if_pos (by omega)]
  simp
set_option maxHeartbeats 4000000 in
theorem text_nonneg (K : Nat) (hK : K < 128) (w : World) : Calls Try.prog 5 #[.int .i8 K] w (Gives w (.string (decS K))) := by
  go_enter Try.func5, Try.ntmps5
  go_wp2
  go_loopg [3, 4, 15] 4 (fun gg v3 v4 _ wr => ∃ (j k : Nat) (s : ByteArray), j ≤ 3 ∧ 4 - j ≤ gg ∧ k < 129 ∧ v4 = .int .i64 k ∧ v3 = .string s ∧ Aside0 (k = K / 10 ^ j ∧ s = strOfNums (digsM K j) ∧ ∀ i, i < j → 0 < i → K / 10 ^ i ≠ 0) ∧ Aside0 (Below w.heap.size w wr))
  case atStart => exact ⟨0, K, _, by omega, by omega, by omega, rfl, rfl, ⟨by simp, rfl, fun i hi => absurd hi (Nat.not_lt_zero _)⟩, ⟨Below.refl _ _⟩⟩
  case round =>
    obtain ⟨j, k, s, hj, hgg, hk, rfl, rfl, HJ, BW⟩ := hrel
    have hsz : s.size ≤ 10 := by
      rw [HJ.out.2.1, strs_size, digsM_len]
      omega
    have hz1 : (strOfNums [48 + (k : Int) % 10]).size = 1 := strs_size _
    by_cases hgo : 0 < k ∨ j = 0
    · have hj3 : j < 3 := by
        rcases hgo with h | h
        · refine Classical.byContradiction fun hn => ?_
          have e : j = 3 := by omega
          have := HJ.out.1
          rw [e, digsM_three K (by omega)] at this
          omega
        · omega
      have hm1 : k % 10 < 10 := Nat.mod_lt _ (by omega)
      have hcut := ten_cut ⟨#[]⟩ (k % 10) hm1
      have HP := Aside0.mk (show 0 < k ∨ j = 0 from hgo)
      clear hgo
      by_cases hpos : 0 < k
      · have hp1 : decide ((0 : Int) < (k : Int)) = true := decide_eq_true (by omega)
        go_wp2
        go_roundg (4 - (j + 1))
        case measure => omega
        case rel =>
          refine ⟨j + 1, k / 10, strOfNums [48 + (k : Int) % 10] ++ s, by omega, Nat.le_refl _, by omega, by go_num, rfl, ⟨?_, ?_, ?_⟩, BW⟩
          · rw [HJ.out.1, Nat.div_div_eq_div_mul, Nat.pow_succ]
          · rw [HJ.out.2.1]
            exact strs_cons K j k HJ.out.1
          · intro i hi hi0
            by_cases e : i = j
            · rw [e, ← HJ.out.1]; have := HP.out; omega
            · exact HJ.out.2.2 i (by omega) hi0
      · have hp1 : decide ((0 : Int) < (k : Int)) = false := decide_eq_false (by omega)
        have he : s.toList.isEmpty = true := by
          have : j = 0 := HP.out.resolve_left hpos
          rw [HJ.out.2.1, this]
          rw [toList_empty]
          rfl
        go_wp2
        go_roundg (4 - (j + 1))
        case measure => omega
        case rel =>
          refine ⟨j + 1, k / 10, strOfNums [48 + (k : Int) % 10] ++ s, by omega, Nat.le_refl _, by omega, by go_num, rfl, ⟨?_, ?_, ?_⟩, BW⟩
          · rw [HJ.out.1, Nat.div_div_eq_div_mul, Nat.pow_succ]
          · rw [HJ.out.2.1]
            exact strs_cons K j k HJ.out.1
          · intro i hi hi0
            by_cases e : i = j
            · rw [e, ← HJ.out.1]; have := HP.out; omega
            · exact HJ.out.2.2 i (by omega) hi0
    · have hk0 : k = 0 := by omega
      have hj0 : 0 < j := by omega
      have he : s.toList.isEmpty = false := by
        rw [toList_empty, HJ.out.2.1, strs_size, digsM_len]
        exact decide_eq_false (by omega)
      have HF := Aside0.mk (show s = decS K from by
        rw [HJ.out.2.1, decS_nonneg, digsM_dec K (by omega) j (by omega) hj0 (by rw [← HJ.out.1]; exact hk0) HJ.out.2.2])
      have hn0 : decide ((K : Int) < 0) = false := decide_eq_false (by omega)
      clear hgo hj0
      subst hk0
      go_wp2
      go_ret
      exact ⟨by rw [HF.out]; rfl, BW.out⟩
set_option maxHeartbeats 4000000 in
theorem text_neg (K : Nat) (h0 : 0 < K) (hK : K < 129) (w : World) : Calls Try.prog 5 #[.int .i8 (-(K : Int))] w (Gives w (.string (decS (-(K : Int))))) := by
  have hng : decide (-(K : Int) < 0) = true := decide_eq_true (by omega)
  go_enter Try.func5, Try.ntmps5
  go_wp2
  go_loopg [3, 4, 15] 4 (fun gg v3 v4 _ wr => ∃ (j k : Nat) (s : ByteArray), j ≤ 3 ∧ 4 - j ≤ gg ∧ k < 129 ∧ v4 = .int .i64 k ∧ v3 = .string s ∧ Aside0 (k = K / 10 ^ j ∧ s = strOfNums (digsM K j) ∧ ∀ i, i < j → 0 < i → K / 10 ^ i ≠ 0) ∧ Aside0 (Below w.heap.size w wr))
  case atStart => exact ⟨0, K, _, by omega, by omega, by omega, rfl, rfl, ⟨by simp, rfl, fun i hi => absurd hi (Nat.not_lt_zero _)⟩, ⟨Below.refl _ _⟩⟩
  case round =>
    obtain ⟨j, k, s, hj, hgg, hk, rfl, rfl, HJ, BW⟩ := hrel
    have hsz : s.size ≤ 10 := by
      rw [HJ.out.2.1, strs_size, digsM_len]
      omega
    have hz1 : (strOfNums [48 + (k : Int) % 10]).size = 1 := strs_size _
    by_cases hgo : 0 < k ∨ j = 0
    · have hj3 : j < 3 := by
        rcases hgo with h | h
        · refine Classical.byContradiction fun hn => ?_
          have e : j = 3 := by omega
          have := HJ.out.1
          rw [e, digsM_three K (by omega)] at this
          omega
        · omega
      have hm1 : k % 10 < 10 := Nat.mod_lt _ (by omega)
      have hcut := ten_cut ⟨#[]⟩ (k % 10) hm1
      have HP := Aside0.mk (show 0 < k ∨ j = 0 from hgo)
      clear hgo
      by_cases hpos : 0 < k
      · have hp1 : decide ((0 : Int) < (k : Int)) = true := decide_eq_true (by omega)
        go_wp2
        go_roundg (4 - (j + 1))
        case measure => omega
        case rel =>
          refine ⟨j + 1, k / 10, strOfNums [48 + (k : Int) % 10] ++ s, by omega, Nat.le_refl _, by omega, by go_num, rfl, ⟨?_, ?_, ?_⟩, BW⟩
          · rw [HJ.out.1, Nat.div_div_eq_div_mul, Nat.pow_succ]
          · rw [HJ.out.2.1]
            exact strs_cons K j k HJ.out.1
          · intro i hi hi0
            by_cases e : i = j
            · rw [e, ← HJ.out.1]; have := HP.out; omega
            · exact HJ.out.2.2 i (by omega) hi0
      · have hp1 : decide ((0 : Int) < (k : Int)) = false := decide_eq_false (by omega)
        have he : s.toList.isEmpty = true := by
          have : j = 0 := HP.out.resolve_left hpos
          rw [HJ.out.2.1, this]
          rw [toList_empty]
          rfl
        go_wp2
        go_roundg (4 - (j + 1))
        case measure => omega
        case rel =>
          refine ⟨j + 1, k / 10, strOfNums [48 + (k : Int) % 10] ++ s, by omega, Nat.le_refl _, by omega, by go_num, rfl, ⟨?_, ?_, ?_⟩, BW⟩
          · rw [HJ.out.1, Nat.div_div_eq_div_mul, Nat.pow_succ]
          · rw [HJ.out.2.1]
            exact strs_cons K j k HJ.out.1
          · intro i hi hi0
            by_cases e : i = j
            · rw [e, ← HJ.out.1]; have := HP.out; omega
            · exact HJ.out.2.2 i (by omega) hi0
    · have hk0 : k = 0 := by omega
      have hj0 : 0 < j := by omega
      have he : s.toList.isEmpty = false := by
        rw [toList_empty, HJ.out.2.1, strs_size, digsM_len]
        exact decide_eq_false (by omega)
      have HF := Aside0.mk (show (⟨#[45]⟩ : ByteArray) ++ s = decS (-(K : Int)) from by
        rw [HJ.out.2.1, decS_neg K h0, digsM_dec K (by omega) j (by omega) hj0 (by rw [← HJ.out.1]; exact hk0) HJ.out.2.2]
        exact ByteArray.ext (by simp [strOfNums, ByteArray.data_append]))
      clear hgo hj0
      subst hk0
      go_wp2
      go_ret
      exact ⟨by rw [HF.out]; rfl, BW.out⟩
theorem text_calls (n : Int) (h0 : -128 ≤ n) (h1 : n ≤ 127) (w : World) : Calls Try.prog 5 #[.int .i8 n] w (Gives w (.string (decS n))) := by
  by_cases h : 0 ≤ n
  · obtain ⟨K, rfl⟩ := Int.eq_ofNat_of_zero_le h
    exact text_nonneg K (by omega) w
  · obtain ⟨K, hK⟩ : ∃ K : Nat, n = -(K : Int) := ⟨n.natAbs, by omega⟩
    subst hK
    exact text_neg K (by omega) (by omega) w
def okP (n : Int) : Bool := parseS (decS n) == some n && decide ((decS n).size ≤ 4)
theorem okP_all : ((List.range 256).all fun K => okP ((K : Int) - 128)) = true := by kernel_rfl
theorem okP_at (n : Int) (h0 : -128 ≤ n) (h1 : n ≤ 127) : parseS (decS n) = some n ∧ (decS n).size ≤ 4 := by
  have h := List.all_eq_true.1 okP_all (n + 128).toNat (List.mem_range.2 (by omega))
  rw [show (((n + 128).toNat : Nat) : Int) - 128 = n by omega] at h
  unfold okP at h
  simpa using h
end Go.Proofs.Ytiokmnabkccpcaa.Kit
