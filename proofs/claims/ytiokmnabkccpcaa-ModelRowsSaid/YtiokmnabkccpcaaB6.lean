/- Numbers: num.made, num.compare, walked. -/
import Derived.Test.YtiokmnabkccpcaaB5
import Derived.Test.YtiokmnabkccpcaaB2
import Derived.Deep.QuietTactic
import Derived.BigQuiet
set_option linter.unusedVariables false
set_option linter.unusedSimpArgs false
namespace Go.Proofs.Ytiokmnabkccpcaa.Kit
open Go.RowKit Go.Proofs.YtiokmnabkccpcaaW.PrintWords Go.Proofs.YtiokmnabkccpcaaW.PrintLast Go.Proofs.YtiokmnabkccpcaaW.PrintMore
attribute [local go_sem] min2_int min_two max2_int max_two

theorem size_NI : (Try.prog.info? 75).map (·.size) = some 2 := by kernel_rfl

theorem trim_take_last (l : List Int) (n : Nat) (hn : n < l.length) (h : rd l n = 0) : trim (l.take (n + 1)) = trim (l.take n) := by
  have e : l.take (n + 1) = l.take n ++ [0] := by
    rw [List.take_succ_eq_append_getElem hn]
    have : l[n] = 0 := by rw [← h]; simp [rd, List.getD_eq_getElem?_getD, hn]
    rw [this]
  rw [e, trim_snoc_zero]
theorem trim_take_ne (l : List Int) (n : Nat) (hn : n < l.length) (h : rd l n ≠ 0) : trim (l.take (n + 1)) = l.take (n + 1) := by
  have e : l.take (n + 1) = l.take n ++ [rd l n] := by
    rw [List.take_succ_eq_append_getElem hn]
    simp [rd, List.getD_eq_getElem?_getD, hn]
  rw [e, trim_snoc _ _ h]

set_option maxHeartbeats 2000000 in
theorem made_calls (l : List Int) (A : Option Addr) (c : Nat) (neg : Bool) (w : World) (hC : (Kd.int .u32).C w A l.length l) (hl : l.length ≤ c) :
    Calls Try.prog 35 #[.slice A l.length c, .bool neg] w (Gives w (.agg #[.slice A (trim l).length c, .bool (neg && !(trim l).isEmpty)])) := by
  have HC := Aside0.mk hC
  have hlen := hC.2.1
  clear hC
  go_enter Try.func35, Try.ntmps35
  go_wp2_with ((with_reducible refine gate_dst (N := 4) rfl ?_); refine box_event rfl (N := 4) rfl (cs := #[.slice none 0 0, .bool false]) (t := 75) ?hr ?_; (case hr => first | (go_simp; done) | (go_simp; rfl)); intro g4 hg4 w4 hbox4 hb4; have HG4 := Aside0.mk hg4; have HX4 := Aside0.mk hbox4; clear hg4 hbox4)
  simp only [Act.put, List.setIfInBounds_toArray, List.set_cons_succ, List.set_cons_zero]
  go_loopg [0] l.length (fun gg v0 wr => ∃ n : Nat, n ≤ l.length ∧ n ≤ gg ∧ v0 = .slice A n c ∧ Aside0 (trim (l.take n) = trim l) ∧ Aside0 (wr = w4))
  case atStart => exact ⟨l.length, Nat.le_refl _, Nat.le_refl _, rfl, ⟨by rw [List.take_length]⟩, ⟨rfl⟩⟩
  case round =>
    obtain ⟨n, hn, hng, rfl, HT, HW⟩ := hrel
    obtain rfl := HW.out
    by_cases h0 : n = 0
    · subst h0
      have ht : trim l = [] := by rw [← HT.out]; rfl
      have HTT := Aside0.mk ht
      clear ht
      cases neg <;>
      · go_wp2_with (((with_reducible refine gate_store (p := 4) rfl ?_); refine store_row_event rfl rfl 75 _ _ rfl g4 #[.slice A 0 c, .bool false] rfl rfl 75 _ HX4.out size_NI rfl rfl ?_; intro w5 hx5 hw5; have HX5 := Aside0.mk hx5; have HW5 := Aside0.mk hw5; clear hx5 hw5))
        refine bodyPost_ret (results_cell_row rfl _ _ g4 75 _ (0, 0) _ rfl HX5.out Try.underlying75 rfl size_NI) rfl ?_
        refine ⟨by rw [HTT.out]; rfl, HW5.out.below _ _ (by have := HG4.out; omega) hb4⟩
    · obtain ⟨n, rfl⟩ : ∃ m, n = m + 1 := ⟨n - 1, by omega⟩
      obtain ⟨ad, e, hc⟩ := C_int_at HC.out n (by omega)
      subst e
      have hc4 := (hb4.cell (World.block_lt_of_cell? w _ hc)).trans hc
      clear hc
      by_cases hz : rd l n = 0
      · rw [hz] at hc4
        have HZ := Aside0.mk hz
        clear hz
        go_wp2_with fail
        go_roundg n
        case measure => omega
        case rel => exact ⟨n, by omega, Nat.le_refl _, by first | rfl | go_num, ⟨by rw [← HT.out, trim_take_last l n (by omega) HZ.out]⟩, ⟨rfl⟩⟩
      · have hz' : (rd l n == 0) = false := by simpa using hz
        have HTT := Aside0.mk (show trim l = l.take (n + 1) from by rw [← HT.out, trim_take_ne l n (by omega) hz])
        have HTL := Aside0.mk (show (trim l).length = n + 1 from by rw [HTT.out, List.length_take]; omega)
        have HTE := Aside0.mk (show (trim l).isEmpty = false from by cases h : trim l with | nil => (have := HTL.out; rw [h] at this; simp at this) | cons => rfl)
        clear hz
        cases neg with
        | true =>
          go_wp2_with (((with_reducible refine gate_store (p := 4) rfl ?_); refine store_row_event rfl rfl 75 _ _ rfl g4 #[.slice (some ad) (n + 1) c, .bool true] rfl rfl 75 _ HX4.out size_NI rfl rfl ?_; intro w5 hx5 hw5; have HX5 := Aside0.mk hx5; have HW5 := Aside0.mk hw5; clear hx5 hw5))
          refine bodyPost_ret (results_cell_row rfl _ _ g4 75 _ (0, 0) _ rfl HX5.out Try.underlying75 rfl size_NI) rfl ?_
          exact ⟨by rw [HTL.out, HTE.out]; rfl, HW5.out.below _ _ (by have := HG4.out; omega) hb4⟩
        | false =>
          go_wp2_with (((with_reducible refine gate_store (p := 4) rfl ?_); refine store_row_event rfl rfl 75 _ _ rfl g4 #[.slice (some ad) (n + 1) c, .bool false] rfl rfl 75 _ HX4.out size_NI rfl rfl ?_; intro w5 hx5 hw5; have HX5 := Aside0.mk hx5; have HW5 := Aside0.mk hw5; clear hx5 hw5))
          refine bodyPost_ret (results_cell_row rfl _ _ g4 75 _ (0, 0) _ rfl HX5.out Try.underlying75 rfl size_NI) rfl ?_
          exact ⟨by rw [HTL.out], HW5.out.below _ _ (by have := HG4.out; omega) hb4⟩

/-- How two rows of digits compare. -/
def cmpS (a b : Int) : Int := if a < b then -1 else if b < a then 1 else 0
theorem val_lt_len {a b : List Int} (ha : Norm a) (hb : Norm b) (h : a.length < b.length) : val a < val b := by
  have h1 := val_lt_pow ha.1
  have h2 := hb.pow_le (by rintro rfl; simp at h)
  have h3 : (4294967296 : Int) ^ a.length ≤ 4294967296 ^ (b.length - 1) := by
    have : (4294967296 : Nat) ^ a.length ≤ 4294967296 ^ (b.length - 1) := Nat.pow_le_pow_right (by omega) (by omega)
    rw [show (4294967296 : Int) = ((4294967296 : Nat) : Int) from rfl, ← Int.natCast_pow, ← Int.natCast_pow]
    exact Int.ofNat_le.2 this
  omega
/-- From the top down: equal so far. -/
theorem val_split (l : List Int) (n : Nat) (hn : n ≤ l.length) : val l = val (l.take n) + 4294967296 ^ n * val (l.drop n) := by
  conv => lhs; rw [← List.take_append_drop n l]
  rw [val_append, List.length_take, Nat.min_eq_left hn]
theorem drop_rd (l : List Int) (n : Nat) (hn : n < l.length) : l.drop n = rd l n :: l.drop (n + 1) := by
  rw [List.drop_eq_getElem_cons hn]
  simp [rd, List.getD_eq_getElem?_getD, hn]
theorem val_top_lt {a b : List Int} (ha : Digs a) (hb : Digs b) (n : Nat) (h1 : n < a.length) (h2 : n < b.length) (ht : a.drop (n + 1) = b.drop (n + 1)) (h : rd a n < rd b n) : val a < val b := by
  rw [val_split a (n + 1) h1, val_split b (n + 1) h2, ht, val_take_succ a n h1, val_take_succ b n h2]
  have e1 := val_lt_pow (ha.take n)
  have e2 := val_nonneg (hb.take n)
  rw [List.length_take, Nat.min_eq_left (by omega)] at e1
  have hp : (0 : Int) < 4294967296 ^ n := Int.pow_pos (by omega)
  have : (4294967296 : Int) ^ n * rd a n + 4294967296 ^ n ≤ 4294967296 ^ n * rd b n := by
    have : (4294967296 : Int) ^ n * (rd a n + 1) ≤ 4294967296 ^ n * rd b n := Int.mul_le_mul_of_nonneg_left (by omega) (Int.le_of_lt hp)
    rw [Int.mul_add, Int.mul_one] at this
    exact this
  omega

set_option maxHeartbeats 2000000 in
theorem compare_calls (a b : List Int) (A B : Option Addr) (c d : Nat) (w : World) (hA : (Kd.int .u32).C w A a.length a) (hB : (Kd.int .u32).C w B b.length b) (ha : Norm a) (hb : Norm b) :
    Calls Try.prog 56 #[.slice A a.length c, .slice B b.length d] w (Gives w (.int .i64 (cmpS (val a) (val b)))) := by
  have HA := Aside0.mk hA
  have HB := Aside0.mk hB
  have NA := Aside0.mk ha
  have NB := Aside0.mk hb
  have la := hA.2.1
  have lb := hB.2.1
  clear hA hB ha hb
  by_cases hlen : a.length = b.length
  · have hne : ((a.length : Int) != (b.length : Int)) = false := by simp [hlen]
    have HL := Aside0.mk hlen
    clear hlen
    go_enter Try.func56, Try.ntmps56
    go_wp2
    go_loopg [5] a.length (fun gg v5 wr => ∃ (n : Nat) (k : Int), n ≤ a.length ∧ n ≤ gg ∧ v5 = .int .i64 k ∧ -1 ≤ k ∧ k + 1 ≤ n ∧ n ≤ k + 1 ∧ Aside0 (a.drop n = b.drop n) ∧ Aside0 (Below w.heap.size w wr))
    case atStart => exact ⟨a.length, (a.length : Int) - 1, Nat.le_refl _, Nat.le_refl _, rfl, by omega, by omega, by omega, ⟨by have := HL.out; rw [List.drop_length, this, List.drop_length]⟩, ⟨Below.refl _ _⟩⟩
    case round =>
      obtain ⟨n, k, hn, hng, rfl, hk0, hk1, hk2, HD, BW⟩ := hrel
      by_cases h0 : n = 0
      · have HF := Aside0.mk (show cmpS (val a) (val b) = 0 from by
          have := HD.out
          rw [h0, List.drop_zero, List.drop_zero] at this
          rw [this]; unfold cmpS; simp)
        have hk : k < 0 := by omega
        clear h0
        go_wp2
        go_ret
        exact ⟨by rw [HF.out]; rfl, BW.out⟩
      · obtain ⟨m, hm⟩ : ∃ m, n = m + 1 := ⟨n - 1, by omega⟩
        obtain rfl : k = (m : Int) := by omega
        have HM := Aside0.mk hm
        have hma : m < a.length := by omega
        have hmb : m < b.length := by have := HL.out; omega
        clear hm h0
        obtain ⟨ad, e1, hc1⟩ := C_int_at HA.out m hma
        obtain ⟨bd, e2, hc2⟩ := C_int_at HB.out m hmb
        subst e1
        subst e2
        replace hc1 := (BW.out.cell (World.block_lt_of_cell? w _ hc1)).trans hc1
        replace hc2 := (BW.out.cell (World.block_lt_of_cell? w _ hc2)).trans hc2
        have hk : (m : Int) < (a.length : Int) := by omega
        have hk' : (m : Int) < (b.length : Int) := by omega
        rcases Int.lt_trichotomy (rd a m) (rd b m) with h | h | h
        · have hb1 : decide (rd a (m : Int) < rd b (m : Int)) = true := decide_eq_true h
          have HF := Aside0.mk (show cmpS (val a) (val b) = -1 from by
            have := HD.out
            rw [HM.out] at this
            have := val_top_lt NA.out.1 NB.out.1 m hma hmb this h
            unfold cmpS; rw [if_pos this])
          clear h
          go_wp2
          go_quiet (fail)
          go_wp2
          go_ret
          exact ⟨by rw [HF.out]; rfl, by repeat (first | exact BW.out | apply pw_below_drewN)⟩
        · have hb1 : decide (rd a (m : Int) < rd b (m : Int)) = false := decide_eq_false (by omega)
          have hb2 : decide (rd b (m : Int) < rd a (m : Int)) = false := decide_eq_false (by omega)
          have HE := Aside0.mk h
          clear h
          go_wp2
          go_quiet (fail)
          go_wp2
          go_quiet (fail)
          go_wp2
          go_roundg m
          case measure => omega
          case rel =>
            refine ⟨m, (m : Int) - 1, by omega, Nat.le_refl _, by first | rfl | go_num, by omega, by omega, by omega, ⟨?_⟩, ⟨by repeat (first | exact BW.out | apply pw_below_drewN)⟩⟩
            have := HD.out
            rw [HM.out] at this
            rw [drop_rd a m hma, drop_rd b m hmb, this, HE.out]
        · have hb1 : decide (rd a (m : Int) < rd b (m : Int)) = false := decide_eq_false (by omega)
          have hb2 : decide (rd b (m : Int) < rd a (m : Int)) = true := decide_eq_true h
          have HF := Aside0.mk (show cmpS (val a) (val b) = 1 from by
            have := HD.out
            rw [HM.out] at this
            have := val_top_lt NB.out.1 NA.out.1 m hmb hma this.symm h
            unfold cmpS; rw [if_neg (by omega), if_pos this])
          clear h
          go_wp2
          go_quiet (fail)
          go_wp2
          go_quiet (fail)
          go_wp2
          go_ret
          exact ⟨by rw [HF.out]; rfl, by repeat (first | exact BW.out | apply pw_below_drewN)⟩
  · have hne : ((a.length : Int) != (b.length : Int)) = true := by simp; omega
    by_cases hlt : a.length < b.length
    · have HF := Aside0.mk (show cmpS (val a) (val b) = -1 from by
        have := val_lt_len NA.out NB.out hlt
        unfold cmpS; rw [if_pos this])
      clear hlen
      go_enter Try.func56, Try.ntmps56
      go_wp2
      all_goals
        go_ret
        exact ⟨by first | (rw [HF.out]; rfl) | (rw [HF.out]; exact congrArg (fun z : Int => Ending.returned (.int .i64 z)) (by omega)), Below.refl _ _⟩
    · have HF := Aside0.mk (show cmpS (val a) (val b) = 1 from by
        have := val_lt_len NB.out NA.out (by omega)
        unfold cmpS; rw [if_neg (by omega), if_pos this])
      have hgt : b.length < a.length := by omega
      clear hlen hlt
      go_enter Try.func56, Try.ntmps56
      go_wp2
      all_goals
        go_ret
        exact ⟨by first | (rw [HF.out]; rfl) | (rw [HF.out]; exact congrArg (fun z : Int => Ending.returned (.int .i64 z)) (by omega)), Below.refl _ _⟩
end Go.Proofs.Ytiokmnabkccpcaa.Kit
