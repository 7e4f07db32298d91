/- Numbers: num.grown, walked. -/
import Derived.Test.YtiokmnabkccpcaaB7
set_option linter.unusedVariables false
set_option linter.unusedSimpArgs false
namespace Go.Proofs.Ytiokmnabkccpcaa.Kit
open Go.RowKit Go.Proofs.YtiokmnabkccpcaaW.PrintWords Go.Proofs.YtiokmnabkccpcaaW.PrintLast Go.Proofs.YtiokmnabkccpcaaW.PrintMore
attribute [local go_sem] min2_int min_two max2_int max_two

/-- A row of the caller's is written on, and handed back. -/
def GivesOn (base : Nat) (w0 w : World) (v : Value) (p : List Int → Prop) : Ending → World → Prop := fun e w' => ∃ (v1 : Value) (ys : List Int), e = .returned v1 ∧ w'.ownsRow base 102 1 v1 ys.length (nums .u32 ys) ∧ p ys ∧ Below base w0 w' ∧ w.grownBy w' v.ownBlock ∧ (v1.ownBlock = v.ownBlock ∨ ∃ b, v1.ownBlock = some b ∧ w.heap.size ≤ b)

theorem grown_step {B T c c' m0 m x y : Int} (h : c + B * m = c' * T + m0) (hy : y = m + x * T) : c + B * (y % 4294967296) + B * 4294967296 * (y / 4294967296) = (c' + B * x) * T + m0 := by
  have e : y % 4294967296 + 4294967296 * (y / 4294967296) = y := Int.emod_add_mul_ediv y _
  have : B * (y % 4294967296) + B * 4294967296 * (y / 4294967296) = B * y := by
    rw [Int.mul_assoc, ← Int.mul_add, e]
  have e2 : B * y = B * m + B * x * T := by rw [hy, Int.mul_add, Int.mul_assoc]
  rw [Int.add_mul]
  omega

theorem set_take_succ (l : List Int) (i : Nat) (y : Int) (h : i < l.length) : (l.set i y).take (i + 1) = l.take i ++ [y] := by
  rw [List.take_succ_eq_append_getElem (by simpa using h), List.take_set_of_le (Nat.le_refl _)]
  simp
theorem set_drop (l : List Int) (i : Nat) (y : Int) : (l.set i y).drop (i + 1) = l.drop (i + 1) := by
  rw [List.drop_set]; simp
theorem Digs.set {l : List Int} (h : Digs l) (i : Nat) (y : Int) (h0 : 0 ≤ y) (h1 : y < 4294967296) : Digs (l.set i y) := fun x hx => by
  rcases List.mem_or_eq_of_mem_set hx with hx | rfl
  · exact h x hx
  · exact ⟨h0, h1⟩

set_option maxHeartbeats 4000000 in
set_option maxRecDepth 100000 in
theorem grown_calls (base : Nat) (w0 w : World) (v : Value) (xs : List Int) (T m0 : Int) (HO : w.ownsRow base 102 1 v xs.length (nums .u32 xs)) (HB : Below base w0 w) (hbase : base ≤ w.heap.size) (hx : Digs xs) (hlen : xs.length ≤ 1099511627776)
    (hT0 : 0 ≤ T) (hT1 : T ≤ 1000000000) (hm0 : 0 ≤ m0) (hm1 : m0 ≤ 2000000000) :
    Calls Try.prog 34 #[v, .int .u64 T, .int .u64 m0] w (GivesOn base w0 w v fun ys => Digs ys ∧ val ys = val xs * T + m0 ∧ ys.length ≤ xs.length + 1) := by
  have HO0 := Aside0.mk HO
  have HB0 := Aside0.mk HB
  have HX := Aside0.mk hx
  clear HO HB hx
  obtain ⟨A, c, rfl⟩ := own_slice HO0.out
  have hg0 := Aside0.mk (World.grownBy.refl w (Value.slice A xs.length c).ownBlock)
  go_enter Try.func34, Try.ntmps34
  go_wp2
  go_loopg [2, 11] xs.length (fun gg v2 v11 wr => ∃ (i : Nat) (m : Int) (cur : List Int), i ≤ xs.length ∧ xs.length - i ≤ gg ∧ v11 = .int .i64 i ∧ v2 = .int .u64 m ∧ 0 ≤ m ∧ m ≤ 2000000000 ∧
    Aside0 (cur.length = xs.length ∧ Digs cur ∧ cur.drop i = xs.drop i ∧ val (cur.take i) + 4294967296 ^ i * m = val (xs.take i) * T + m0) ∧ Aside0 (wr.ownsRow base 102 1 (.slice A xs.length c) xs.length (nums .u32 cur)) ∧ Aside0 (Below base w0 wr) ∧ Aside0 (w.grownBy wr (Value.slice A xs.length c).ownBlock))
  case atStart => exact ⟨0, m0, xs, Nat.zero_le _, by omega, rfl, rfl, hm0, hm1, ⟨rfl, HX.out, rfl, by simp [val]⟩, HO0, HB0, hg0⟩
  case round =>
    obtain ⟨i, m, cur, hi, hgg, rfl, rfl, hn0, hn1, HS, HO, BW, GW⟩ := hrel
    by_cases hlt : i < xs.length
    · obtain ⟨g, cap, hv, hgb, hgl⟩ := HO.out.form (by omega)
      injection hv with hv1 _ hv2
      subst hv1 hv2
      obtain ⟨hc1, hf1⟩ := own_at HO.out (i : Int) (by omega) (by omega)
      rw [show ((i : Int)).toNat = i from rfl] at hc1 hf1
      obtain ⟨x0, x1⟩ := HS.out.2.1.at_ i (by rw [HS.out.1]; exact hlt)
      obtain ⟨x, hx⟩ : ∃ x, x = rd cur (i : Int) := ⟨_, rfl⟩
      rw [← hx] at hc1 x0 x1
      have HXX := Aside0.mk hx
      clear hx
      have hy1 : 0 ≤ x * T ∧ x * T ≤ 4294967295 * 1000000000 := ⟨Int.mul_nonneg x0 hT0, Int.le_trans (Int.mul_le_mul_of_nonneg_left hT1 x0) (Int.mul_le_mul_of_nonneg_right (by omega) (by omega))⟩
      obtain ⟨p, hp⟩ : ∃ p, p = x * T := ⟨_, rfl⟩
      rw [← hp] at hy1
      obtain ⟨hp0, hp1⟩ := hy1
      have HP := Aside0.mk hp
      have hw1 : IntKind.u64.wrap (x * T) = p := by rw [← hp]; exact IntWalk.u64_in _ ⟨by omega, by omega⟩
      clear hp
      go_wp2_with fail
      go_roundg (xs.length - (i + 1))
      case measure => omega
      case rel =>
        obtain ⟨hs1, hs2⟩ := own_store HO.out (i : Int) ((m + p) % 4294967296)
        rw [show ((i : Int)).toNat = i from rfl] at hs1 hs2
        obtain ⟨s1, s2, s3, s4⟩ := HS.out
        refine ⟨i + 1, _, cur.set i ((m + p) % 4294967296), by omega, by omega, by go_num, rfl, by omega, by omega, ⟨by rw [List.length_set, s1], s2.set i _ (by omega) (by omega), ?_, ?_⟩, ⟨hs1⟩, ⟨BW.out.setCell hgb _⟩, ⟨GW.out.trans hs2⟩⟩
        · rw [set_drop]
          have := congrArg (List.drop 1) s3
          rw [List.drop_drop, List.drop_drop] at this
          exact this
        · have e : rd xs (i : Int) = x := by
            rw [HXX.out]
            have := congrArg (fun l => l.getD 0 0) s3
            simpa [rd, List.getD_eq_getElem?_getD, List.getElem?_drop] using this.symm
          rw [set_take_succ _ _ _ (by rw [s1]; exact hlt), val_snoc, List.length_take, Nat.min_eq_left (by rw [s1]; omega), val_take_succ xs i hlt, Int.pow_succ, e]
          exact grown_step s4 (by rw [HP.out])
    · have hi' : i = xs.length := by omega
      have HI := Aside0.mk hi'
      have HV := Aside0.mk (show val cur + 4294967296 ^ xs.length * m = val xs * T + m0 from by
        obtain ⟨s1, s2, s3, s4⟩ := HS.out
        rw [hi', List.take_length, List.take_of_length_le (by omega)] at s4
        exact s4)
      clear hi'
      by_cases hm : 0 < m
      · have hlc := HS.out.1
        have HO' := Aside0.mk (show wr.ownsRow base 102 1 (.slice A xs.length c) cur.length (nums .u32 cur) from by rw [hlc]; exact HO.out)
        have HLC := Aside0.mk hlc
        clear hlc
        go_wp2_with ((with_reducible refine gate_dst (N := 36) rfl ?_); refine print_append_num (w0 := w0) base rfl _ _ 73 102 .u32 4 rfl Try.underlying73 info_u32 (by decide) (.slice A xs.length c) cur _ rfl rfl HO'.out BW.out (Nat.le_trans hbase GW.out.size) ?hl ?_; (case hl => have := HLC.out; omega); intro v1 w1 hown hb1 hg1 hat1; have HO1 := Aside0.mk hown; have HB1 := Aside0.mk hb1; have HG1 := Aside0.mk hg1; have HA1 := Aside0.mk hat1; clear hown hb1 hg1 hat1)
        go_ret
        refine ⟨v1, cur ++ [m], rfl, HO1.out, ⟨HS.out.2.1.snoc (by omega) (by omega), by rw [val_snoc, HLC.out]; exact HV.out, by rw [List.length_append, HLC.out]; simp⟩, HB1.out, GW.out.trans HG1.out, ?_⟩
        rcases HA1.out with h | ⟨b, h1, h2⟩
        · exact .inl h
        · exact .inr ⟨b, h1, Nat.le_trans GW.out.size h2⟩
      · have hm0' : m ≤ 0 := by omega
        have HMZ := Aside0.mk (show m = 0 by omega)
        go_wp2
        go_ret
        refine ⟨_, cur, rfl, by rw [HS.out.1]; exact HO.out, ⟨HS.out.2.1, by have := HV.out; rw [HMZ.out] at this; omega, by rw [HS.out.1]; omega⟩, BW.out, GW.out, .inl rfl⟩
end Go.Proofs.Ytiokmnabkccpcaa.Kit
