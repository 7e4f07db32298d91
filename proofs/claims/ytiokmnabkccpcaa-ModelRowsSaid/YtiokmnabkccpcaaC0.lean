/- Numbers as text: slices.Reverse of bytes. -/
import Derived.Test.YtiokmnabkccpcaaBj
import Derived.RegionTactic
set_option linter.unusedVariables false
set_option linter.unusedSimpArgs false
namespace Go.Proofs.Ytiokmnabkccpcaa.Kit
open Go.RowKit Go.Proofs.YtiokmnabkccpcaaW.PrintWords Go.Proofs.YtiokmnabkccpcaaW.PrintLast Go.Proofs.YtiokmnabkccpcaaW.PrintMore

def RevTo (xs cur : List Int) (i : Nat) : Prop := cur.length = xs.length ∧ ∀ k, k < xs.length → cur.getD k 0 = if k < i ∨ xs.length - 1 - i < k then xs.getD (xs.length - 1 - k) 0 else xs.getD k 0
theorem RevTo.zero (xs : List Int) : RevTo xs xs 0 := ⟨rfl, fun k hk => by rw [if_neg (by omega)]⟩
theorem RevTo.swap {xs cur : List Int} {i : Nat} (h : RevTo xs cur i) (hi : i < xs.length - 1 - i) : RevTo xs ((cur.set i (cur.getD (xs.length - 1 - i) 0)).set (xs.length - 1 - i) (cur.getD i 0)) (i + 1) := by
  obtain ⟨hl, hk⟩ := h
  refine ⟨by simp [hl], fun k hkl => ?_⟩
  have e1 := hk (xs.length - 1 - i) (by omega)
  have e2 := hk i (by omega)
  rw [if_neg (by omega)] at e1 e2
  rw [List.getD_eq_getElem?_getD, List.getElem?_set, List.getElem?_set]
  by_cases h1 : xs.length - 1 - i = k
  · have hk2 : k < (cur.set i (cur.getD (xs.length - 1 - i) 0)).length := by rw [List.length_set]; omega
    rw [if_pos h1, if_pos (show k < i + 1 ∨ xs.length - 1 - (i + 1) < k by omega), if_pos (by rw [List.length_set]; omega)]
    rw [Option.getD_some, e2]
    congr 1
    omega
  · rw [if_neg h1]
    by_cases h2 : i = k
    · rw [if_pos h2, if_pos (show k < i + 1 ∨ xs.length - 1 - (i + 1) < k by omega), if_pos (by omega)]
      rw [Option.getD_some, e1, h2]
    · rw [if_neg h2, ← List.getD_eq_getElem?_getD, hk k hkl]
      by_cases h3 : k < i ∨ xs.length - 1 - i < k
      · rw [if_pos h3, if_pos (by omega)]
      · rw [if_neg h3, if_neg (by omega)]
theorem RevTo.done {xs cur : List Int} {i : Nat} (h : RevTo xs cur i) (hi : ¬ (i : Int) < (xs.length : Int) - 1 - i) : cur = xs.reverse := by
  obtain ⟨hl, hk⟩ := h
  refine List.ext_getElem? fun k => ?_
  by_cases h1 : k < xs.length
  · have := hk k h1
    rw [List.getD_eq_getElem?_getD, List.getElem?_eq_getElem (by omega), Option.getD_some] at this
    rw [List.getElem?_eq_getElem (by omega), List.getElem?_reverse h1, this]
    by_cases h2 : k < i ∨ xs.length - 1 - i < k
    · rw [if_pos h2, List.getD_eq_getElem?_getD, List.getElem?_eq_getElem (by omega), Option.getD_some]
    · rw [if_neg h2, List.getD_eq_getElem?_getD, show xs.length - 1 - k = k by omega, List.getElem?_eq_getElem h1, Option.getD_some]
  · rw [List.getElem?_eq_none (by omega), List.getElem?_eq_none (by simp; omega)]

set_option maxHeartbeats 4000000 in
set_option maxRecDepth 100000 in
theorem reverse_calls (base : Nat) (w0 w : World) (v : Value) (xs : List Int) (HO : w.ownsRow base 5 1 v xs.length (nums .u8 xs)) (HB : Below base w0 w) (hlen : xs.length ≤ 1099511627776) :
    Calls Try.prog 90 #[v] w fun e w' => e = .returned (.tuple #[]) ∧ w'.ownsRow base 5 1 v xs.length (nums .u8 xs.reverse) ∧ Below base w0 w' ∧ w.grownBy w' v.ownBlock := by
  have HO0 := Aside0.mk HO
  have HB0 := Aside0.mk HB
  clear HO HB
  obtain ⟨A, c, rfl⟩ := own_slice HO0.out
  have hg0 := Aside0.mk (World.grownBy.refl w (Value.slice A xs.length c).ownBlock)
  go_enter Try.func90, Try.ntmps90
  go_wp2
  go_loopg [2, 3] xs.length (fun gg v2 v3 wr => ∃ (i : Nat) (cur : List Int), i ≤ xs.length ∧ xs.length - i ≤ gg ∧ v2 = .int .i64 i ∧ v3 = .int .i64 ((xs.length : Int) - 1 - i) ∧ Aside0 (RevTo xs cur i) ∧ Aside0 (wr.ownsRow base 5 1 (.slice A xs.length c) xs.length (nums .u8 cur)) ∧ Aside0 (Below base w0 wr) ∧ Aside0 (w.grownBy wr (Value.slice A xs.length c).ownBlock))
  case atStart => exact ⟨0, xs, Nat.zero_le _, by omega, rfl, by simp, ⟨RevTo.zero xs⟩, HO0, HB0, hg0⟩
  case round =>
    obtain ⟨i, cur, hi, hgg, rfl, rfl, HR, HO, BW, GW⟩ := hrel
    by_cases hlt : (i : Int) < (xs.length : Int) - 1 - i
    · obtain ⟨g, cap, hv, hgb, hgl⟩ := HO.out.form (by omega)
      injection hv with hv1 _ hv2
      subst hv1 hv2
      obtain ⟨j, hj⟩ : ∃ j : Nat, (xs.length : Int) - 1 - i = j := ⟨xs.length - 1 - i, by omega⟩
      have HJ := Aside0.mk (show j = xs.length - 1 - i by omega)
      have hjl : j < xs.length := by omega
      have hij : i < j := by omega
      have hij' : (i : Int) < (j : Int) := by omega
      rw [hj]
      obtain ⟨hc1, hf1⟩ := own_at HO.out (i : Int) (by omega) (by omega)
      obtain ⟨hc2, hf2⟩ := own_at HO.out (j : Int) (by omega) (by omega)
      rw [show ((i : Int)).toNat = i from rfl] at hc1 hf1
      rw [show ((j : Int)).toNat = j from rfl] at hc2 hf2
      obtain ⟨x, hx⟩ : ∃ x, x = rd cur (i : Int) := ⟨_, rfl⟩
      obtain ⟨y, hy⟩ : ∃ y, y = rd cur (j : Int) := ⟨_, rfl⟩
      rw [← hx] at hc1
      rw [← hy] at hc2
      have HXE := Aside0.mk hx
      have HYE := Aside0.mk hy
      have hil : (i : Int) < (xs.length : Int) := by omega
      have hjl' : (j : Int) < (xs.length : Int) := by omega
      clear hx hy hj hlt
      go_wp2_with fail
      go_region
      go_wp2
      go_roundg (xs.length - (i + 1))
      case measure => omega
      case rel =>
        have hd : wr.drew.ownsRow base 5 1 (.slice (some ⟨g, 0, none⟩) xs.length c) xs.length (nums .u8 cur) := HO.out
        obtain ⟨hs1, hs2⟩ := own_store hd (i : Int) y
        obtain ⟨hs3, hs4⟩ := own_store hs1 (j : Int) x
        rw [show ((i : Int)).toNat = i from rfl] at hs1 hs2 hs3 hs4
        rw [show ((j : Int)).toNat = j from rfl] at hs3 hs4
        refine ⟨i + 1, (cur.set i y).set j x, by omega, by omega, by go_num, ?_, ⟨?_⟩, ⟨hs3⟩, ⟨((BW.out.drew.setCell hgb _).setCell hgb _)⟩, ⟨(GW.out.trans (show wr.grownBy wr.drew (some g) from ⟨rfl, rfl, rfl, Nat.le_refl _, fun _ _ _ => rfl⟩)).trans (hs2.trans hs4)⟩⟩
        · have := HJ.out
          first | go_num | (congr 1; omega)
        · have h := HR.out.swap (by have := HJ.out; omega)
          rw [← HJ.out] at h
          rw [HXE.out, HYE.out]
          exact h
    · have HF := Aside0.mk (HR.out.done hlt)
      go_wp2
      go_end0
      exact ⟨rfl, by rw [← HF.out]; exact HO.out, BW.out, GW.out⟩
end Go.Proofs.Ytiokmnabkccpcaa.Kit
