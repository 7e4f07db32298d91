/- Terms: what a sort of operands gives, each operator's. -/
import Derived.Test.YtiokmnabkccpcaaBf
set_option linter.unusedVariables false
set_option linter.unusedSimpArgs false
namespace Go.Proofs.Ytiokmnabkccpcaa.Kit
open Go.RowKit Go.Proofs.YtiokmnabkccpcaaW.PrintWords Go.Proofs.YtiokmnabkccpcaaW.PrintLast Go.Proofs.YtiokmnabkccpcaaW.PrintMore

theorem take_succ_eq {α : Type} (xs ys : List α) (z : α) (k : Nat) (hx : k < xs.length) (hy : k < ys.length) (h : xs.take k = ys.take k) (e : xs.getD k z = ys.getD k z) : xs.take (k + 1) = ys.take (k + 1) := by
  rw [List.take_succ_eq_append_getElem hx, List.take_succ_eq_append_getElem hy, h]
  rw [List.getD_eq_getElem?_getD, List.getD_eq_getElem?_getD, List.getElem?_eq_getElem hx, List.getElem?_eq_getElem hy] at e
  simp at e
  rw [e]
set_option maxHeartbeats 4000000 in
theorem equalInt_calls (xs ys : List Int) (A B : Option Addr) (c d : Nat) (w : World) (hA : (Kd.int .i64).C w A xs.length xs) (hB : (Kd.int .i64).C w B ys.length ys) (hc : xs.length ≤ c) (hd : ys.length ≤ d) :
    Calls Try.prog 100 #[.slice A xs.length c, .slice B ys.length d] w (Gives w (.bool (decide (xs = ys)))) := by
  have HA := Aside0.mk hA
  have HB := Aside0.mk hB
  have hlx := hA.2.1
  clear hA hB
  by_cases hl : xs.length = ys.length
  · have hln : ((xs.length : Int) != (ys.length : Int)) = false := by rw [hl]; simp
    have HL := Aside0.mk hl
    clear hl
    go_enter Try.func100, Try.ntmps100
    go_wp2
    go_loopg [5, 13] xs.length (fun gg _ v13 wr => ∃ k : Nat, k ≤ xs.length ∧ xs.length - k ≤ gg ∧ v13 = .int .i64 k ∧ Aside0 (Below w.heap.size w wr) ∧ Aside0 (xs.take k = ys.take k))
    case atStart => exact ⟨0, Nat.zero_le _, by omega, rfl, ⟨Below.refl _ w⟩, ⟨by simp⟩⟩
    case round =>
      obtain ⟨k, hk, hgg, rfl, BW, HE⟩ := hrel
      by_cases hlt : k < xs.length
      · obtain ⟨ad, e1, hc1⟩ := C_int_at HA.out k hlt
        obtain ⟨bd, e2, hc2⟩ := C_int_at HB.out k (by have := HL.out; omega)
        subst e1 e2
        replace hc1 := (BW.out.cell (World.block_lt_of_cell? w _ hc1)).trans hc1
        replace hc2 := (BW.out.cell (World.block_lt_of_cell? w _ hc2)).trans hc2
        have hky : k < ys.length := by have := HL.out; omega
        obtain ⟨x, hx⟩ : ∃ x, x = rd xs (k : Int) := ⟨_, rfl⟩
        obtain ⟨y, hy⟩ : ∃ y, y = rd ys (k : Int) := ⟨_, rfl⟩
        rw [← hx] at hc1
        rw [← hy] at hc2
        have HXE := Aside0.mk hx
        have HYE := Aside0.mk hy
        clear hx hy
        cases hq : (x != y) with
        | true =>
          have HF := Aside0.mk (show decide (xs = ys) = false from by
            refine decide_eq_false fun e => ?_
            have := bne_iff_ne.1 hq
            rw [HXE.out, HYE.out, e] at this
            exact this rfl)
          go_wp2
          go_quiet (fail)
          go_wp2
          go_ret
          exact ⟨by rw [HF.out]; rfl, by repeat (first | exact BW.out | apply pw_below_drewN)⟩
        | false =>
          have HE1 := Aside0.mk (take_succ_eq xs ys 0 k hlt hky HE.out (by
            have := bne_eq_false_iff_eq.1 hq
            rw [HXE.out, HYE.out] at this
            exact this))
          go_wp2
          go_quiet (fail)
          go_wp2
          go_roundg (xs.length - (k + 1))
          case measure => omega
          case rel => exact ⟨k + 1, by omega, by omega, by go_num, ⟨by repeat (first | exact BW.out | apply pw_below_drewN)⟩, HE1⟩
      · have hke : k = xs.length := by omega
        have HF := Aside0.mk (show decide (xs = ys) = true from by
          refine decide_eq_true ?_
          have h := HE.out
          rw [hke, List.take_length, HL.out, List.take_length] at h
          exact h)
        clear hke
        go_wp2
        go_ret
        exact ⟨by rw [HF.out]; rfl, BW.out⟩
  · have hln : ((xs.length : Int) != (ys.length : Int)) = true := by rw [bne_iff_ne]; omega
    have HF := Aside0.mk (show decide (xs = ys) = false from decide_eq_false fun e => hl (by rw [e]))
    clear hl
    go_enter Try.func100, Try.ntmps100
    go_wp2
    go_ret
    exact ⟨by rw [HF.out]; rfl, Below.refl _ _⟩

def sortS (l : List Int) : Nd → Except Int Int
  | .fix i o => if l.all (· == i) then .ok o else .error 31
  | .eq => if rd l 0 = rd l 1 then .ok 2 else .error 31
  | .ite => if rd l 0 = 2 ∧ rd l 1 = rd l 2 then .ok (rd l 1) else .error 31
  | .fn f => if l = f.f1 then (if sortB f.f2 then .ok f.f2 else .error 31) else .error 31
  | .leaf s => .ok s
  | .bind => if l.all (· == 2) then .ok 2 else .error 31
def GivesS (w : World) (r : Except Int Int) : Ending → World → Prop := fun e w' => Below w.heap.size w w' ∧ match r with
  | .ok s => e = .returned (.tuple #[.int .i64 s, .int .i64 0])
  | .error k => k ≠ 0 ∧ e = .returned (.tuple #[.int .i64 0, .int .i64 k])

theorem sort_leaf (l : List Int) (A : Option Addr) (c : Nat) (w : World) (s : Int) :
    Calls Try.prog 96 #[.agg #[.int .i64 s], .slice A l.length c] w (GivesS w (sortS l (.leaf s))) := by
  go_enter Try.func96, Try.ntmps96
  go_wp2_with ((with_reducible refine gate_dst (N := 2) rfl ?_); refine box_event rfl (N := 2) rfl (cs := #[.int .i64 s]) (t := 119) ?hr ?_; (case hr => first | (go_simp; done) | (go_simp; rfl)); intro g2 hg2 w2 hbox2 hb2; have HG2 := Aside0.mk hg2; have HX2 := Aside0.mk hbox2; clear hg2 hbox2; have c0 : w2.cell? ⟨g2, 0, none⟩ = some (.int .i64 s) := (blk_cell HX2.out 0).trans rfl)
  go_ret2
  exact ⟨hb2, rfl⟩
set_option maxHeartbeats 4000000 in
theorem sort_fix (l : List Int) (A : Option Addr) (c : Nat) (w : World) (i o : Int) (hl : l.length ≤ c) (hC : (Kd.int .i64).C w A l.length l) :
    Calls Try.prog 94 #[.agg #[.int .i64 i, .int .i64 o], .slice A l.length c] w (GivesS w (sortS l (.fix i o))) := by
  have HC := Aside0.mk hC
  have hlx := hC.2.1
  clear hC
  go_enter Try.func94, Try.ntmps94
  go_wp2_with ((with_reducible refine gate_dst (N := 2) rfl ?_); refine box_event rfl (N := 2) rfl (cs := #[.int .i64 i, .int .i64 o]) (t := 92) ?hr ?_; (case hr => first | (go_simp; done) | (go_simp; rfl)); intro g2 hg2 w2 hbox2 hb2; have HG2 := Aside0.mk hg2; have HX2 := Aside0.mk hbox2; clear hg2 hbox2; have HB2 := Aside0.mk hb2; clear hb2)
  go_loopg [7, 10] l.length (fun gg _ v10 wr => ∃ k : Nat, k ≤ l.length ∧ l.length - k ≤ gg ∧ v10 = .int .i64 k ∧ Aside0 (Below w2.heap.size w2 wr) ∧ Aside0 (∀ j, j < k → l.getD j 0 = i))
  case atStart => exact ⟨0, Nat.zero_le _, by omega, rfl, ⟨Below.refl _ _⟩, ⟨fun j hj => absurd hj (Nat.not_lt_zero _)⟩⟩
  case round =>
    obtain ⟨k, hk, hgg, rfl, BW, HE⟩ := hrel
    have c0 : wr.cell? ⟨g2, 0, none⟩ = some (.int .i64 i) := (BW.out.cell (blk_lt HX2.out)).trans ((blk_cell HX2.out 0).trans rfl)
    have c1 : wr.cell? ⟨g2, 1, none⟩ = some (.int .i64 o) := (BW.out.cell (blk_lt HX2.out)).trans ((blk_cell HX2.out 1).trans rfl)
    by_cases hlt : k < l.length
    · obtain ⟨ad, e1, hc1⟩ := C_int_at (Kd.C_below HC.out (below_step HB2.out BW.out)) k hlt
      subst e1
      obtain ⟨x, hx⟩ : ∃ x, x = rd l (k : Int) := ⟨_, rfl⟩
      rw [← hx] at hc1
      have HXE := Aside0.mk hx
      clear hx
      cases hq : (x != i) with
      | true =>
        have HF := Aside0.mk (show sortS l (.fix i o) = .error 31 from by
          have h1 := bne_iff_ne.1 hq
          rw [HXE.out] at h1
          have : (l.all (· == i)) = false := by
            rw [List.all_eq_false]
            refine ⟨_, List.getElem_mem hlt, ?_⟩
            intro e
            apply h1
            show l.getD k 0 = i
            rw [List.getD_eq_getElem?_getD, List.getElem?_eq_getElem hlt]
            exact eq_of_beq e
          simp [sortS, this])
        go_wp2
        go_ret2
        exact ⟨below_step HB2.out BW.out, by rw [HF.out]; exact ⟨by decide, rfl⟩⟩
      | false =>
        have HE1 := Aside0.mk (show ∀ j, j < k + 1 → l.getD j 0 = i from fun j hj => by
          by_cases e : j = k
          · rw [e]; exact HXE.out.symm.trans (bne_eq_false_iff_eq.1 hq)
          · exact HE.out j (by omega))
        go_wp2
        go_roundg (l.length - (k + 1))
        case measure => omega
        case rel => exact ⟨k + 1, by omega, by omega, by go_num, BW, HE1⟩
    · have hke : k = l.length := by omega
      have HF := Aside0.mk (show sortS l (.fix i o) = .ok o from by
        have : (l.all (· == i)) = true := by
          rw [List.all_eq_true]
          intro x hx
          obtain ⟨j, hj, rfl⟩ := List.getElem_of_mem hx
          have := HE.out j (by omega)
          rw [List.getD_eq_getElem?_getD, List.getElem?_eq_getElem hj] at this
          simpa using this
        simp [sortS, this])
      clear hke
      go_wp2
      go_ret2
      exact ⟨below_step HB2.out BW.out, by rw [HF.out]; rfl⟩
theorem sort_bind (l : List Int) (A : Option Addr) (c : Nat) (w : World) (hl : l.length ≤ c) (hC : (Kd.int .i64).C w A l.length l) :
    Calls Try.prog 95 #[.agg #[.int .i64 2, .int .i64 2], .slice A l.length c] w (GivesS w (sortS l .bind)) := by
  go_enter Try.func95, Try.ntmps95
  go_wp2_with (first | ((with_reducible refine gate_dst (N := 2) rfl ?_); refine box_event rfl (N := 2) rfl (cs := #[.int .i64 2, .int .i64 2]) (t := 94) ?hr ?_; (case hr => first | (go_simp; done) | (go_simp; rfl)); intro g2 hg2 w2 hbox2 hb2; have HG2 := Aside0.mk hg2; have HX2 := Aside0.mk hbox2; clear hg2 hbox2) | ((with_reducible refine gate_dst (N := 7) rfl ?_); refine wpList_load_row rfl 92 _ rfl g2 rfl 94 #[.int .i64 2, .int .i64 2] (0, 0) _ HX2.out Try.underlying92 rfl size_fixed ?_))
  refine (sort_fix l A c w2 2 2 hl (Kd.C_below hC hb2)).mono ?_
  have HF := Aside0.mk (show sortS l .bind = sortS l (.fix 2 2) from rfl)
  cases hr : sortS l (.fix 2 2) with
  | ok s =>
    have HR := Aside0.mk hr
    clear hr
    rintro e w' ⟨hb, rfl⟩
    go_wp2
    go_ret2
    exact ⟨below_step hb2 hb, by rw [HF.out, HR.out]; rfl⟩
  | error k =>
    have HR := Aside0.mk hr
    clear hr
    rintro e w' ⟨hb, hk, rfl⟩
    go_wp2
    go_ret2
    exact ⟨below_step hb2 hb, by rw [HF.out, HR.out]; exact ⟨hk, rfl⟩⟩
theorem size_fun : (Try.prog.info? 127).map (·.size) = some 3 := by kernel_rfl
set_option maxHeartbeats 4000000 in
theorem sort_fun (l : List Int) (A : Option Addr) (c : Nat) (w : World) (f : Sg) (cs : List Value) (hK : kSg.K w f cs) (hl : l.length ≤ c) (hC : (Kd.int .i64).C w A l.length l) :
    Calls Try.prog 99 #[.agg cs.toArray, .slice A l.length c] w (GivesS w (sortS l (.fn f))) := by
  obtain ⟨A1, c1, rfl, l1, g1⟩ := kSg_open hK
  have HC := Aside0.mk hC
  have HG := Aside0.mk g1
  clear hK hC g1
  go_enter Try.func99, Try.ntmps99
  go_wp2_with ((with_reducible refine gate_dst (N := 2) rfl ?_); refine box_event rfl (N := 2) rfl (cs := #[.string f.f0, .slice A1 f.f1.length c1, .int .i64 f.f2]) (t := 127) ?hr ?_; (case hr => first | (go_simp; done) | (go_simp; rfl)); intro g2 hg2 w2 hbox2 hb2; have HG2 := Aside0.mk hg2; have HX2 := Aside0.mk hbox2; clear hg2 hbox2; have c21 : w2.cell? ⟨g2, 1, none⟩ = some (.slice A1 f.f1.length c1) := (blk_cell HX2.out 1).trans rfl)
  refine (equalInt_calls l f.f1 A A1 c c1 w2 (Kd.C_below HC.out hb2) (Kd.C_below HG.out hb2) hl l1).mono ?_
  obtain ⟨q, hq⟩ : ∃ q, q = decide (l = f.f1) := ⟨_, rfl⟩
  rw [← hq]
  have HQ := Aside0.mk hq
  clear hq
  rintro e w3 ⟨rfl, hb3⟩
  have HB2 := Aside0.mk hb2
  have HB3 := Aside0.mk hb3
  have c32 : w3.cell? ⟨g2, 2, none⟩ = some (.int .i64 f.f2) := (hb3.cell (blk_lt HX2.out)).trans ((blk_cell HX2.out 2).trans rfl)
  clear hb2 hb3 c21
  cases q with
  | false =>
    have HF := Aside0.mk (show sortS l (.fn f) = .error 31 from by
      have := of_decide_eq_false HQ.out.symm
      simp [sortS, this])
    go_wp2
    go_ret2
    exact ⟨below_step HB2.out HB3.out, by rw [HF.out]; exact ⟨by decide, rfl⟩⟩
  | true =>
    have HF := Aside0.mk (show sortS l (.fn f) = (if sortB f.f2 then .ok f.f2 else .error 31) from by
      have := of_decide_eq_true HQ.out.symm
      simp [sortS, this])
    go_wp2_with fail
    refine (sort_calls f.f2 w3).mono ?_
    obtain ⟨q, hq⟩ : ∃ q, q = sortB f.f2 := ⟨_, rfl⟩
    rw [← hq]
    have HQ2 := Aside0.mk hq
    clear hq
    rintro e w4 ⟨rfl, hb4⟩
    have HB4 := Aside0.mk hb4
    replace c32 := (hb4.cell (World.block_lt_of_cell? _ _ c32)).trans c32
    clear hb4
    cases q with
    | false =>
      go_wp2
      go_ret2
      exact ⟨below_step (below_step HB2.out HB3.out) HB4.out, by rw [HF.out, ← HQ2.out]; exact ⟨by decide, rfl⟩⟩
    | true =>
      go_wp2
      go_ret2
      exact ⟨below_step (below_step HB2.out HB3.out) HB4.out, by rw [HF.out, ← HQ2.out]; rfl⟩

set_option maxHeartbeats 4000000 in
theorem sort_equal (l : List Int) (A : Option Addr) (c : Nat) (w : World) (hl : l.length ≤ c) (hC : (Kd.int .i64).C w A l.length l) (h2 : l.length = 2) :
    Calls Try.prog 97 #[.agg #[], .slice A l.length c] w (GivesS w (sortS l .eq)) := by
  obtain ⟨ad, e1, hc0⟩ := C_int_at hC 0 (by omega)
  obtain ⟨bd, e2, hc1⟩ := C_int_at hC 1 (by omega)
  subst e1
  obtain rfl := Option.some.inj e2
  obtain ⟨x, hx⟩ : ∃ x, x = rd l (0 : Int) := ⟨_, rfl⟩
  obtain ⟨y, hy⟩ : ∃ y, y = rd l (1 : Int) := ⟨_, rfl⟩
  replace hc0 : w.cell? ad = some (.int .i64 (rd l 0)) := hc0
  replace hc1 : w.cell? ⟨ad.block, ad.off + 1, none⟩ = some (.int .i64 (rd l 1)) := hc1
  rw [← hx] at hc0
  rw [← hy] at hc1
  have HXE := Aside0.mk hx
  have HYE := Aside0.mk hy
  clear hx hy hC
  rw [h2]
  have hc2 : 2 ≤ c := by omega
  clear hl h2 e2
  cases hq : (x != y) with
  | true =>
    have HF := Aside0.mk (show sortS l .eq = .error 31 from by
      have := bne_iff_ne.1 hq
      rw [HXE.out, HYE.out] at this
      simp [sortS, this])
    go_enter Try.func97, Try.ntmps97
    go_wp2_with ((with_reducible refine gate_dst (N := 2) rfl ?_); refine box_event rfl (N := 2) rfl (cs := #[]) (t := 121) ?hr ?_; (case hr => first | (go_simp; done) | (go_simp; rfl)); intro g2 hg2 w2 hbox2 hb2; have HG2 := Aside0.mk hg2; have HX2 := Aside0.mk hbox2; clear hg2 hbox2; replace hc0 := (hb2.cell (World.block_lt_of_cell? _ _ hc0)).trans hc0; replace hc1 := (hb2.cell (World.block_lt_of_cell? _ _ hc1)).trans hc1)
    go_quiet (fail)
    go_wp2
    go_ret2
    exact ⟨by repeat (first | exact hb2 | apply pw_below_drewN), by rw [HF.out]; exact ⟨by decide, rfl⟩⟩
  | false =>
    have HF := Aside0.mk (show sortS l .eq = .ok 2 from by
      have := bne_eq_false_iff_eq.1 hq
      rw [HXE.out, HYE.out] at this
      simp [sortS, this])
    go_enter Try.func97, Try.ntmps97
    go_wp2_with ((with_reducible refine gate_dst (N := 2) rfl ?_); refine box_event rfl (N := 2) rfl (cs := #[]) (t := 121) ?hr ?_; (case hr => first | (go_simp; done) | (go_simp; rfl)); intro g2 hg2 w2 hbox2 hb2; have HG2 := Aside0.mk hg2; have HX2 := Aside0.mk hbox2; clear hg2 hbox2; replace hc0 := (hb2.cell (World.block_lt_of_cell? _ _ hc0)).trans hc0; replace hc1 := (hb2.cell (World.block_lt_of_cell? _ _ hc1)).trans hc1)
    go_quiet (fail)
    go_wp2
    go_ret2
    exact ⟨by repeat (first | exact hb2 | apply pw_below_drewN), by rw [HF.out]; rfl⟩
set_option maxHeartbeats 4000000 in
theorem sort_ite (l : List Int) (A : Option Addr) (c : Nat) (w : World) (hl : l.length ≤ c) (hC : (Kd.int .i64).C w A l.length l) (h3 : l.length = 3) :
    Calls Try.prog 98 #[.agg #[], .slice A l.length c] w (GivesS w (sortS l .ite)) := by
  obtain ⟨ad, e1, hc0⟩ := C_int_at hC 0 (by omega)
  obtain ⟨bd, e2, hc1⟩ := C_int_at hC 1 (by omega)
  obtain ⟨dd, e3, hcc⟩ := C_int_at hC 2 (by omega)
  subst e1
  obtain rfl := Option.some.inj e2
  obtain rfl := Option.some.inj e3
  obtain ⟨x, hx⟩ : ∃ x, x = rd l (0 : Int) := ⟨_, rfl⟩
  obtain ⟨y, hy⟩ : ∃ y, y = rd l (1 : Int) := ⟨_, rfl⟩
  obtain ⟨z, hz⟩ : ∃ z, z = rd l (2 : Int) := ⟨_, rfl⟩
  replace hc0 : w.cell? ad = some (.int .i64 (rd l 0)) := hc0
  replace hc1 : w.cell? ⟨ad.block, ad.off + 1, none⟩ = some (.int .i64 (rd l 1)) := hc1
  replace hcc : w.cell? ⟨ad.block, ad.off + 2, none⟩ = some (.int .i64 (rd l 2)) := hcc
  rw [← hx] at hc0
  rw [← hy] at hc1
  rw [← hz] at hcc
  have HXE := Aside0.mk hx
  have HYE := Aside0.mk hy
  have HZE := Aside0.mk hz
  clear hx hy hz hC
  rw [h3]
  have hc2 : 3 ≤ c := by omega
  clear hl h3 e2 e3
  cases hp : (x != 2) with
  | true =>
    have HF := Aside0.mk (show sortS l .ite = .error 31 from by
      have := bne_iff_ne.1 hp
      rw [HXE.out] at this
      simp [sortS, this])
    go_enter Try.func98, Try.ntmps98
    go_wp2_with ((with_reducible refine gate_dst (N := 2) rfl ?_); refine box_event rfl (N := 2) rfl (cs := #[]) (t := 122) ?hr ?_; (case hr => first | (go_simp; done) | (go_simp; rfl)); intro g2 hg2 w2 hbox2 hb2; have HG2 := Aside0.mk hg2; have HX2 := Aside0.mk hbox2; clear hg2 hbox2; replace hc0 := (hb2.cell (World.block_lt_of_cell? _ _ hc0)).trans hc0; replace hc1 := (hb2.cell (World.block_lt_of_cell? _ _ hc1)).trans hc1; replace hcc := (hb2.cell (World.block_lt_of_cell? _ _ hcc)).trans hcc)
    go_quiet (fail)
    go_wp2
    go_ret2
    exact ⟨by repeat (first | exact hb2 | apply pw_below_drewN), by rw [HF.out]; exact ⟨by decide, rfl⟩⟩
  | false =>
    have HP := Aside0.mk (show rd l 0 = 2 from by rw [← HXE.out]; exact bne_eq_false_iff_eq.1 hp)
    cases hq : (y != z) with
    | true =>
      have HF := Aside0.mk (show sortS l .ite = .error 31 from by
        have := bne_iff_ne.1 hq
        rw [HYE.out, HZE.out] at this
        simp [sortS, this])
      go_enter Try.func98, Try.ntmps98
      go_wp2_with ((with_reducible refine gate_dst (N := 2) rfl ?_); refine box_event rfl (N := 2) rfl (cs := #[]) (t := 122) ?hr ?_; (case hr => first | (go_simp; done) | (go_simp; rfl)); intro g2 hg2 w2 hbox2 hb2; have HG2 := Aside0.mk hg2; have HX2 := Aside0.mk hbox2; clear hg2 hbox2; replace hc0 := (hb2.cell (World.block_lt_of_cell? _ _ hc0)).trans hc0; replace hc1 := (hb2.cell (World.block_lt_of_cell? _ _ hc1)).trans hc1; replace hcc := (hb2.cell (World.block_lt_of_cell? _ _ hcc)).trans hcc)
      go_quiet (fail)
      go_wp2
      go_ret2
      exact ⟨by repeat (first | exact hb2 | apply pw_below_drewN), by rw [HF.out]; exact ⟨by decide, rfl⟩⟩
    | false =>
      have HF := Aside0.mk (show sortS l .ite = .ok y from by
        have := bne_eq_false_iff_eq.1 hq
        rw [HYE.out, HZE.out] at this
        simp [sortS, this, HP.out, HYE.out])
      go_enter Try.func98, Try.ntmps98
      go_wp2_with ((with_reducible refine gate_dst (N := 2) rfl ?_); refine box_event rfl (N := 2) rfl (cs := #[]) (t := 122) ?hr ?_; (case hr => first | (go_simp; done) | (go_simp; rfl)); intro g2 hg2 w2 hbox2 hb2; have HG2 := Aside0.mk hg2; have HX2 := Aside0.mk hbox2; clear hg2 hbox2; replace hc0 := (hb2.cell (World.block_lt_of_cell? _ _ hc0)).trans hc0; replace hc1 := (hb2.cell (World.block_lt_of_cell? _ _ hc1)).trans hc1; replace hcc := (hb2.cell (World.block_lt_of_cell? _ _ hcc)).trans hcc)
      go_quiet (fail)
      go_wp2
      go_ret2
      exact ⟨by repeat (first | exact hb2 | apply pw_below_drewN), by rw [HF.out]; rfl⟩
end Go.Proofs.Ytiokmnabkccpcaa.Kit
