/- The model: values, their texts; slices.Equal of strings; read where a number or a truth is asked. -/
import Derived.Test.YtiokmnabkccpcaaBk
import Derived.Test.YtiokmnabkccpcaaC4
set_option linter.unusedVariables false
set_option linter.unusedSimpArgs false
namespace Go.Proofs.Ytiokmnabkccpcaa.Kit
open Go.RowKit Go.Proofs.YtiokmnabkccpcaaW.PrintWords Go.Proofs.YtiokmnabkccpcaaW.PrintLast Go.Proofs.YtiokmnabkccpcaaW.PrintMore

/-- A value of a structure. -/
inductive Vl where
  | num (z : Int)
  | tru (b : Bool)
  | obj (i : Int)
def VlV (w : World) (v : Value) : Vl → Prop
  | .num z => ∃ A c x, v = .iface 79 (numV A c x) ∧ NumAt w A c x z ∧ x.f0.length ≤ 1073741824
  | .tru b => v = .iface 86 (.bool b)
  | .obj i => v = .iface 137 (.int .i64 i)
theorem VlV.below {w w1 : World} {v : Value} {r : Vl} (h : VlV w v r) (hb : Below w.heap.size w w1) : VlV w1 v r := by
  cases r with
  | num z => obtain ⟨A, c, x, e, hx, hl⟩ := h; exact ⟨A, c, x, e, hx.below hb, hl⟩
  | tru b => exact h
  | obj i => exact h
def truS : ByteArray := ⟨#[116, 114, 117, 101]⟩
def falS : ByteArray := ⟨#[102, 97, 108, 115, 101]⟩
def truthS (b : Bool) : ByteArray := if b then truS else falS

set_option maxHeartbeats 4000000 in
theorem numtext_calls (A : Option Addr) (c : Nat) (x : NI) (z : Int) (w : World) (hx : NumAt w A c x z) (hl : x.f0.length ≤ 1073741824) :
    Calls Try.prog 88 #[numV A c x] w (Gives w (.string (decS z))) := by
  have HX := Aside0.mk hx
  clear hx
  unfold numV
  go_enter Try.func88, Try.ntmps88
  go_wp2_with (first | ((with_reducible refine gate_dst (N := 1) rfl ?_); refine box_event rfl (N := 1) rfl (cs := #[.slice A x.f0.length c, .bool x.f1]) (t := 79) ?hr ?_; (case hr => first | (go_simp; done) | (go_simp; rfl)); intro g1 hg1 w1 hbox1 hb1; have HG1 := Aside0.mk hg1; have HX1 := Aside0.mk hbox1; clear hg1 hbox1) | ((with_reducible refine gate_dst (N := 4) rfl ?_); refine wpList_load_row rfl 75 _ rfl g1 rfl 79 #[.slice A x.f0.length c, .bool x.f1] (0, 0) _ HX1.out Try.underlying75 rfl size_NI ?_))
  refine (string_calls A c x z w1 (HX.out.below hb1) hl).mono ?_
  rintro e w2 ⟨rfl, hb2⟩
  go_wp2
  go_ret
  exact ⟨rfl, below_step hb1 hb2⟩
theorem trutext_calls (b : Bool) (w : World) : Calls Try.prog 91 #[.bool b] w (Gives w (.string (truthS b))) := by
  cases b <;>
  · go_enter Try.func91, Try.ntmps91
    go_wp2
    go_ret
    exact ⟨rfl, Below.refl _ _⟩

def listsOf (xs : List ByteArray) : List (List UInt8) := xs.map (·.toList)
theorem listsOf_take (xs : List ByteArray) (k : Nat) : listsOf (xs.take k) = (listsOf xs).take k := by simp [listsOf]
theorem listsOf_get (xs : List ByteArray) (k : Nat) (h : k < xs.length) : (listsOf xs).getD k [] = (xs.getD k ⟨#[]⟩).toList := by
  simp [listsOf, List.getD_eq_getElem?_getD, h]
set_option maxHeartbeats 4000000 in
theorem equalStr_calls (xs ys : List ByteArray) (A B : Option Addr) (c d : Nat) (w : World) (hA : Kd.string.C w A xs.length xs) (hB : Kd.string.C w B ys.length ys) (hc : xs.length ≤ c) (hd : ys.length ≤ d) :
    Calls Try.prog 41 #[.slice A xs.length c, .slice B ys.length d] w (Gives w (.bool (decide (listsOf xs = listsOf ys)))) := by
  have HA := Aside0.mk hA
  have HB := Aside0.mk hB
  have hlx := hA.2.1
  clear hA hB
  by_cases hl : xs.length = ys.length
  · have hln : ((xs.length : Int) != (ys.length : Int)) = false := by rw [hl]; simp
    have HL := Aside0.mk hl
    clear hl
    go_enter Try.func41, Try.ntmps41
    go_wp2
    go_loopg [5, 13] xs.length (fun gg _ v13 wr => ∃ k : Nat, k ≤ xs.length ∧ xs.length - k ≤ gg ∧ v13 = .int .i64 k ∧ Aside0 (Below w.heap.size w wr) ∧ Aside0 ((listsOf xs).take k = (listsOf ys).take k))
    case atStart => exact ⟨0, Nat.zero_le _, by omega, rfl, ⟨Below.refl _ w⟩, ⟨by simp⟩⟩
    case round =>
      obtain ⟨k, hk, hgg, rfl, BW, HE⟩ := hrel
      by_cases hlt : k < xs.length
      · obtain ⟨ad, e1, hc1⟩ := C_str_at HA.out k hlt
        obtain ⟨bd, e2, hc2⟩ := C_str_at HB.out k (by have := HL.out; omega)
        subst e1 e2
        replace hc1 := (BW.out.cell (World.block_lt_of_cell? w _ hc1)).trans hc1
        replace hc2 := (BW.out.cell (World.block_lt_of_cell? w _ hc2)).trans hc2
        have hky : k < ys.length := by have := HL.out; omega
        have h1 := listsOf_get xs k hlt
        have h2 := listsOf_get ys k hky
        obtain ⟨x, hx⟩ : ∃ x, x = xs.getD k ⟨#[]⟩ := ⟨_, rfl⟩
        obtain ⟨y, hy⟩ : ∃ y, y = ys.getD k ⟨#[]⟩ := ⟨_, rfl⟩
        rw [← hx] at hc1 h1
        rw [← hy] at hc2 h2
        have HXE := Aside0.mk h1
        have HYE := Aside0.mk h2
        clear hx hy h1 h2
        cases hq : (x.toList == y.toList) with
        | false =>
          have HF := Aside0.mk (show decide (listsOf xs = listsOf ys) = false from by
            refine decide_eq_false fun e => ?_
            have h := HXE.out
            rw [e, HYE.out] at h
            rw [h] at hq
            simp at hq)
          have hq' : (x.toList != y.toList) = true := by rw [bne, hq]; rfl
          go_wp2
          go_quiet (fail)
          go_wp2
          go_ret
          exact ⟨by rw [HF.out]; rfl, by repeat (first | exact BW.out | apply pw_below_drewN)⟩
        | true =>
          have HE1 := Aside0.mk (take_succ_eq (listsOf xs) (listsOf ys) [] k (by simpa [listsOf] using hlt) (by simpa [listsOf] using hky) HE.out (by
            rw [HXE.out, HYE.out]
            exact eq_of_beq hq))
          have hq' : (x.toList != y.toList) = false := by rw [bne, hq]; rfl
          go_wp2
          go_quiet (fail)
          go_wp2
          go_roundg (xs.length - (k + 1))
          case measure => omega
          case rel => exact ⟨k + 1, by omega, by omega, by go_num, ⟨by repeat (first | exact BW.out | apply pw_below_drewN)⟩, HE1⟩
      · have hke : k = xs.length := by omega
        have HF := Aside0.mk (show decide (listsOf xs = listsOf ys) = true from by
          refine decide_eq_true ?_
          have h := HE.out
          have l1 : (listsOf xs).length = xs.length := by simp [listsOf]
          have l2 : (listsOf ys).length = xs.length := by simp [listsOf, HL.out]
          rw [hke, List.take_of_length_le (by omega), List.take_of_length_le (by omega)] at h
          exact h)
        clear hke
        go_wp2
        go_ret
        exact ⟨by rw [HF.out]; rfl, BW.out⟩
  · have hln : ((xs.length : Int) != (ys.length : Int)) = true := by rw [bne_iff_ne]; omega
    have HF := Aside0.mk (show decide (listsOf xs = listsOf ys) = false from decide_eq_false fun e => hl (by have := congrArg List.length e; simpa [listsOf] using this))
    clear hl
    go_enter Try.func41, Try.ntmps41
    go_wp2
    go_ret
    exact ⟨by rw [HF.out]; rfl, Below.refl _ _⟩
end Go.Proofs.Ytiokmnabkccpcaa.Kit
