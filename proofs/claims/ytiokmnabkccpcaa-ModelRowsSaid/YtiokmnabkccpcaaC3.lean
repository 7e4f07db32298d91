/- Numbers: how two compare. -/
import Derived.Test.YtiokmnabkccpcaaBj
set_option linter.unusedVariables false
set_option linter.unusedSimpArgs false
namespace Go.Proofs.Ytiokmnabkccpcaa.Kit
open Go.RowKit Go.Proofs.YtiokmnabkccpcaaW.PrintWords Go.Proofs.YtiokmnabkccpcaaW.PrintLast Go.Proofs.YtiokmnabkccpcaaW.PrintMore

theorem norm_pos {l : List Int} (h : Norm l) (hne : l ≠ []) : 0 < val l := by
  have := h.pow_le hne
  have : (0 : Int) < 4294967296 ^ (l.length - 1) := Int.pow_pos (by omega)
  omega
theorem cmp_mixed {x y : NI} (hx : NOk x) (hy : NOk y) (h : x.f1 = true) (h' : y.f1 = false) : cmpS (NV x) (NV y) = -1 := by
  have h1 := norm_pos hx.1 (hx.2 h)
  have h2 := val_nonneg hy.1.1
  unfold cmpS NV
  rw [h, h']
  simp
  omega
theorem cmp_mixed' {x y : NI} (hx : NOk x) (hy : NOk y) (h : x.f1 = false) (h' : y.f1 = true) : cmpS (NV x) (NV y) = 1 := by
  have h1 := norm_pos hy.1 (hy.2 h')
  have h2 := val_nonneg hx.1.1
  unfold cmpS NV
  rw [h, h']
  simp
  omega
theorem cmp_neg (a b : Int) : cmpS b a = cmpS (-a) (-b) := by
  unfold cmpS
  by_cases h : b < a
  · rw [if_pos h, if_pos (by omega)]
  · by_cases h2 : a < b
    · rw [if_neg h, if_pos h2, if_neg (by omega), if_pos (by omega)]
    · rw [if_neg h, if_neg h2, if_neg (by omega), if_neg (by omega)]
theorem truth_calls (b : Bool) (w : World) : Calls Try.prog 60 #[.bool b] w (Gives w (.int .i64 (if b then 1 else 0))) := by
  cases b <;>
  · go_enter Try.func60, Try.ntmps60
    go_wp2
    go_ret
    exact ⟨rfl, Below.refl _ _⟩
set_option maxHeartbeats 4000000 in
theorem cmp_calls (A B : Option Addr) (c d : Nat) (x y : NI) (z u : Int) (w : World) (hx : NumAt w A c x z) (hy : NumAt w B d y u) :
    Calls Try.prog 45 #[numV A c x, numV B d y] w (Gives w (.int .i64 (cmpS z u))) := by
  have HX := Aside0.mk hx
  have HY := Aside0.mk hy
  obtain ⟨xl, xn⟩ := x
  obtain ⟨yl, yn⟩ := y
  clear hx hy
  cases xn with
  | true =>
    cases yn with
    | true =>
      have HF := Aside0.mk (show cmpS (val yl) (val xl) = cmpS z u from by rw [← HX.out.val, ← HY.out.val]; exact cmp_neg _ _)
      unfold numV
      go_enter Try.func45, Try.ntmps45
      go_wp2_with (first | ((with_reducible refine gate_dst (N := 2) rfl ?_); refine box_event rfl (N := 2) rfl (cs := #[.slice A xl.length c, .bool true]) (t := 75) ?hr ?_; (case hr => first | (go_simp; done) | (go_simp; rfl)); intro g2 hg2 w2 hbox2 hb2; have HG2 := Aside0.mk hg2; have HX2 := Aside0.mk hbox2; clear hg2 hbox2) | ((with_reducible refine gate_dst (N := 3) rfl ?_); refine box_event rfl (N := 3) rfl (cs := #[.slice B yl.length d, .bool true]) (t := 75) ?hr ?_; (case hr => first | (go_simp; done) | (go_simp; rfl)); intro g3 hg3 w3 hbox3 hb3; have HG3 := Aside0.mk hg3; have HX3 := Aside0.mk hbox3; clear hg3 hbox3; have c30 : w3.cell? ⟨g3, 0, none⟩ = some (.slice B yl.length d) := (blk_cell HX3.out 0).trans rfl; have c31 : w3.cell? ⟨g3, 1, none⟩ = some (.bool true) := (blk_cell HX3.out 1).trans rfl; have hx2 := blk_below HX2.out hb3; have c20 : w3.cell? ⟨g2, 0, none⟩ = some (.slice A xl.length c) := (blk_cell hx2 0).trans rfl; have c21 : w3.cell? ⟨g2, 1, none⟩ = some (.bool true) := (blk_cell hx2 1).trans rfl))
      have HB := below_step hb2 hb3
      refine (compare_calls yl xl B A d c w3 (Kd.C_below HY.out.C HB) (Kd.C_below HX.out.C HB) HY.out.ok.1 HX.out.ok.1).mono ?_
      rw [HF.out]
      rintro e w4 ⟨rfl, hb4⟩
      go_wp2
      go_ret
      exact ⟨rfl, below_step HB hb4⟩
    | false =>
      have HF := Aside0.mk (show cmpS z u = -1 from by rw [← HX.out.val, ← HY.out.val]; exact cmp_mixed HX.out.ok HY.out.ok rfl rfl)
      unfold numV
      go_enter Try.func45, Try.ntmps45
      go_wp2_with (first | ((with_reducible refine gate_dst (N := 2) rfl ?_); refine box_event rfl (N := 2) rfl (cs := #[.slice A xl.length c, .bool true]) (t := 75) ?hr ?_; (case hr => first | (go_simp; done) | (go_simp; rfl)); intro g2 hg2 w2 hbox2 hb2; have HG2 := Aside0.mk hg2; have HX2 := Aside0.mk hbox2; clear hg2 hbox2) | ((with_reducible refine gate_dst (N := 3) rfl ?_); refine box_event rfl (N := 3) rfl (cs := #[.slice B yl.length d, .bool false]) (t := 75) ?hr ?_; (case hr => first | (go_simp; done) | (go_simp; rfl)); intro g3 hg3 w3 hbox3 hb3; have HG3 := Aside0.mk hg3; have HX3 := Aside0.mk hbox3; clear hg3 hbox3; have c30 : w3.cell? ⟨g3, 0, none⟩ = some (.slice B yl.length d) := (blk_cell HX3.out 0).trans rfl; have c31 : w3.cell? ⟨g3, 1, none⟩ = some (.bool false) := (blk_cell HX3.out 1).trans rfl; have hx2 := blk_below HX2.out hb3; have c20 : w3.cell? ⟨g2, 0, none⟩ = some (.slice A xl.length c) := (blk_cell hx2 0).trans rfl; have c21 : w3.cell? ⟨g2, 1, none⟩ = some (.bool true) := (blk_cell hx2 1).trans rfl))
      have HB := below_step hb2 hb3
      first
        | (go_ret; exact ⟨by rw [HF.out]; rfl, HB⟩)
        | (refine (truth_calls true w3).mono ?_
           rintro e w4 ⟨rfl, hb4⟩
           go_wp2
           go_ret
           exact ⟨by rw [HF.out]; rfl, below_step HB hb4⟩)
  | false =>
    cases yn with
    | true =>
      have HF := Aside0.mk (show cmpS z u = 1 from by rw [← HX.out.val, ← HY.out.val]; exact cmp_mixed' HX.out.ok HY.out.ok rfl rfl)
      unfold numV
      go_enter Try.func45, Try.ntmps45
      go_wp2_with (first | ((with_reducible refine gate_dst (N := 2) rfl ?_); refine box_event rfl (N := 2) rfl (cs := #[.slice A xl.length c, .bool false]) (t := 75) ?hr ?_; (case hr => first | (go_simp; done) | (go_simp; rfl)); intro g2 hg2 w2 hbox2 hb2; have HG2 := Aside0.mk hg2; have HX2 := Aside0.mk hbox2; clear hg2 hbox2) | ((with_reducible refine gate_dst (N := 3) rfl ?_); refine box_event rfl (N := 3) rfl (cs := #[.slice B yl.length d, .bool true]) (t := 75) ?hr ?_; (case hr => first | (go_simp; done) | (go_simp; rfl)); intro g3 hg3 w3 hbox3 hb3; have HG3 := Aside0.mk hg3; have HX3 := Aside0.mk hbox3; clear hg3 hbox3; have c30 : w3.cell? ⟨g3, 0, none⟩ = some (.slice B yl.length d) := (blk_cell HX3.out 0).trans rfl; have c31 : w3.cell? ⟨g3, 1, none⟩ = some (.bool true) := (blk_cell HX3.out 1).trans rfl; have hx2 := blk_below HX2.out hb3; have c20 : w3.cell? ⟨g2, 0, none⟩ = some (.slice A xl.length c) := (blk_cell hx2 0).trans rfl; have c21 : w3.cell? ⟨g2, 1, none⟩ = some (.bool false) := (blk_cell hx2 1).trans rfl))
      have HB := below_step hb2 hb3
      first
        | (go_ret; exact ⟨by rw [HF.out]; rfl, HB⟩)
        | (refine (truth_calls false w3).mono ?_
           rintro e w4 ⟨rfl, hb4⟩
           go_wp2
           go_ret
           exact ⟨by rw [HF.out]; rfl, below_step HB hb4⟩)
    | false =>
      have HF := Aside0.mk (show cmpS (val xl) (val yl) = cmpS z u from by rw [← HX.out.val, ← HY.out.val]; rfl)
      unfold numV
      go_enter Try.func45, Try.ntmps45
      go_wp2_with (first | ((with_reducible refine gate_dst (N := 2) rfl ?_); refine box_event rfl (N := 2) rfl (cs := #[.slice A xl.length c, .bool false]) (t := 75) ?hr ?_; (case hr => first | (go_simp; done) | (go_simp; rfl)); intro g2 hg2 w2 hbox2 hb2; have HG2 := Aside0.mk hg2; have HX2 := Aside0.mk hbox2; clear hg2 hbox2) | ((with_reducible refine gate_dst (N := 3) rfl ?_); refine box_event rfl (N := 3) rfl (cs := #[.slice B yl.length d, .bool false]) (t := 75) ?hr ?_; (case hr => first | (go_simp; done) | (go_simp; rfl)); intro g3 hg3 w3 hbox3 hb3; have HG3 := Aside0.mk hg3; have HX3 := Aside0.mk hbox3; clear hg3 hbox3; have c30 : w3.cell? ⟨g3, 0, none⟩ = some (.slice B yl.length d) := (blk_cell HX3.out 0).trans rfl; have c31 : w3.cell? ⟨g3, 1, none⟩ = some (.bool false) := (blk_cell HX3.out 1).trans rfl; have hx2 := blk_below HX2.out hb3; have c20 : w3.cell? ⟨g2, 0, none⟩ = some (.slice A xl.length c) := (blk_cell hx2 0).trans rfl; have c21 : w3.cell? ⟨g2, 1, none⟩ = some (.bool false) := (blk_cell hx2 1).trans rfl))
      have HB := below_step hb2 hb3
      refine (compare_calls xl yl A B c d w3 (Kd.C_below HX.out.C HB) (Kd.C_below HY.out.C HB) HX.out.ok.1 HY.out.ok.1).mono ?_
      rw [HF.out]
      rintro e w4 ⟨rfl, hb4⟩
      go_wp2
      go_ret
      exact ⟨rfl, below_step HB hb4⟩
end Go.Proofs.Ytiokmnabkccpcaa.Kit
