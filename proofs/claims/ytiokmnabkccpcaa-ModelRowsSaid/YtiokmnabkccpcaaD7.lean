/- The model: truths of no operands, formula where all is true, value at a formula. -/
import Derived.Test.YtiokmnabkccpcaaD6
set_option linter.unusedVariables false
set_option linter.unusedSimpArgs false
namespace Go.Proofs.Ytiokmnabkccpcaa.Kit
open Go.RowKit Go.Proofs.YtiokmnabkccpcaaW.PrintWords Go.Proofs.YtiokmnabkccpcaaW.PrintLast Go.Proofs.YtiokmnabkccpcaaW.PrintMore

set_option maxHeartbeats 4000000 in
theorem truths_nil (A : Option Addr) (c : Nat) (g : Nat) (w : World) :
    Calls Try.prog 47 #[.pointer (some ⟨g, 0, none⟩), .slice A 0 c] w (Gives w (.slice none 0 0)) := by
  go_enter Try.func47, Try.ntmps47
  go_wp2
  go_loopg [5, 7, 10] 0 (fun gg v5 _ v10 wr => v5 = .slice none 0 0 ∧ v10 = .int .i64 0 ∧ Aside0 (Below w.heap.size w wr))
  case atStart => exact ⟨rfl, rfl, ⟨Below.refl _ _⟩⟩
  case round =>
    obtain ⟨rfl, rfl, BW⟩ := hrel
    go_wp2
    go_ret
    exact ⟨rfl, BW.out⟩
set_option maxHeartbeats 4000000 in
set_option maxRecDepth 100000 in
theorem formula_true (t : Tm) (hop : t.f0 = 2) (w : World) (cs : List Value) (hK : kTm.K w t cs) (g : Nat) (h2 : t.f4.length = 0) :
    Calls Try.prog 28 #[.pointer (some ⟨g, 0, none⟩), .agg cs.toArray] w (GivesB w (some true)) := by
  obtain ⟨A4, c4, A5, c5, A6, c6, rfl, l4, g4, _, _, _, _⟩ := kTm_open hK
  rw [hop, h2]
  clear hK g4 hop h2 l4
  go_enter Try.func28, Try.ntmps28
  go_wp2_with ((with_reducible refine gate_dst (N := 3) rfl ?_); refine box_event rfl (N := 3) rfl (cs := #[.int .i64 2, .string t.f1, .int .i64 t.f2, .string t.f3, .slice A4 0 c4, .slice A5 t.f5.length c5, .slice A6 t.f6.length c6]) (t := 40) ?hr ?_; (case hr => first | (go_simp; done) | (go_simp; rfl)); intro g3 hg3 w3 hbox3 hb3; have HG3 := Aside0.mk hg3; have HX3 := Aside0.mk hbox3; clear hg3 hbox3; have c30 : w3.cell? ⟨g3, 0, none⟩ = some (.int .i64 2) := (blk_cell HX3.out 0).trans rfl; have c34 : w3.cell? ⟨g3, 4, none⟩ = some (.slice A4 0 c4) := (blk_cell HX3.out 4).trans rfl)
  refine (truths_nil A4 c4 g w3).mono ?_
  rintro e w4 ⟨rfl, hb4⟩
  have c30 : w4.cell? ⟨g3, 0, none⟩ = some (.int .i64 2) := (blk_cell (blk_below HX3.out hb4) 0).trans rfl
  have HB4 := Aside0.mk (below_step hb3 hb4)
  clear hb3 hb4
  go_wp2
  go_ret
  exact ⟨HB4.out, rfl⟩
set_option maxHeartbeats 4000000 in
set_option maxRecDepth 100000 in
theorem value_o2 (t : Tm) (hop : t.f0 = 2) (w : World) (cs : List Value) (hK : kTm.K w t cs) (g : Nat) (R : Option Bool)
    (H : ∀ (W : World), Below w.heap.size w W → Calls Try.prog 28 #[.pointer (some ⟨g, 0, none⟩), .agg cs.toArray] W (GivesB W R)) :
    Calls Try.prog 12 #[.pointer (some ⟨g, 0, none⟩), .agg cs.toArray] w (GivesVl w (R.map .tru)) := by
  have HH := Aside0.mk H
  obtain ⟨A4, c4, A5, c5, A6, c6, rfl, _, _, _, _, _, _⟩ := kTm_open hK
  clear H hK
  rw [hop] at HH ⊢
  clear hop
  go_enter Try.func12, Try.ntmps12
  go_wp2_with (first
    | ((with_reducible refine gate_dst (N := 3) rfl ?_); refine box_event rfl (N := 3) rfl (cs := #[.int .i64 2, .string t.f1, .int .i64 t.f2, .string t.f3, .slice A4 t.f4.length c4, .slice A5 t.f5.length c5, .slice A6 t.f6.length c6]) (t := 40) ?hr ?_; (case hr => first | (go_simp; done) | (go_simp; rfl)); intro g3 hg3 w3 hbox3 hb3; have HG3 := Aside0.mk hg3; have HX3 := Aside0.mk hbox3; clear hg3 hbox3; have c30 : w3.cell? ⟨g3, 0, none⟩ = some (.int .i64 2) := (blk_cell HX3.out 0).trans rfl)
    | ((with_reducible refine gate_dst (N := 132) rfl ?_); refine wpList_load_row rfl 40 _ rfl g3 rfl 40 #[.int .i64 2, .string t.f1, .int .i64 t.f2, .string t.f3, .slice A4 t.f4.length c4, .slice A5 t.f5.length c5, .slice A6 t.f6.length c6] (0, 0) _ HX3.out Try.underlying40 rfl size_Tm ?_))
  refine (HH.out w3 hb3).mono ?_
  have HB3 := Aside0.mk hb3
  clear hb3 c30
  cases R with
  | none =>
    rintro e w5 ⟨hb5, rfl⟩
    have HB5 := Aside0.mk (below_step HB3.out hb5)
    clear hb5
    go_wp2_with fail
    exact ⟨rfl, HB5.out, rfl⟩
  | some u =>
    rintro e w5 ⟨hb5, rfl⟩
    have HB5 := Aside0.mk (below_step HB3.out hb5)
    clear hb5
    go_wp2
    go_ret
    exact ⟨HB5.out, _, rfl, rfl⟩
set_option maxHeartbeats 4000000 in
set_option maxRecDepth 100000 in
theorem value_o11 (t : Tm) (hop : t.f0 = 11) (w : World) (cs : List Value) (hK : kTm.K w t cs) (g : Nat) (R : Option Bool)
    (H : ∀ (W : World), Below w.heap.size w W → Calls Try.prog 28 #[.pointer (some ⟨g, 0, none⟩), .agg cs.toArray] W (GivesB W R)) :
    Calls Try.prog 12 #[.pointer (some ⟨g, 0, none⟩), .agg cs.toArray] w (GivesVl w (R.map .tru)) := by
  have HH := Aside0.mk H
  obtain ⟨A4, c4, A5, c5, A6, c6, rfl, _, _, _, _, _, _⟩ := kTm_open hK
  clear H hK
  rw [hop] at HH ⊢
  clear hop
  go_enter Try.func12, Try.ntmps12
  go_wp2_with (first
    | ((with_reducible refine gate_dst (N := 3) rfl ?_); refine box_event rfl (N := 3) rfl (cs := #[.int .i64 11, .string t.f1, .int .i64 t.f2, .string t.f3, .slice A4 t.f4.length c4, .slice A5 t.f5.length c5, .slice A6 t.f6.length c6]) (t := 40) ?hr ?_; (case hr => first | (go_simp; done) | (go_simp; rfl)); intro g3 hg3 w3 hbox3 hb3; have HG3 := Aside0.mk hg3; have HX3 := Aside0.mk hbox3; clear hg3 hbox3; have c30 : w3.cell? ⟨g3, 0, none⟩ = some (.int .i64 11) := (blk_cell HX3.out 0).trans rfl)
    | ((with_reducible refine gate_dst (N := 132) rfl ?_); refine wpList_load_row rfl 40 _ rfl g3 rfl 40 #[.int .i64 11, .string t.f1, .int .i64 t.f2, .string t.f3, .slice A4 t.f4.length c4, .slice A5 t.f5.length c5, .slice A6 t.f6.length c6] (0, 0) _ HX3.out Try.underlying40 rfl size_Tm ?_))
  refine (HH.out w3 hb3).mono ?_
  have HB3 := Aside0.mk hb3
  clear hb3 c30
  cases R with
  | none =>
    rintro e w5 ⟨hb5, rfl⟩
    have HB5 := Aside0.mk (below_step HB3.out hb5)
    clear hb5
    go_wp2_with fail
    exact ⟨rfl, HB5.out, rfl⟩
  | some u =>
    rintro e w5 ⟨hb5, rfl⟩
    have HB5 := Aside0.mk (below_step HB3.out hb5)
    clear hb5
    go_wp2
    go_ret
    exact ⟨HB5.out, _, rfl, rfl⟩
end Go.Proofs.Ytiokmnabkccpcaa.Kit
