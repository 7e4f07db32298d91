/- Terms: the checker's of, a function's application. -/
import Derived.Test.YtiokmnabkccpcaaBe
import Derived.Deep.QuietTactic
import Derived.BigQuiet
set_option linter.unusedVariables false
set_option linter.unusedSimpArgs false
namespace Go.Proofs.Ytiokmnabkccpcaa.Kit
open Go.RowKit Go.Proofs.YtiokmnabkccpcaaW.PrintWords Go.Proofs.YtiokmnabkccpcaaW.PrintLast Go.Proofs.YtiokmnabkccpcaaW.PrintMore

theorem idxOf_lt {α : Type} (p : α → Bool) (xs : List α) : idxOf p xs < xs.length := by
  unfold idxOf
  split
  · rename_i i h
    have := (List.findIdx?_eq_some_iff_getElem.1 h).1
    omega
  · omega
theorem idxOf_ge {α : Type} (p : α → Bool) (xs : List α) : -1 ≤ idxOf p xs := by
  unfold idxOf
  split <;> omega

set_option maxHeartbeats 1000000 in
theorem of1_calls (x : Sg) (name : ByteArray) (W : World) (cs : List Value) (hK : kSg.K W x cs) (B : Nat) (hB : W.cell? ⟨B, 1, none⟩ = some (.string name)) :
    Calls Try.prog 52 #[.agg cs.toArray, .pointer (some ⟨B, 0, none⟩)] W (Gives W (.bool (x.f0.toList == name.toList))) := by
  obtain ⟨A1, c1, rfl, l1, g1⟩ := kSg_open hK
  clear hK g1
  go_enter Try.func52, Try.ntmps52
  go_wp2_with ((with_reducible refine gate_dst (N := 2) rfl ?_); refine box_event rfl (N := 2) rfl (cs := #[.string x.f0, .slice A1 x.f1.length c1, .int .i64 x.f2]) (t := 35) ?hr ?_; (case hr => first | (go_simp; done) | (go_simp; rfl)); intro g2 hg2 w2 hbox2 hb2; have HG2 := Aside0.mk hg2; have HX2 := Aside0.mk hbox2; clear hg2 hbox2; have c0 : w2.cell? ⟨g2, 0, none⟩ = some (.string x.f0) := (blk_cell HX2.out 0).trans rfl; have c1 : w2.cell? ⟨B, 1, none⟩ = some (.string name) := (hb2.cell (World.block_lt_of_cell? _ _ hB)).trans hB)
  go_ret
  exact ⟨rfl, hb2⟩

set_option maxHeartbeats 4000000 in
set_option maxRecDepth 100000 in
theorem of_o17 (name : ByteArray) (sort : Int) (n : ByteArray) (l : List Tm) (vs : List Bd) (ps : List Tm) (w : World) (g : Nat) (A4 : Option Addr) (c4 : Nat) (A5 : Option Addr) (c5 : Nat) (A6 : Option Addr) (c6 : Nat) (l4 : l.length ≤ c4) (l5 : vs.length ≤ c5) (l6 : ps.length ≤ c6) (sig : List Sg) (bs : List Bd)
    (AS : Option Addr) (cS : Nat) (hs0 : w.cell? ⟨g, 0, none⟩ = some (.slice AS sig.length cS)) (hlS : sig.length ≤ cS) (hCS : kSg.C w AS sig.length sig) :
    Calls Try.prog 31 #[.pointer (some ⟨g, 0, none⟩), .agg #[.int .i64 17, .string name, .int .i64 sort, .string n, .slice A4 l.length c4, .slice A5 vs.length c5, .slice A6 ps.length c6]] w (GivesNd w (ofS sig bs ⟨17, name, sort, n, l, vs, ps⟩)) := by
  have HCS := Aside0.mk hCS
  have hmf : ∀ (fn : Fn) (first cap : Array Value) (w : World), (Instr.makeFunc fn first cap).run Try.prog w = .ok (.func fn first cap) w := fun _ _ _ _ => rfl
  clear hCS
  go_enter Try.func31, Try.ntmps31
  go_wp2_with (first
    | ((with_reducible refine gate_dst (N := 3) rfl ?_); refine box_event rfl (N := 3) rfl (cs := #[.int .i64 17, .string name, .int .i64 sort, .string n, .slice A4 l.length c4, .slice A5 vs.length c5, .slice A6 ps.length c6]) (t := 40) ?hr ?_; (case hr => first | (go_simp; done) | (go_simp; rfl)); intro g3 hg3 w3 hbox3 hb3; have HG3 := Aside0.mk hg3; have HX3 := Aside0.mk hbox3; clear hg3 hbox3)
    | ((with_reducible refine gate_dst (N := 4) rfl ?_); refine box_event rfl (N := 4) rfl (cs := #[.nilIface]) (t := 88) ?hr ?_; (case hr => first | (go_simp; done) | (go_simp; rfl)); intro g4 hg4 w4 hbox4 hb4; have HG4 := Aside0.mk hg4; have HX4 := Aside0.mk hbox4; clear hg4 hbox4)
    | ((with_reducible refine gate_dst (N := 5) rfl ?_); refine box_event rfl (N := 5) rfl (cs := #[.int .i64 0]) (t := 41) ?hr ?_; (case hr => first | (go_simp; done) | (go_simp; rfl)); intro g5 hg5 w5 hbox5 hb5; have HG5 := Aside0.mk hg5; have HX5 := Aside0.mk hbox5; clear hg5 hbox5)
    | ((with_reducible refine gate_dst (N := 12) rfl ?_); (obtain ⟨w6, hw6⟩ : ∃ w6, w6 = w5.alloc (.cells #[.int .i64 2, .int .i64 2] 92) := ⟨_, rfl⟩); (obtain ⟨g6, hg6⟩ : ∃ g6, g6 = w5.heap.size := ⟨_, rfl⟩); rw [← hw6]; rw [← hg6]; (have hb6 : Below w5.heap.size w5 w6 := (by rw [hw6]; exact (Below.refl _ _).alloc (Nat.le_refl _) _)); (have HX6 := Aside0.mk (show w6.heap[g6]? = some (.cells #[.int .i64 2, .int .i64 2] 92 (0, 0)) from (by rw [hw6, hg6]; exact blk_new _ _))); have HG6 := Aside0.mk hg6; clear hw6 hg6; have hbb := Aside0.mk (below_step (below_step (below_step hb3 hb4) hb5) hb6); have c30 : w6.cell? ⟨g3, 0, none⟩ = some (.int .i64 17) := (blk_cell (blk_below (blk_below (blk_below HX3.out hb4) hb5) hb6) 0).trans rfl; have hx3 := blk_below (blk_below (blk_below HX3.out hb4) hb5) hb6; have hx4 := blk_below (blk_below HX4.out hb5) hb6; have hx5 := blk_below HX5.out hb6; have hg3 := HG3.out; have hg4 := HG4.out; have hg5 := HG5.out; have hg6 := HG6.out; have hs4 := hb3.size; have hs5 := hb4.size; have HNE := Aside0.mk (show g4 ≠ g5 ∧ w.heap.size ≤ g4 ∧ w.heap.size ≤ g5 from ⟨by have := blk_lt HX4.out; omega, by omega, by omega⟩); replace hs0 := (hbb.out.cell (World.block_lt_of_cell? _ _ hs0)).trans hs0; clear hb3 hb4 hb5 hb6 hg3 hg4 hg5 hg6 hs4 hs5))
  refine (indexFunc_Sg sig AS cS 52 #[.pointer (some ⟨g3, 0, none⟩)] (fun args w => enters_ Try.func52 (by kernel_rfl) rfl args w) (fun f => f.f0.toList == name.toList) w6 (Kd.C_below HCS.out hbb.out) (fun j hj z W cs hW hK => by
    refine (of1_calls _ name W cs hK g3 ((hW.cell (blk_lt hx3)).trans ((blk_cell hx3 1).trans rfl))).mono ?_
    rintro e w' ⟨rfl, hb'⟩
    exact ⟨rfl, below_step hW hb'⟩) HCS.out.2.1).mono ?_
  rintro e w' ⟨rfl, hb⟩
  have HB := Aside0.mk (below_step hbb.out hb)
  have hq0 := idxOf_lt (fun f : Sg => f.f0.toList == name.toList) sig
  have hq1 := idxOf_ge (fun f : Sg => f.f0.toList == name.toList) sig
  obtain ⟨i, hi⟩ : ∃ i, i = idxOf (fun f : Sg => f.f0.toList == name.toList) sig := ⟨_, rfl⟩
  rw [← hi] at hq0 hq1
  rw [← hi]
  replace hx3 := blk_below hx3 hb
  replace hx4 := blk_below hx4 hb
  replace hx5 := blk_below hx5 hb
  replace hs0 := (hb.cell (World.block_lt_of_cell? _ _ hs0)).trans hs0
  have HI := Aside0.mk hi
  have HX6' := HX6
  clear hi hb HX6' c30
  by_cases hneg : i < 0
  · have HF := Aside0.mk (show ofS sig bs ⟨17, name, sort, n, l, vs, ps⟩ = .error 32 from by
      simp only [ofS]
      rw [← HI.out]
      simp [hneg])
    have hneg' : decide (i < 0) = true := decide_eq_true hneg
    clear hneg
    go_wp2_with (first
    | ((with_reducible refine gate_store (p := 4) rfl ?_); refine store_one_event rfl rfl 88 _ _ rfl g4 _ rfl rfl rfl rfl 88 _ hx4 one_node ?_; intro w7 hx7 hw7; have hx57 := (hw7.other _ HNE.out.1.symm).trans hx5)
    | ((with_reducible refine gate_store (p := 5) rfl ?_); refine store_one_event rfl rfl 41 _ _ rfl g5 _ rfl rfl rfl rfl 41 _ hx57 one_errno ?_; intro w8 hx8 hw8; have hx48 := (hw8.other _ HNE.out.1).trans hx7))
    refine bodyPost_ret (results_two_ones rfl _ _ g4 g5 88 41 _ _ _ _ rfl hx48 Try.underlying88 rfl rfl hx8 Try.underlying41 rfl) rfl ?_
    exact ⟨hw8.below _ _ HNE.out.2.2 (hw7.below _ _ HNE.out.2.1 HB.out), by rw [HF.out]; exact ⟨by decide, rfl⟩⟩
  · have hneg' : decide (i < 0) = false := decide_eq_false hneg
    obtain ⟨k, rfl⟩ : ∃ k : Nat, i = (k : Int) := ⟨i.toNat, by omega⟩
    have hkl : k < sig.length := by omega
    obtain ⟨ad, B1, d1, e, hy0, hy1, hy2, hyl, hyC⟩ := at_TSg HCS.out (k : Int) (by omega) (by omega)
    subst e
    obtain ⟨f, hf⟩ : ∃ f, f = rd_TSg sig (k : Int) := ⟨_, rfl⟩
    rw [← hf] at hy0 hy1 hy2 hyl hyC
    rw [show ((k : Int)).toNat = k from rfl] at hy0 hy1 hy2
    replace hy0 := (HB.out.cell (World.block_lt_of_cell? _ _ hy0)).trans hy0
    replace hy1 := (HB.out.cell (World.block_lt_of_cell? _ _ hy1)).trans hy1
    replace hy2 := (HB.out.cell (World.block_lt_of_cell? _ _ hy2)).trans hy2
    have HYC := Aside0.mk hyC
    have HF0 := Aside0.mk hf
    have c34 : w'.cell? ⟨g3, 4, none⟩ = some (.slice A4 l.length c4) := (blk_cell hx3 4).trans rfl
    clear hyC hf hneg hq0 hq1
    cases hlen : ((l.length : Int) != (f.f1.length : Int)) with
    | true =>
      have HF := Aside0.mk (show ofS sig bs ⟨17, name, sort, n, l, vs, ps⟩ = .error 30 from by
        simp only [ofS]
        rw [← HI.out, ← HF0.out]
        have : ¬ l.length = f.f1.length := by
          have := bne_iff_ne.1 hlen
          omega
        simp [this])
      go_wp2
      go_quiet (fail)
      go_wp2_with (first
      | ((with_reducible refine gate_store (p := 4) rfl ?_); refine store_one_event rfl rfl 88 _ _ rfl g4 _ rfl rfl rfl rfl 88 _ hx4 one_node ?_; intro w7 hx7 hw7; have hx57 := (hw7.other _ HNE.out.1.symm).trans hx5)
      | ((with_reducible refine gate_store (p := 5) rfl ?_); refine store_one_event rfl rfl 41 _ _ rfl g5 _ rfl rfl rfl rfl 41 _ hx57 one_errno ?_; intro w8 hx8 hw8; have hx48 := (hw8.other _ HNE.out.1).trans hx7))
      refine bodyPost_ret (results_two_ones rfl _ _ g4 g5 88 41 _ _ _ _ rfl hx48 Try.underlying88 rfl rfl hx8 Try.underlying41 rfl) rfl ?_
      exact ⟨hw8.below _ _ HNE.out.2.2 (hw7.below _ _ HNE.out.2.1 (by repeat (first | exact HB.out | apply pw_below_drewN))), by rw [HF.out]; exact ⟨by decide, rfl⟩⟩
    | false =>
      have HF := Aside0.mk (show ofS sig bs ⟨17, name, sort, n, l, vs, ps⟩ = .ok (.fn f) from by
        simp only [ofS]
        rw [← HI.out, ← HF0.out]
        have : l.length = f.f1.length := by
          have h := bne_eq_false_iff_eq.1 hlen
          omega
        simp [this])
      go_wp2
      go_quiet (fail)
      go_wp2_with (first
      | ((with_reducible refine gate_dst (N := 99) rfl ?_); refine wpList_load_cells rfl 35 _ rfl _ rfl [.string f.f0, .slice B1 f.f1.length d1, .int .i64 f.f2] _ Try.underlying35 rfl size_Sg (fun j v hj => by rcases j with _ | _ | _ | j <;> first | (injection hj with hj; subst hj; first | exact hy0 | exact hy1 | exact hy2) | (simp at hj)) ?_)
      | ((with_reducible refine gate_store (p := 4) rfl ?_); refine store_one_event rfl rfl 88 _ _ rfl g4 _ rfl rfl rfl rfl 88 _ hx4 one_node ?_; intro w7 hx7 hw7; have hx57 := (hw7.other _ HNE.out.1.symm).trans hx5)
      | ((with_reducible refine gate_store (p := 5) rfl ?_); refine store_one_event rfl rfl 41 _ _ rfl g5 _ rfl rfl rfl rfl 41 _ hx57 one_errno ?_; intro w8 hx8 hw8; have hx48 := (hw8.other _ HNE.out.1).trans hx7))
      refine bodyPost_ret (results_two_ones rfl _ _ g4 g5 88 41 _ _ _ _ rfl hx48 Try.underlying88 rfl rfl hx8 Try.underlying41 rfl) rfl ?_
      have hfin := hw8.below _ _ HNE.out.2.2 (hw7.below _ _ HNE.out.2.1 (by repeat (first | exact HB.out | apply pw_below_drewN)))
      exact ⟨hfin, by rw [HF.out]; exact ⟨_, rfl, _, rfl, kSg_mk _ f hyl (Kd.C_below HYC.out hfin)⟩⟩
end Go.Proofs.Ytiokmnabkccpcaa.Kit
