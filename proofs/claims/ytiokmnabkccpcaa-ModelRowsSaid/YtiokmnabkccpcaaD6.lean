/- The model: formula, a comparison (a panic of the first operand, or two numbers), and what is always true. -/
import Derived.Test.YtiokmnabkccpcaaD5
set_option linter.unusedVariables false
set_option linter.unusedSimpArgs false
namespace Go.Proofs.Ytiokmnabkccpcaa.Kit
open Go.RowKit Go.Proofs.YtiokmnabkccpcaaW.PrintWords Go.Proofs.YtiokmnabkccpcaaW.PrintLast Go.Proofs.YtiokmnabkccpcaaW.PrintMore

def GivesB (w : World) (r : Option Bool) : Ending → World → Prop := fun e w' => Below w.heap.size w w' ∧ match r with
  | some b => e = .returned (.bool b)
  | none => e = .panicked [{ v := failV, recovered := false }]
set_option maxHeartbeats 4000000 in
set_option maxRecDepth 100000 in
theorem formula_lt_none (t : Tm) (hop : t.f0 = 11) (w : World) (cs : List Value) (hK : kTm.K w t cs) (g : Nat) (h2 : t.f4.length = 2)
    (H : ∀ (W : World) (cs' : List Value), Below w.heap.size w W → kTm.K W (t.f4.getD 0 zTm) cs' → Calls Try.prog 20 #[.pointer (some ⟨g, 0, none⟩), .agg cs'.toArray] W (GivesInt W none)) :
    Calls Try.prog 28 #[.pointer (some ⟨g, 0, none⟩), .agg cs.toArray] w (GivesB w none) := by
  have HH := Aside0.mk H
  obtain ⟨A4, c4, A5, c5, A6, c6, rfl, l4, g4, _, _, _, _⟩ := kTm_open hK
  obtain ⟨ad, cs, e, hl, hKx, hc⟩ := Kd.C_get g4 zTm (0 : Int) (by omega) (by omega)
  subst e
  replace hKx : kTm.K w (t.f4.getD 0 zTm) cs := hKx
  obtain ⟨x, hx⟩ : ∃ x, x = t.f4.getD 0 zTm := ⟨_, rfl⟩
  rw [← hx] at hKx
  have HXE := Aside0.mk hx
  have HKx := Aside0.mk hKx
  obtain ⟨B4, d4, B5, d5, B6, d6, rfl, _, _, _, _, _, _⟩ := kTm_open hKx
  have HL := Aside0.mk (show ∀ j v, [.int .i64 x.f0, .string x.f1, .int .i64 x.f2, .string x.f3, .slice B4 x.f4.length d4, .slice B5 x.f5.length d5, .slice B6 x.f6.length d6][j]? = some v → w.cell? (ad.add j) = some v from fun j v hv => by
    have h := hc j v hv
    rwa [show (0 : Int).toNat * kTm.sz + j = j by simp] at h)
  rw [hop, h2]
  have hc2 : 2 ≤ c4 := by omega
  clear H hK g4 hKx hc hop h2 l4 hx hl
  go_enter Try.func28, Try.ntmps28
  go_wp2_with (first
    | ((with_reducible refine gate_dst (N := 3) rfl ?_); refine box_event rfl (N := 3) rfl (cs := #[.int .i64 11, .string t.f1, .int .i64 t.f2, .string t.f3, .slice (some ad) 2 c4, .slice A5 t.f5.length c5, .slice A6 t.f6.length c6]) (t := 40) ?hr ?_; (case hr => first | (go_simp; done) | (go_simp; rfl)); intro g3 hg3 w3 hbox3 hb3; have HG3 := Aside0.mk hg3; have HX3 := Aside0.mk hbox3; clear hg3 hbox3; have c30 : w3.cell? ⟨g3, 0, none⟩ = some (.int .i64 11) := (blk_cell HX3.out 0).trans rfl; have c34 : w3.cell? ⟨g3, 4, none⟩ = some (.slice (some ad) 2 c4) := (blk_cell HX3.out 4).trans rfl)
    | ((with_reducible refine gate_dst (N := 36) rfl ?_); refine wpList_load_cells rfl 40 _ rfl ad rfl [.int .i64 x.f0, .string x.f1, .int .i64 x.f2, .string x.f3, .slice B4 x.f4.length d4, .slice B5 x.f5.length d5, .slice B6 x.f6.length d6] _ Try.underlying40 rfl size_Tm (fun j v hv => (hb3.cell (World.block_lt_of_cell? _ _ (HL.out j v hv))).trans (HL.out j v hv)) ?_))
  refine (HH.out w3 _ hb3 (by rw [← HXE.out]; exact kTm.K_below hb3 HKx.out)).mono ?_
  rintro e w4 ⟨hb4, rfl⟩
  have HB4 := Aside0.mk (below_step hb3 hb4)
  clear hb3 hb4
  go_wp2_with fail
  exact ⟨rfl, HB4.out, rfl⟩

theorem keepc {w w1 : World} {p : Addr} {v : Value} (hb : Below w.heap.size w w1) (h : w.cell? p = some v) : w1.cell? p = some v := (hb.cell (World.block_lt_of_cell? _ _ h)).trans h
theorem keep10 {w w1 : World} {p0 p1 p2 p3 p4 p5 p6 p7 p8 p9 : Addr} {v0 v1 v2 v3 v4 v5 v6 v7 v8 v9 : Value} (h : w.cell? p0 = some v0 ∧ w.cell? p1 = some v1 ∧ w.cell? p2 = some v2 ∧ w.cell? p3 = some v3 ∧ w.cell? p4 = some v4 ∧ w.cell? p5 = some v5 ∧ w.cell? p6 = some v6 ∧ w.cell? p7 = some v7 ∧ w.cell? p8 = some v8 ∧ w.cell? p9 = some v9) (hb : Below w.heap.size w w1) : w1.cell? p0 = some v0 ∧ w1.cell? p1 = some v1 ∧ w1.cell? p2 = some v2 ∧ w1.cell? p3 = some v3 ∧ w1.cell? p4 = some v4 ∧ w1.cell? p5 = some v5 ∧ w1.cell? p6 = some v6 ∧ w1.cell? p7 = some v7 ∧ w1.cell? p8 = some v8 ∧ w1.cell? p9 = some v9 ∧ Below w.heap.size w w1 :=
  let ⟨h0, h1, h2, h3, h4, h5, h6, h7, h8, h9⟩ := h
  ⟨keepc hb h0, keepc hb h1, keepc hb h2, keepc hb h3, keepc hb h4, keepc hb h5, keepc hb h6, keepc hb h7, keepc hb h8, keepc hb h9, hb⟩
theorem lt_cmp (a b : Int) : decide (cmpS a b < 0) = decide (a < b) := by
  unfold cmpS
  by_cases h : a < b
  · simp [h]
  · by_cases e : a = b
    · simp [e]
    · simp [h, e]
      split <;> omega
set_option maxHeartbeats 4000000 in
set_option maxRecDepth 100000 in
theorem formula_lt_some (t : Tm) (hop : t.f0 = 11) (w : World) (cs : List Value) (hK : kTm.K w t cs) (g : Nat) (h2 : t.f4.length = 2) (a b : Int)
    (H : ∀ (W : World) (cs' : List Value), Below w.heap.size w W → kTm.K W (t.f4.getD 0 zTm) cs' → Calls Try.prog 20 #[.pointer (some ⟨g, 0, none⟩), .agg cs'.toArray] W (GivesInt W (some a)))
    (H1 : ∀ (W : World) (cs' : List Value), Below w.heap.size w W → kTm.K W (t.f4.getD 1 zTm) cs' → Calls Try.prog 20 #[.pointer (some ⟨g, 0, none⟩), .agg cs'.toArray] W (GivesInt W (some b))) :
    Calls Try.prog 28 #[.pointer (some ⟨g, 0, none⟩), .agg cs.toArray] w (GivesB w (some (decide (a < b)))) := by
  have HH := Aside0.mk H
  have HH1 := Aside0.mk H1
  obtain ⟨A4, c4, A5, c5, A6, c6, rfl, l4, g4, _, _, _, _⟩ := kTm_open hK
  obtain ⟨ad, cs, e, hl, hKx, hc⟩ := Kd.C_get g4 zTm (0 : Int) (by omega) (by omega)
  subst e
  obtain ⟨ad', cs1, e, hl1, hKy, hc1⟩ := Kd.C_get g4 zTm (1 : Int) (by omega) (by omega)
  injection e with e
  subst e
  replace hKx : kTm.K w (t.f4.getD 0 zTm) cs := hKx
  replace hKy : kTm.K w (t.f4.getD 1 zTm) cs1 := hKy
  obtain ⟨x, hx⟩ : ∃ x, x = t.f4.getD 0 zTm := ⟨_, rfl⟩
  obtain ⟨y, hy⟩ : ∃ y, y = t.f4.getD 1 zTm := ⟨_, rfl⟩
  rw [← hx] at hKx
  rw [← hy] at hKy
  have HXE := Aside0.mk hx
  have HYE := Aside0.mk hy
  have HKx := Aside0.mk hKx
  have HKy := Aside0.mk hKy
  obtain ⟨B4, d4, B5, d5, B6, d6, rfl, _, _, _, _, _, _⟩ := kTm_open hKx
  obtain ⟨C4, e4, C5, e5, C6, e6, rfl, _, _, _, _, _, _⟩ := kTm_open hKy
  have HL := Aside0.mk (show ∀ j v, [.int .i64 x.f0, .string x.f1, .int .i64 x.f2, .string x.f3, .slice B4 x.f4.length d4, .slice B5 x.f5.length d5, .slice B6 x.f6.length d6][j]? = some v → w.cell? (ad.add j) = some v from fun j v hv => by
    have h := hc j v hv
    rwa [show (0 : Int).toNat * kTm.sz + j = j by simp] at h)
  have HL1 := Aside0.mk (show ∀ j v, [.int .i64 y.f0, .string y.f1, .int .i64 y.f2, .string y.f3, .slice C4 y.f4.length e4, .slice C5 y.f5.length e5, .slice C6 y.f6.length e6][j]? = some v → w.cell? (ad.add (7 + j)) = some v from fun j v hv => hc1 j v hv)
  rw [hop, h2]
  have hc2 : 2 ≤ c4 := by omega
  clear H H1 hK g4 hKx hKy hc hc1 hop h2 l4 hx hy hl hl1
  go_enter Try.func28, Try.ntmps28
  go_wp2_with (first
    | ((with_reducible refine gate_dst (N := 3) rfl ?_); refine box_event rfl (N := 3) rfl (cs := #[.int .i64 11, .string t.f1, .int .i64 t.f2, .string t.f3, .slice (some ad) 2 c4, .slice A5 t.f5.length c5, .slice A6 t.f6.length c6]) (t := 40) ?hr ?_; (case hr => first | (go_simp; done) | (go_simp; rfl)); intro g3 hg3 w3 hbox3 hb3; have HG3 := Aside0.mk hg3; have HX3 := Aside0.mk hbox3; clear hg3 hbox3; have c30 : w3.cell? ⟨g3, 0, none⟩ = some (.int .i64 11) := (blk_cell HX3.out 0).trans rfl; have c34 : w3.cell? ⟨g3, 4, none⟩ = some (.slice (some ad) 2 c4) := (blk_cell HX3.out 4).trans rfl)
    | ((with_reducible refine gate_dst (N := 36) rfl ?_); refine wpList_load_cells rfl 40 _ rfl ad rfl [.int .i64 x.f0, .string x.f1, .int .i64 x.f2, .string x.f3, .slice B4 x.f4.length d4, .slice B5 x.f5.length d5, .slice B6 x.f6.length d6] _ Try.underlying40 rfl size_Tm (fun j v hv => (hb3.cell (World.block_lt_of_cell? _ _ (HL.out j v hv))).trans (HL.out j v hv)) ?_))
  refine (HH.out w3 _ hb3 (by rw [← HXE.out]; exact kTm.K_below hb3 HKx.out)).mono ?_
  rintro e w4 ⟨hb4, A, c, xn, rfl, hxn, hxl⟩
  have HB4 := Aside0.mk (below_step hb3 hb4)
  have HX34 := Aside0.mk (blk_below HX3.out hb4)
  have HXN := Aside0.mk hxn
  clear hb3 hb4 c30 c34 hxn hxl
  unfold numV
  go_wp2_with fail
  obtain ⟨w6, hw6⟩ : ∃ w6, w6 = w4.alloc (.cells #[.slice A xn.f0.length c, .bool xn.f1] 75) := ⟨_, rfl⟩
  obtain ⟨g6, hg6⟩ : ∃ g6, g6 = w4.heap.size := ⟨_, rfl⟩
  rw [← hw6, ← hg6]
  have hb6 : Below w4.heap.size w4 w6 := by rw [hw6]; exact (Below.refl _ _).alloc (Nat.le_refl _) _
  have hx6 : w6.heap[g6]? = some (.cells #[.slice A xn.f0.length c, .bool xn.f1] 75 (0, 0)) := by rw [hw6, hg6]; exact blk_new _ _
  have HX36 := Aside0.mk (blk_below HX34.out hb6)
  have HX6 := Aside0.mk hx6
  have HB6 := Aside0.mk (below_step HB4.out hb6)
  have HXN6 := Aside0.mk (HXN.out.below hb6)
  clear hw6 hg6 hb6 hx6
  have c34 : w6.cell? ⟨g3, 4, none⟩ = some (.slice (some ad) 2 c4) := (blk_cell HX36.out 4).trans rfl
  have c60 : w6.cell? ⟨g6, 0, none⟩ = some (.slice A xn.f0.length c) := (blk_cell HX6.out 0).trans rfl
  have c61 : w6.cell? ⟨g6, 1, none⟩ = some (.bool xn.f1) := (blk_cell HX6.out 1).trans rfl
  have HLY := Aside0.mk (show ∀ j v, [.int .i64 y.f0, .string y.f1, .int .i64 y.f2, .string y.f3, .slice C4 y.f4.length e4, .slice C5 y.f5.length e5, .slice C6 y.f6.length e6][j]? = some v → w6.cell? (ad.add (7 + j)) = some v from fun j v hv => (HB6.out.cell (World.block_lt_of_cell? _ _ (HL1.out j v hv))).trans (HL1.out j v hv))
  have y0 : w6.cell? ⟨ad.block, ad.off + 7, none⟩ = some (.int .i64 y.f0) := HLY.out 0 _ rfl
  have y1 : w6.cell? ⟨ad.block, ad.off + 7 + 1, none⟩ = some (.string y.f1) := HLY.out 1 _ rfl
  have y2 : w6.cell? ⟨ad.block, ad.off + 7 + 2, none⟩ = some (.int .i64 y.f2) := HLY.out 2 _ rfl
  have y3 : w6.cell? ⟨ad.block, ad.off + 7 + 3, none⟩ = some (.string y.f3) := HLY.out 3 _ rfl
  have y4 : w6.cell? ⟨ad.block, ad.off + 7 + 4, none⟩ = some (.slice C4 y.f4.length e4) := HLY.out 4 _ rfl
  have y5 : w6.cell? ⟨ad.block, ad.off + 7 + 5, none⟩ = some (.slice C5 y.f5.length e5) := HLY.out 5 _ rfl
  have y6 : w6.cell? ⟨ad.block, ad.off + 7 + 6, none⟩ = some (.slice C6 y.f6.length e6) := HLY.out 6 _ rfl
  have HS6 : (w6.drew.cell? ⟨g3, 4, none⟩ = some (.slice (some ad) 2 c4) ∧ w6.drew.cell? ⟨g6, 0, none⟩ = some (.slice A xn.f0.length c) ∧ w6.drew.cell? ⟨g6, 1, none⟩ = some (.bool xn.f1) ∧ w6.drew.cell? ⟨ad.block, ad.off + 7, none⟩ = some (.int .i64 y.f0) ∧ w6.drew.cell? ⟨ad.block, ad.off + 7 + 1, none⟩ = some (.string y.f1) ∧ w6.drew.cell? ⟨ad.block, ad.off + 7 + 2, none⟩ = some (.int .i64 y.f2) ∧ w6.drew.cell? ⟨ad.block, ad.off + 7 + 3, none⟩ = some (.string y.f3) ∧ w6.drew.cell? ⟨ad.block, ad.off + 7 + 4, none⟩ = some (.slice C4 y.f4.length e4) ∧ w6.drew.cell? ⟨ad.block, ad.off + 7 + 5, none⟩ = some (.slice C5 y.f5.length e5) ∧ w6.drew.cell? ⟨ad.block, ad.off + 7 + 6, none⟩ = some (.slice C6 y.f6.length e6) ∧ Below w6.heap.size w6 w6.drew) := ⟨c34, c60, c61, y0, y1, y2, y3, y4, y5, y6, (Below.refl _ _).drew⟩
  have HC1 := Aside0.mk (show Calls Try.prog 20 #[.pointer (some ⟨g, 0, none⟩), .agg #[.int .i64 y.f0, .string y.f1, .int .i64 y.f2, .string y.f3, .slice C4 y.f4.length e4, .slice C5 y.f5.length e5, .slice C6 y.f6.length e6]] w6.drew (fun e w' => ∃ A' c' yn, e = .returned (numV A' c' yn) ∧ Below w6.heap.size w6 w' ∧ NumAt w' A' c' yn b) from by
    refine (HH1.out w6.drew _ (HB6.out.drew) (by rw [← HYE.out]; exact kTm.K_below HB6.out.drew HKy.out)).mono ?_
    rintro e w' ⟨hb', A', c', yn, rfl, hyn, _⟩
    exact ⟨A', c', yn, rfl, (Below.refl _ _).drew.trans hb', hyn⟩)
  have HC0 := Aside0.mk (And.intro c34 (And.intro c60 (And.intro c61 (And.intro y0 (And.intro y1 (And.intro y2 (And.intro y3 (And.intro y4 (And.intro y5 y6)))))))))
  clear c34 c60 c61 y0 y1 y2 y3 y4 y5 y6
  go_region_held3 (fun w' => w'.cell? ⟨g3, 4, none⟩ = some (.slice (some ad) 2 c4) ∧ w'.cell? ⟨g6, 0, none⟩ = some (.slice A xn.f0.length c) ∧ w'.cell? ⟨g6, 1, none⟩ = some (.bool xn.f1) ∧ w'.cell? ⟨ad.block, ad.off + 7, none⟩ = some (.int .i64 y.f0) ∧ w'.cell? ⟨ad.block, ad.off + 7 + 1, none⟩ = some (.string y.f1) ∧ w'.cell? ⟨ad.block, ad.off + 7 + 2, none⟩ = some (.int .i64 y.f2) ∧ w'.cell? ⟨ad.block, ad.off + 7 + 3, none⟩ = some (.string y.f3) ∧ w'.cell? ⟨ad.block, ad.off + 7 + 4, none⟩ = some (.slice C4 y.f4.length e4) ∧ w'.cell? ⟨ad.block, ad.off + 7 + 5, none⟩ = some (.slice C5 y.f5.length e5) ∧ w'.cell? ⟨ad.block, ad.off + 7 + 6, none⟩ = some (.slice C6 y.f6.length e6) ∧ Below w6.heap.size w6 w')
    (first | exact HS6 | exact hSn | assumption)
    (first
      | (go_at_call 20; refine HC1.out.mono ?_; rintro e w9 ⟨A', c', yn, rfl, hb9, hyn⟩; unfold numV; have hSn := keep10 HC0.out hb9)
      | (go_at_call 45; refine (cmp_calls A A' c c' xn yn a b w9 (HXN6.out.below hb9) hyn).mono ?_; rintro e w10 ⟨rfl, hb10⟩; replace hSn := keep10 HC0.out (below_step hb9 hb10)))
  have HB10 := Aside0.mk (below_step HB6.out hSn.2.2.2.2.2.2.2.2.2.2)
  have c30 : w10.cell? ⟨g3, 0, none⟩ = some (.int .i64 11) := (blk_cell (blk_below HX36.out hSn.2.2.2.2.2.2.2.2.2.2) 0).trans rfl
  clear hSn hb9 hb10 hyn
  obtain ⟨q, hq⟩ : ∃ q, q = cmpS a b := ⟨_, rfl⟩
  rw [← hq]
  have HLT := lt_cmp a b
  rw [← hq] at HLT
  replace HLT := Aside0.mk HLT
  clear hq
  by_cases hlt : q < 0
  · have hlt' : decide (q < 0) = true := decide_eq_true hlt
    have HF := Aside0.mk (HLT.out.symm.trans hlt')
    clear hlt
    go_wp2
    go_ret
    exact ⟨HB10.out, by rw [HF.out]; rfl⟩
  · have hlt' : decide (q < 0) = false := decide_eq_false hlt
    have HF := Aside0.mk (HLT.out.symm.trans hlt')
    clear hlt
    cases he : (q == 0) with
    | true =>
      go_wp2
      go_ret
      exact ⟨HB10.out, by rw [HF.out]; rfl⟩
    | false =>
      go_wp2
      go_ret
      exact ⟨HB10.out, by rw [HF.out]; rfl⟩
end Go.Proofs.Ytiokmnabkccpcaa.Kit
