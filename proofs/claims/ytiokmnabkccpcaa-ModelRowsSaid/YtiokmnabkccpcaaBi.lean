/- Terms: the checker's check, where no variable is bound. -/
import Derived.Test.YtiokmnabkccpcaaBh
set_option linter.unusedVariables false
set_option linter.unusedSimpArgs false
namespace Go.Proofs.Ytiokmnabkccpcaa.Kit
open Go.RowKit Go.Proofs.YtiokmnabkccpcaaW.PrintWords Go.Proofs.YtiokmnabkccpcaaW.PrintLast Go.Proofs.YtiokmnabkccpcaaW.PrintMore

section
variable {P : Program} {ops : Array Oper} {rest : List Oper} {o : Oper} {a : Act} {Q : Exit → Act → World → Prop} {W : World}
/-- A store of what already lies there changes nothing. -/
theorem store_same_event (hgd : o.guard = none) (hN : o.dst = none) (ty : TypeId) (x y : Operand) (ho : o.op = .store ty x y)
    (g i : Nat) (v : Value) (hx : a.eval x = .pointer (some ⟨g, i, none⟩)) (hy : a.eval y = v) (hv : v.cells = #[v]) (h1 : v.oneCell' = true)
    (t : TypeId) (cs : Array Value) (hg : W.heap[g]? = some (.cells cs t (0, 0))) (hl : i < cs.size) (hsame : cs.setIfInBounds i v = cs) (hi : (P.info? ty).map (·.size) = some 1)
    (h : wpList P ops Q rest a W) : wpList P ops Q (o :: rest) a W := by
  refine wpList_plain hgd fun K hK => ?_
  cases hq : P.info? ty with
  | none => simp [hq] at hi
  | some inf =>
    have hz : inf.size = 1 := by simpa [hq] using hi
    have hcell : W.cell? ⟨g, i, none⟩ = some cs[i] := (blk_cell hg i).trans (by simp [hl])
    have hfro : W.frozen? ⟨g, i, none⟩ = false := blk_frozen hg i
    have hw : W.setCell ⟨g, i, none⟩ v = W := by
      rw [setCell_eq_setRow W g i cs t (0, 0) v hg, hsame]
      exact setRow_self W g cs t (0, 0) hg
    have hst : (store (⟨g, i, none⟩ : Addr) v).run P W = .ok () W := by
      rw [run_store P W _ v _ h1, hcell]
      simp [hfro, hw]
    have hadd : (⟨g, i, none⟩ : Addr).add 0 = ⟨g, i, none⟩ := rfl
    have hsv : (storeVar ty ⟨g, i, none⟩ v).run P W = .ok () W := by
      simp [storeVar, storeCells, sizeOf, typeInfo, hq, hz, hv, hadd, hst]
    unfold Oper.wp execOp
    simp only [ho, hx, hy, Instr.storeAt, Instr.sureAddr, Sem.run_bind, Sem.run_pure, Result.andThen_ok, hsv]
    show K (a.put o.dst undef) _
    rw [hN]
    exact hK _ _ h
end
theorem one_bounds : (Try.prog.info? 38).map (·.size) = some 1 := by kernel_rfl
theorem info_int : (Try.prog.info? 3).map (fun i => (i.zero, i.size, i.bytes)) = some (some (.int .i64 0), 1, 8) := by kernel_rfl
theorem run_assert_no {P : Program} (x a t : TypeId) (v z : Value) (fs : Array Field) (W : World) (hu : P.underlying a = some (.struct fs)) (hne : t ≠ a) (hz : (P.info? a).map (·.zero) = some (some z)) :
    (Instr.typeAssert (.iface t v) x a true).run P W = .ok (.tuple #[z, .bool false]) W := by
  cases hq : P.info? a with
  | none => simp [hq] at hz
  | some i =>
    have hi : i.zero = some z := by simpa [hq] using hz
    unfold Instr.typeAssert
    simp [Sem.run_bind, run_underlying hu W, hne, zeroValue, typeInfo, hq, hi]
theorem run_assert_yes {P : Program} (x a : TypeId) (v : Value) (fs : Array Field) (W : World) (hu : P.underlying a = some (.struct fs)) :
    (Instr.typeAssert (.iface a v) x a true).run P W = .ok (.tuple #[v, .bool true]) W := by
  unfold Instr.typeAssert
  simp [Sem.run_bind, run_underlying hu W]
theorem zero_bind : (Try.prog.info? 94).map (·.zero) = some (some (.agg #[.int .i64 0, .int .i64 0])) := by kernel_rfl
theorem own_C64 {w : World} {base : Nat} {v : Value} {xs : List Int} (h : w.ownsRow base 3 1 v xs.length (nums .i64 xs)) : ∃ A c, v = .slice A xs.length c ∧ xs.length ≤ c ∧ (Kd.int .i64).C w A xs.length xs :=
  Kd.R_reads (Kd.R_of_own (h1 := fun _ => rfl) (enc := Value.int .i64) (ok := fun _ => True) h (fun _ _ => trivial))
set_option maxHeartbeats 4000000 in
set_option maxRecDepth 100000 in
theorem check_leaf (s0 : Int) (t : Tm) (w : World) (cs : List Value) (hK : kTm.K w t cs) (hs : shapeS t = true) (hp : ¬ t.f0 = 18) (hf : fineT t) (hll : t.f4.length ≤ 1000000) (g : Nat) (sig : List Sg)
    (AS : Option Addr) (cS : Nat) (hg : w.heap[g]? = some (.cells #[.slice AS sig.length cS, .slice none 0 0] 67 (0, 0))) (hlS : sig.length ≤ cS) (hCS : kSg.C w AS sig.length sig)
    (hof : ofS sig [] t = .ok (.leaf s0)) (hx2 : True)
    (IH : ∀ x ∈ t.f4, ∀ (W : World) (cs' : List Value), Below w.heap.size w W → kTm.K W x cs' → Calls Try.prog 15 #[.pointer (some ⟨g, 0, none⟩), .agg cs'.toArray] W (GivesS W (checkT sig [] x))) :
    Calls Try.prog 15 #[.pointer (some ⟨g, 0, none⟩), .agg cs.toArray] w (GivesS w (checkT sig [] t)) := by
  have HT := Aside0.mk (checkT_eq sig [] t)
  have HX2 := Aside0.mk hx2
  clear hx2
  have HIH := Aside0.mk IH
  have HOF := Aside0.mk hof
  have hK0 := hK
  obtain ⟨A4, c4, A5, c5, A6, c6, rfl, l4, g4, l5, g5, l6, g6⟩ := kTm_open hK
  have HK := Aside0.mk hK0
  have HG4 := Aside0.mk g4
  have HG := Aside0.mk hg
  have HCS := Aside0.mk hCS
  have HS := Aside0.mk hs
  have HFN := Aside0.mk hf
  have HP := Aside0.mk hp
  have hlen : t.f4.length ≤ 9223372036854775807 := by omega
  have hta : ∀ v W, (Instr.typeAssert (.iface 119 v) 88 94 true).run Try.prog W = .ok (.tuple #[.agg #[.int .i64 0, .int .i64 0], .bool false]) W := fun v W => run_assert_no _ _ _ _ _ _ W Try.underlying94 (by decide) zero_bind
  clear IH hof hK hK0 hg hCS hs hf hp g4 g5 g6
  go_enter Try.func15, Try.ntmps15
  go_wp2_with (first
    | ((with_reducible refine gate_dst (N := 3) rfl ?_); refine box_event rfl (N := 3) rfl (cs := #[.int .i64 t.f0, .string t.f1, .int .i64 t.f2, .string t.f3, .slice A4 t.f4.length c4, .slice A5 t.f5.length c5, .slice A6 t.f6.length c6]) (t := 40) ?hr ?_; (case hr => first | (go_simp; done) | (go_simp; rfl)); intro g3 hg3 w3 hbox3 hb3; have HG3 := Aside0.mk hg3; have HX3 := Aside0.mk hbox3; clear hg3 hbox3)
    | ((with_reducible refine gate_dst (N := 19) rfl ?_); refine wpList_load_row rfl 40 _ rfl g3 rfl 40 #[.int .i64 t.f0, .string t.f1, .int .i64 t.f2, .string t.f3, .slice A4 t.f4.length c4, .slice A5 t.f5.length c5, .slice A6 t.f6.length c6] (0, 0) _ HX3.out Try.underlying40 rfl size_Tm ?_))
  refine (shape_calls t w3 _ (kTm.K_below hb3 HK.out) HFN.out).mono ?_
  rw [HS.out]
  rintro e w4 ⟨rfl, hb4⟩
  have HX4 := Aside0.mk (blk_below HX3.out hb4)
  have HB4 := Aside0.mk (below_step hb3 hb4)
  clear hb3 hb4
  go_wp2_with (first
    | ((with_reducible refine gate_dst (N := 24) rfl ?_); refine wpList_load_row rfl 40 _ rfl g3 rfl 40 #[.int .i64 t.f0, .string t.f1, .int .i64 t.f2, .string t.f3, .slice A4 t.f4.length c4, .slice A5 t.f5.length c5, .slice A6 t.f6.length c6] (0, 0) _ HX4.out Try.underlying40 rfl size_Tm ?_))
  refine (of_calls t w4 _ (kTm.K_below HB4.out HK.out) HS.out HP.out g sig [] AS cS ((blk_cell (blk_below HG.out HB4.out) 0).trans rfl) hlS (Kd.C_below HCS.out HB4.out)).mono ?_
  rw [HOF.out]
  rintro e w5 ⟨hb5, v, rfl, hv⟩
  obtain rfl : v = .iface 119 (.agg #[.int .i64 s0]) := hv
  have HX5 := Aside0.mk (blk_below HX4.out hb5)
  have HB5 := Aside0.mk (below_step HB4.out hb5)
  have cg1 : w5.cell? ⟨g, 1, none⟩ = some (.slice none 0 0) := (blk_cell (blk_below HG.out HB5.out) 1).trans rfl
  clear hb5
  go_wp2_with ((with_reducible refine gate_dst (N := 53) rfl ?_); (obtain ⟨w9, hw9⟩ : ∃ w9, w9 = w5.alloc (.cells #[.int .i64 0, .int .i64 0] 94) := ⟨_, rfl⟩); (obtain ⟨g9, hg9⟩ : ∃ g9, g9 = w5.heap.size := ⟨_, rfl⟩); rw [← hw9]; rw [← hg9]; (have hb9 : Below w5.heap.size w5 w9 := (by rw [hw9]; exact (Below.refl _ _).alloc (Nat.le_refl _) _)); (have HX9 := Aside0.mk (show w9.heap[g9]? = some (.cells #[.int .i64 0, .int .i64 0] 94 (0, 0)) from (by rw [hw9, hg9]; exact blk_new _ _))); have HG9 := Aside0.mk hg9; clear hw9 hg9; have HX6 := Aside0.mk (blk_below HX5.out hb9); have HB6 := Aside0.mk (below_step HB5.out hb9); have HB59 := Aside0.mk hb9; have c34 : w9.cell? ⟨g3, 4, none⟩ = some (.slice A4 t.f4.length c4) := (blk_cell HX6.out 4).trans rfl; clear hb9 cg1)
  go_loopg [11, 13, 14, 15, 55] t.f4.length (fun gg v11 _ _ _ v55 wr => ∃ (k : Nat) (ss : List Int), k ≤ t.f4.length ∧ t.f4.length - k ≤ gg ∧ v55 = .int .i64 k ∧ Aside0 (ss.length = k) ∧ Aside0 (Below w9.heap.size w9 wr) ∧ Aside0 (wr.ownsRow w9.heap.size 3 1 v11 ss.length (nums .i64 ss)) ∧ Aside0 (checkL sig [] (t.f4.take k) = .ok ss))
  case atStart => exact ⟨0, [], Nat.zero_le _, by omega, rfl, ⟨rfl⟩, ⟨Below.refl _ _⟩, ⟨own_nil _ _ _ _⟩, ⟨by simp [checkL]⟩⟩
  case round =>
    obtain ⟨k, ss, hk, hgg, rfl, HSL, BW, HO, HCL⟩ := hrel
    by_cases hlt : k < t.f4.length
    · obtain ⟨ad, cs, e, hl, hK, hc⟩ := Kd.C_get HG4.out zTm (k : Int) (by omega) (by omega)
      subst e
      have hbw := below_step HB6.out BW.out
      have hK' := kTm.K_below hbw hK
      rw [show ((k : Int)).toNat = k from rfl] at hK' hc
      obtain ⟨x, hx⟩ : ∃ x, x = t.f4.getD k zTm := ⟨_, rfl⟩
      rw [← hx] at hK'
      have HXE := Aside0.mk hx
      have HKx := Aside0.mk hK'
      obtain ⟨B4, d4, B5, d5, B6, d6, rfl, _, _, _, _, _, _⟩ := kTm_open hK'
      have HL := Aside0.mk (show ∀ j v, [.int .i64 x.f0, .string x.f1, .int .i64 x.f2, .string x.f3, .slice B4 x.f4.length d4, .slice B5 x.f5.length d5, .slice B6 x.f6.length d6][j]? = some v → wr.cell? ((ad.add (k * kTm.sz)).add j) = some v from fun j v hv => by
        have := hc j v hv
        rw [add_add]
        exact (hbw.cell (World.block_lt_of_cell? w _ this)).trans this)
      have HM := Aside0.mk (show x ∈ t.f4 by rw [hx, List.getD_eq_getElem?_getD, List.getElem?_eq_getElem hlt]; exact List.getElem_mem hlt)
      clear hc hK hK' hl hbw hx
      go_wp2_with (first
        | ((with_reducible refine gate_dst (N := 58) rfl ?_); refine wpList_load_cells rfl 40 _ rfl (ad.add (k * kTm.sz)) rfl [.int .i64 x.f0, .string x.f1, .int .i64 x.f2, .string x.f3, .slice B4 x.f4.length d4, .slice B5 x.f5.length d5, .slice B6 x.f6.length d6] _ Try.underlying40 rfl size_Tm HL.out ?_)
        | ((with_reducible refine gate_dst (N := 61) rfl ?_); (obtain ⟨w13, hw13⟩ : ∃ w13, w13 = wr.alloc (.cells #[.int .i64 x.f0, .string x.f1, .int .i64 x.f2, .string x.f3, .slice B4 x.f4.length d4, .slice B5 x.f5.length d5, .slice B6 x.f6.length d6] 40) := ⟨_, rfl⟩); (obtain ⟨g13, hg13⟩ : ∃ g13, g13 = wr.heap.size := ⟨_, rfl⟩); rw [← hw13]; rw [← hg13]; (have hb13 : Below wr.heap.size wr w13 := (by rw [hw13]; exact (Below.refl _ _).alloc (Nat.le_refl _) _)); (have HX13 := Aside0.mk (show w13.heap[g13]? = some (.cells #[.int .i64 x.f0, .string x.f1, .int .i64 x.f2, .string x.f3, .slice B4 x.f4.length d4, .slice B5 x.f5.length d5, .slice B6 x.f6.length d6] 40 (0, 0)) from (by rw [hw13, hg13]; exact blk_new _ _))); have HG13 := Aside0.mk hg13; clear hw13 hg13)
        | ((with_reducible refine gate_dst (N := 61) rfl ?_); refine wpList_load_row rfl 40 _ rfl g13 rfl 40 #[.int .i64 x.f0, .string x.f1, .int .i64 x.f2, .string x.f3, .slice B4 x.f4.length d4, .slice B5 x.f5.length d5, .slice B6 x.f6.length d6] (0, 0) _ HX13.out Try.underlying40 rfl size_Tm ?_))
      refine (HIH.out x HM.out w13 _ (below_step HB6.out (below_step BW.out hb13)) (kTm.K_below hb13 HKx.out)).mono ?_
      cases hr : checkT sig [] x with
      | error e =>
        have HF := Aside0.mk (show checkT sig [] t = .error e from by
          rw [HT.out, HS.out, HOF.out]
          have := (checkL_take sig [] t.f4 k hlt ss HCL.out).2 e (by rw [← HXE.out]; exact hr)
          simp [bsOf, this])
        clear hr
        rintro e0 w14 ⟨hb14, hne, rfl⟩
        have hne' : (e != 0) = true := by simpa using hne
        have HB14 := Aside0.mk (below_step (below_step HB6.out (below_step BW.out hb13)) hb14)
        clear hb13 hb14
        go_wp2
        go_ret2
        exact ⟨HB14.out, by rw [HF.out]; exact ⟨hne, rfl⟩⟩
      | ok s =>
        have HCL1 := Aside0.mk ((checkL_take sig [] t.f4 k hlt ss HCL.out).1 s (by rw [← HXE.out]; exact hr))
        clear hr
        rintro e0 w14 ⟨hb14, rfl⟩
        have BW14 := Aside0.mk (below_step (below_step BW.out hb13) hb14)
        have HO14 := Aside0.mk (pw_own_below (pw_own_below HO.out hb13) hb14)
        clear hb13 hb14
        go_wp2_with ((with_reducible refine gate_dst (N := 71) rfl ?_); refine print_append_num (w0 := w9) w9.heap.size rfl _ _ 33 3 .i64 8 rfl Try.underlying33 info_int (by decide) u11 ss _ rfl rfl HO14.out BW14.out BW14.out.size ?hl ?_; (case hl => have := HSL.out; omega); intro v1 w1 hown hb1 hg1 hat1; have HO1 := Aside0.mk hown; have HB1 := Aside0.mk hb1; clear hown hb1 hg1 hat1)
        go_roundg (t.f4.length - (k + 1))
        case measure => omega
        case rel =>
          exact ⟨k + 1, ss ++ [s], by omega, by omega, by go_num, ⟨by rw [List.length_append, HSL.out]; rfl⟩, HB1, HO1, HCL1⟩
    · have hke : k = t.f4.length := by omega
      have HCL2 := Aside0.mk (show checkL sig [] t.f4 = .ok ss from by
        have := HCL.out
        rwa [hke, List.take_length] at this)
      have HKE := Aside0.mk hke
      clear hke
      obtain ⟨A11, c11, rfl, hl11, hC11⟩ := own_C64 HO.out
      have hmt : ∀ v W, (Go.method 282 119 v "avow/term.sort").run Try.prog W = .ok (96, v) W := fun v W => by kernel_rfl
      have hen : ∀ args W, (callFunc 96 args).run Try.prog W = .ok (.enter 96 args) W := fun args W => enters_ Try.func96 (by kernel_rfl) rfl args W
      have HBW := Aside0.mk (below_step HB6.out BW.out)
      go_wp2_with fail
      refine (sort_leaf ss A11 c11 wr s0).mono ?_
      cases hr : sortS ss (.leaf s0) with
      | error e =>
        have HF := Aside0.mk (show checkT sig [] t = .error e from by
          rw [HT.out, HS.out, HOF.out]
          simp [bsOf, HCL2.out, hr])
        clear hr
        rintro e0 w14 ⟨hb14, hne, rfl⟩
        have hne' : (e != 0) = true := by simpa using hne
        have HB14 := Aside0.mk (below_step HBW.out hb14)
        have hx14 := blk_below HG.out HB14.out
        clear hb14
        go_wp2_with (first
          | ((with_reducible refine gate_dst (N := 96) rfl ?_); (obtain ⟨w17, hw17⟩ : ∃ w17, w17 = w14.alloc (.cells #[.int .i64 0, .int .i64 0] 94) := ⟨_, rfl⟩); (obtain ⟨g17, hg17⟩ : ∃ g17, g17 = w14.heap.size := ⟨_, rfl⟩); rw [← hw17]; rw [← hg17]; (have hb17 : Below w14.heap.size w14 w17 := (by rw [hw17]; exact (Below.refl _ _).alloc (Nat.le_refl _) _)); (have HX17 := Aside0.mk (show w17.heap[g17]? = some (.cells #[.int .i64 0, .int .i64 0] 94 (0, 0)) from (by rw [hw17, hg17]; exact blk_new _ _))); have HG17 := Aside0.mk hg17; clear hw17 hg17; have HB17 := Aside0.mk (below_step HB14.out hb17); have hx17 := blk_below hx14 hb17; have cg1 : w17.cell? ⟨g, 1, none⟩ = some (.slice none 0 0) := (blk_cell hx17 1).trans rfl; clear hb17)
          | ((with_reducible refine gate_store (p := 100) rfl ?_); refine store_same_event rfl rfl 38 _ _ rfl g 1 _ rfl rfl rfl rfl 67 _ hx17 (show (1 : Nat) < 2 from by decide) rfl one_bounds ?_))
        go_ret2
        exact ⟨HB17.out, by rw [HF.out]; exact ⟨hne, rfl⟩⟩
      | ok s =>
        have HF := Aside0.mk (show checkT sig [] t = .ok s from by
          rw [HT.out, HS.out, HOF.out]
          simp [bsOf, HCL2.out, hr])
        clear hr
        rintro e0 w14 ⟨hb14, rfl⟩
        have HB14 := Aside0.mk (below_step HBW.out hb14)
        have hx14 := blk_below HG.out HB14.out
        clear hb14
        go_wp2_with (first
          | ((with_reducible refine gate_dst (N := 96) rfl ?_); (obtain ⟨w17, hw17⟩ : ∃ w17, w17 = w14.alloc (.cells #[.int .i64 0, .int .i64 0] 94) := ⟨_, rfl⟩); (obtain ⟨g17, hg17⟩ : ∃ g17, g17 = w14.heap.size := ⟨_, rfl⟩); rw [← hw17]; rw [← hg17]; (have hb17 : Below w14.heap.size w14 w17 := (by rw [hw17]; exact (Below.refl _ _).alloc (Nat.le_refl _) _)); (have HX17 := Aside0.mk (show w17.heap[g17]? = some (.cells #[.int .i64 0, .int .i64 0] 94 (0, 0)) from (by rw [hw17, hg17]; exact blk_new _ _))); have HG17 := Aside0.mk hg17; clear hw17 hg17; have HB17 := Aside0.mk (below_step HB14.out hb17); have hx17 := blk_below hx14 hb17; have cg1 : w17.cell? ⟨g, 1, none⟩ = some (.slice none 0 0) := (blk_cell hx17 1).trans rfl; clear hb17)
          | ((with_reducible refine gate_store (p := 100) rfl ?_); refine store_same_event rfl rfl 38 _ _ rfl g 1 _ rfl rfl rfl rfl 67 _ hx17 (show (1 : Nat) < 2 from by decide) rfl one_bounds ?_))
        go_ret2
        exact ⟨HB17.out, by rw [HF.out]; rfl⟩
set_option maxHeartbeats 4000000 in
set_option maxRecDepth 100000 in
theorem check_fix (i0 o0 : Int) (t : Tm) (w : World) (cs : List Value) (hK : kTm.K w t cs) (hs : shapeS t = true) (hp : ¬ t.f0 = 18) (hf : fineT t) (hll : t.f4.length ≤ 1000000) (g : Nat) (sig : List Sg)
    (AS : Option Addr) (cS : Nat) (hg : w.heap[g]? = some (.cells #[.slice AS sig.length cS, .slice none 0 0] 67 (0, 0))) (hlS : sig.length ≤ cS) (hCS : kSg.C w AS sig.length sig)
    (hof : ofS sig [] t = .ok (.fix i0 o0)) (hx2 : True)
    (IH : ∀ x ∈ t.f4, ∀ (W : World) (cs' : List Value), Below w.heap.size w W → kTm.K W x cs' → Calls Try.prog 15 #[.pointer (some ⟨g, 0, none⟩), .agg cs'.toArray] W (GivesS W (checkT sig [] x))) :
    Calls Try.prog 15 #[.pointer (some ⟨g, 0, none⟩), .agg cs.toArray] w (GivesS w (checkT sig [] t)) := by
  have HT := Aside0.mk (checkT_eq sig [] t)
  have HX2 := Aside0.mk hx2
  clear hx2
  have HIH := Aside0.mk IH
  have HOF := Aside0.mk hof
  have hK0 := hK
  obtain ⟨A4, c4, A5, c5, A6, c6, rfl, l4, g4, l5, g5, l6, g6⟩ := kTm_open hK
  have HK := Aside0.mk hK0
  have HG4 := Aside0.mk g4
  have HG := Aside0.mk hg
  have HCS := Aside0.mk hCS
  have HS := Aside0.mk hs
  have HFN := Aside0.mk hf
  have HP := Aside0.mk hp
  have hlen : t.f4.length ≤ 9223372036854775807 := by omega
  have hta : ∀ v W, (Instr.typeAssert (.iface 92 v) 88 94 true).run Try.prog W = .ok (.tuple #[.agg #[.int .i64 0, .int .i64 0], .bool false]) W := fun v W => run_assert_no _ _ _ _ _ _ W Try.underlying94 (by decide) zero_bind
  clear IH hof hK hK0 hg hCS hs hf hp g4 g5 g6
  go_enter Try.func15, Try.ntmps15
  go_wp2_with (first
    | ((with_reducible refine gate_dst (N := 3) rfl ?_); refine box_event rfl (N := 3) rfl (cs := #[.int .i64 t.f0, .string t.f1, .int .i64 t.f2, .string t.f3, .slice A4 t.f4.length c4, .slice A5 t.f5.length c5, .slice A6 t.f6.length c6]) (t := 40) ?hr ?_; (case hr => first | (go_simp; done) | (go_simp; rfl)); intro g3 hg3 w3 hbox3 hb3; have HG3 := Aside0.mk hg3; have HX3 := Aside0.mk hbox3; clear hg3 hbox3)
    | ((with_reducible refine gate_dst (N := 19) rfl ?_); refine wpList_load_row rfl 40 _ rfl g3 rfl 40 #[.int .i64 t.f0, .string t.f1, .int .i64 t.f2, .string t.f3, .slice A4 t.f4.length c4, .slice A5 t.f5.length c5, .slice A6 t.f6.length c6] (0, 0) _ HX3.out Try.underlying40 rfl size_Tm ?_))
  refine (shape_calls t w3 _ (kTm.K_below hb3 HK.out) HFN.out).mono ?_
  rw [HS.out]
  rintro e w4 ⟨rfl, hb4⟩
  have HX4 := Aside0.mk (blk_below HX3.out hb4)
  have HB4 := Aside0.mk (below_step hb3 hb4)
  clear hb3 hb4
  go_wp2_with (first
    | ((with_reducible refine gate_dst (N := 24) rfl ?_); refine wpList_load_row rfl 40 _ rfl g3 rfl 40 #[.int .i64 t.f0, .string t.f1, .int .i64 t.f2, .string t.f3, .slice A4 t.f4.length c4, .slice A5 t.f5.length c5, .slice A6 t.f6.length c6] (0, 0) _ HX4.out Try.underlying40 rfl size_Tm ?_))
  refine (of_calls t w4 _ (kTm.K_below HB4.out HK.out) HS.out HP.out g sig [] AS cS ((blk_cell (blk_below HG.out HB4.out) 0).trans rfl) hlS (Kd.C_below HCS.out HB4.out)).mono ?_
  rw [HOF.out]
  rintro e w5 ⟨hb5, v, rfl, hv⟩
  obtain rfl : v = .iface 92 (.agg #[.int .i64 i0, .int .i64 o0]) := hv
  have HX5 := Aside0.mk (blk_below HX4.out hb5)
  have HB5 := Aside0.mk (below_step HB4.out hb5)
  have cg1 : w5.cell? ⟨g, 1, none⟩ = some (.slice none 0 0) := (blk_cell (blk_below HG.out HB5.out) 1).trans rfl
  clear hb5
  go_wp2_with ((with_reducible refine gate_dst (N := 53) rfl ?_); (obtain ⟨w9, hw9⟩ : ∃ w9, w9 = w5.alloc (.cells #[.int .i64 0, .int .i64 0] 94) := ⟨_, rfl⟩); (obtain ⟨g9, hg9⟩ : ∃ g9, g9 = w5.heap.size := ⟨_, rfl⟩); rw [← hw9]; rw [← hg9]; (have hb9 : Below w5.heap.size w5 w9 := (by rw [hw9]; exact (Below.refl _ _).alloc (Nat.le_refl _) _)); (have HX9 := Aside0.mk (show w9.heap[g9]? = some (.cells #[.int .i64 0, .int .i64 0] 94 (0, 0)) from (by rw [hw9, hg9]; exact blk_new _ _))); have HG9 := Aside0.mk hg9; clear hw9 hg9; have HX6 := Aside0.mk (blk_below HX5.out hb9); have HB6 := Aside0.mk (below_step HB5.out hb9); have HB59 := Aside0.mk hb9; have c34 : w9.cell? ⟨g3, 4, none⟩ = some (.slice A4 t.f4.length c4) := (blk_cell HX6.out 4).trans rfl; clear hb9 cg1)
  go_loopg [11, 13, 14, 15, 55] t.f4.length (fun gg v11 _ _ _ v55 wr => ∃ (k : Nat) (ss : List Int), k ≤ t.f4.length ∧ t.f4.length - k ≤ gg ∧ v55 = .int .i64 k ∧ Aside0 (ss.length = k) ∧ Aside0 (Below w9.heap.size w9 wr) ∧ Aside0 (wr.ownsRow w9.heap.size 3 1 v11 ss.length (nums .i64 ss)) ∧ Aside0 (checkL sig [] (t.f4.take k) = .ok ss))
  case atStart => exact ⟨0, [], Nat.zero_le _, by omega, rfl, ⟨rfl⟩, ⟨Below.refl _ _⟩, ⟨own_nil _ _ _ _⟩, ⟨by simp [checkL]⟩⟩
  case round =>
    obtain ⟨k, ss, hk, hgg, rfl, HSL, BW, HO, HCL⟩ := hrel
    by_cases hlt : k < t.f4.length
    · obtain ⟨ad, cs, e, hl, hK, hc⟩ := Kd.C_get HG4.out zTm (k : Int) (by omega) (by omega)
      subst e
      have hbw := below_step HB6.out BW.out
      have hK' := kTm.K_below hbw hK
      rw [show ((k : Int)).toNat = k from rfl] at hK' hc
      obtain ⟨x, hx⟩ : ∃ x, x = t.f4.getD k zTm := ⟨_, rfl⟩
      rw [← hx] at hK'
      have HXE := Aside0.mk hx
      have HKx := Aside0.mk hK'
      obtain ⟨B4, d4, B5, d5, B6, d6, rfl, _, _, _, _, _, _⟩ := kTm_open hK'
      have HL := Aside0.mk (show ∀ j v, [.int .i64 x.f0, .string x.f1, .int .i64 x.f2, .string x.f3, .slice B4 x.f4.length d4, .slice B5 x.f5.length d5, .slice B6 x.f6.length d6][j]? = some v → wr.cell? ((ad.add (k * kTm.sz)).add j) = some v from fun j v hv => by
        have := hc j v hv
        rw [add_add]
        exact (hbw.cell (World.block_lt_of_cell? w _ this)).trans this)
      have HM := Aside0.mk (show x ∈ t.f4 by rw [hx, List.getD_eq_getElem?_getD, List.getElem?_eq_getElem hlt]; exact List.getElem_mem hlt)
      clear hc hK hK' hl hbw hx
      go_wp2_with (first
        | ((with_reducible refine gate_dst (N := 58) rfl ?_); refine wpList_load_cells rfl 40 _ rfl (ad.add (k * kTm.sz)) rfl [.int .i64 x.f0, .string x.f1, .int .i64 x.f2, .string x.f3, .slice B4 x.f4.length d4, .slice B5 x.f5.length d5, .slice B6 x.f6.length d6] _ Try.underlying40 rfl size_Tm HL.out ?_)
        | ((with_reducible refine gate_dst (N := 61) rfl ?_); (obtain ⟨w13, hw13⟩ : ∃ w13, w13 = wr.alloc (.cells #[.int .i64 x.f0, .string x.f1, .int .i64 x.f2, .string x.f3, .slice B4 x.f4.length d4, .slice B5 x.f5.length d5, .slice B6 x.f6.length d6] 40) := ⟨_, rfl⟩); (obtain ⟨g13, hg13⟩ : ∃ g13, g13 = wr.heap.size := ⟨_, rfl⟩); rw [← hw13]; rw [← hg13]; (have hb13 : Below wr.heap.size wr w13 := (by rw [hw13]; exact (Below.refl _ _).alloc (Nat.le_refl _) _)); (have HX13 := Aside0.mk (show w13.heap[g13]? = some (.cells #[.int .i64 x.f0, .string x.f1, .int .i64 x.f2, .string x.f3, .slice B4 x.f4.length d4, .slice B5 x.f5.length d5, .slice B6 x.f6.length d6] 40 (0, 0)) from (by rw [hw13, hg13]; exact blk_new _ _))); have HG13 := Aside0.mk hg13; clear hw13 hg13)
        | ((with_reducible refine gate_dst (N := 61) rfl ?_); refine wpList_load_row rfl 40 _ rfl g13 rfl 40 #[.int .i64 x.f0, .string x.f1, .int .i64 x.f2, .string x.f3, .slice B4 x.f4.length d4, .slice B5 x.f5.length d5, .slice B6 x.f6.length d6] (0, 0) _ HX13.out Try.underlying40 rfl size_Tm ?_))
      refine (HIH.out x HM.out w13 _ (below_step HB6.out (below_step BW.out hb13)) (kTm.K_below hb13 HKx.out)).mono ?_
      cases hr : checkT sig [] x with
      | error e =>
        have HF := Aside0.mk (show checkT sig [] t = .error e from by
          rw [HT.out, HS.out, HOF.out]
          have := (checkL_take sig [] t.f4 k hlt ss HCL.out).2 e (by rw [← HXE.out]; exact hr)
          simp [bsOf, this])
        clear hr
        rintro e0 w14 ⟨hb14, hne, rfl⟩
        have hne' : (e != 0) = true := by simpa using hne
        have HB14 := Aside0.mk (below_step (below_step HB6.out (below_step BW.out hb13)) hb14)
        clear hb13 hb14
        go_wp2
        go_ret2
        exact ⟨HB14.out, by rw [HF.out]; exact ⟨hne, rfl⟩⟩
      | ok s =>
        have HCL1 := Aside0.mk ((checkL_take sig [] t.f4 k hlt ss HCL.out).1 s (by rw [← HXE.out]; exact hr))
        clear hr
        rintro e0 w14 ⟨hb14, rfl⟩
        have BW14 := Aside0.mk (below_step (below_step BW.out hb13) hb14)
        have HO14 := Aside0.mk (pw_own_below (pw_own_below HO.out hb13) hb14)
        clear hb13 hb14
        go_wp2_with ((with_reducible refine gate_dst (N := 71) rfl ?_); refine print_append_num (w0 := w9) w9.heap.size rfl _ _ 33 3 .i64 8 rfl Try.underlying33 info_int (by decide) u11 ss _ rfl rfl HO14.out BW14.out BW14.out.size ?hl ?_; (case hl => have := HSL.out; omega); intro v1 w1 hown hb1 hg1 hat1; have HO1 := Aside0.mk hown; have HB1 := Aside0.mk hb1; clear hown hb1 hg1 hat1)
        go_roundg (t.f4.length - (k + 1))
        case measure => omega
        case rel =>
          exact ⟨k + 1, ss ++ [s], by omega, by omega, by go_num, ⟨by rw [List.length_append, HSL.out]; rfl⟩, HB1, HO1, HCL1⟩
    · have hke : k = t.f4.length := by omega
      have HCL2 := Aside0.mk (show checkL sig [] t.f4 = .ok ss from by
        have := HCL.out
        rwa [hke, List.take_length] at this)
      have HKE := Aside0.mk hke
      clear hke
      obtain ⟨A11, c11, rfl, hl11, hC11⟩ := own_C64 HO.out
      have hmt : ∀ v W, (Go.method 282 92 v "avow/term.sort").run Try.prog W = .ok (94, v) W := fun v W => by kernel_rfl
      have hen : ∀ args W, (callFunc 94 args).run Try.prog W = .ok (.enter 94 args) W := fun args W => enters_ Try.func94 (by kernel_rfl) rfl args W
      have HBW := Aside0.mk (below_step HB6.out BW.out)
      go_wp2_with fail
      refine (sort_fix ss A11 c11 wr i0 o0 hl11 hC11).mono ?_
      cases hr : sortS ss (.fix i0 o0) with
      | error e =>
        have HF := Aside0.mk (show checkT sig [] t = .error e from by
          rw [HT.out, HS.out, HOF.out]
          simp [bsOf, HCL2.out, hr])
        clear hr
        rintro e0 w14 ⟨hb14, hne, rfl⟩
        have hne' : (e != 0) = true := by simpa using hne
        have HB14 := Aside0.mk (below_step HBW.out hb14)
        have hx14 := blk_below HG.out HB14.out
        clear hb14
        go_wp2_with (first
          | ((with_reducible refine gate_dst (N := 96) rfl ?_); (obtain ⟨w17, hw17⟩ : ∃ w17, w17 = w14.alloc (.cells #[.int .i64 0, .int .i64 0] 94) := ⟨_, rfl⟩); (obtain ⟨g17, hg17⟩ : ∃ g17, g17 = w14.heap.size := ⟨_, rfl⟩); rw [← hw17]; rw [← hg17]; (have hb17 : Below w14.heap.size w14 w17 := (by rw [hw17]; exact (Below.refl _ _).alloc (Nat.le_refl _) _)); (have HX17 := Aside0.mk (show w17.heap[g17]? = some (.cells #[.int .i64 0, .int .i64 0] 94 (0, 0)) from (by rw [hw17, hg17]; exact blk_new _ _))); have HG17 := Aside0.mk hg17; clear hw17 hg17; have HB17 := Aside0.mk (below_step HB14.out hb17); have hx17 := blk_below hx14 hb17; have cg1 : w17.cell? ⟨g, 1, none⟩ = some (.slice none 0 0) := (blk_cell hx17 1).trans rfl; clear hb17)
          | ((with_reducible refine gate_store (p := 100) rfl ?_); refine store_same_event rfl rfl 38 _ _ rfl g 1 _ rfl rfl rfl rfl 67 _ hx17 (show (1 : Nat) < 2 from by decide) rfl one_bounds ?_))
        go_ret2
        exact ⟨HB17.out, by rw [HF.out]; exact ⟨hne, rfl⟩⟩
      | ok s =>
        have HF := Aside0.mk (show checkT sig [] t = .ok s from by
          rw [HT.out, HS.out, HOF.out]
          simp [bsOf, HCL2.out, hr])
        clear hr
        rintro e0 w14 ⟨hb14, rfl⟩
        have HB14 := Aside0.mk (below_step HBW.out hb14)
        have hx14 := blk_below HG.out HB14.out
        clear hb14
        go_wp2_with (first
          | ((with_reducible refine gate_dst (N := 96) rfl ?_); (obtain ⟨w17, hw17⟩ : ∃ w17, w17 = w14.alloc (.cells #[.int .i64 0, .int .i64 0] 94) := ⟨_, rfl⟩); (obtain ⟨g17, hg17⟩ : ∃ g17, g17 = w14.heap.size := ⟨_, rfl⟩); rw [← hw17]; rw [← hg17]; (have hb17 : Below w14.heap.size w14 w17 := (by rw [hw17]; exact (Below.refl _ _).alloc (Nat.le_refl _) _)); (have HX17 := Aside0.mk (show w17.heap[g17]? = some (.cells #[.int .i64 0, .int .i64 0] 94 (0, 0)) from (by rw [hw17, hg17]; exact blk_new _ _))); have HG17 := Aside0.mk hg17; clear hw17 hg17; have HB17 := Aside0.mk (below_step HB14.out hb17); have hx17 := blk_below hx14 hb17; have cg1 : w17.cell? ⟨g, 1, none⟩ = some (.slice none 0 0) := (blk_cell hx17 1).trans rfl; clear hb17)
          | ((with_reducible refine gate_store (p := 100) rfl ?_); refine store_same_event rfl rfl 38 _ _ rfl g 1 _ rfl rfl rfl rfl 67 _ hx17 (show (1 : Nat) < 2 from by decide) rfl one_bounds ?_))
        go_ret2
        exact ⟨HB17.out, by rw [HF.out]; rfl⟩
set_option maxHeartbeats 4000000 in
set_option maxRecDepth 100000 in
theorem check_equal (u0 : Unit) (t : Tm) (w : World) (cs : List Value) (hK : kTm.K w t cs) (hs : shapeS t = true) (hp : ¬ t.f0 = 18) (hf : fineT t) (hll : t.f4.length ≤ 1000000) (g : Nat) (sig : List Sg)
    (AS : Option Addr) (cS : Nat) (hg : w.heap[g]? = some (.cells #[.slice AS sig.length cS, .slice none 0 0] 67 (0, 0))) (hlS : sig.length ≤ cS) (hCS : kSg.C w AS sig.length sig)
    (hof : ofS sig [] t = .ok .eq) (hx2 : t.f4.length = 2)
    (IH : ∀ x ∈ t.f4, ∀ (W : World) (cs' : List Value), Below w.heap.size w W → kTm.K W x cs' → Calls Try.prog 15 #[.pointer (some ⟨g, 0, none⟩), .agg cs'.toArray] W (GivesS W (checkT sig [] x))) :
    Calls Try.prog 15 #[.pointer (some ⟨g, 0, none⟩), .agg cs.toArray] w (GivesS w (checkT sig [] t)) := by
  have HT := Aside0.mk (checkT_eq sig [] t)
  have HX2 := Aside0.mk hx2
  clear hx2
  have HIH := Aside0.mk IH
  have HOF := Aside0.mk hof
  have hK0 := hK
  obtain ⟨A4, c4, A5, c5, A6, c6, rfl, l4, g4, l5, g5, l6, g6⟩ := kTm_open hK
  have HK := Aside0.mk hK0
  have HG4 := Aside0.mk g4
  have HG := Aside0.mk hg
  have HCS := Aside0.mk hCS
  have HS := Aside0.mk hs
  have HFN := Aside0.mk hf
  have HP := Aside0.mk hp
  have hlen : t.f4.length ≤ 9223372036854775807 := by omega
  have hta : ∀ v W, (Instr.typeAssert (.iface 121 v) 88 94 true).run Try.prog W = .ok (.tuple #[.agg #[.int .i64 0, .int .i64 0], .bool false]) W := fun v W => run_assert_no _ _ _ _ _ _ W Try.underlying94 (by decide) zero_bind
  clear IH hof hK hK0 hg hCS hs hf hp g4 g5 g6
  go_enter Try.func15, Try.ntmps15
  go_wp2_with (first
    | ((with_reducible refine gate_dst (N := 3) rfl ?_); refine box_event rfl (N := 3) rfl (cs := #[.int .i64 t.f0, .string t.f1, .int .i64 t.f2, .string t.f3, .slice A4 t.f4.length c4, .slice A5 t.f5.length c5, .slice A6 t.f6.length c6]) (t := 40) ?hr ?_; (case hr => first | (go_simp; done) | (go_simp; rfl)); intro g3 hg3 w3 hbox3 hb3; have HG3 := Aside0.mk hg3; have HX3 := Aside0.mk hbox3; clear hg3 hbox3)
    | ((with_reducible refine gate_dst (N := 19) rfl ?_); refine wpList_load_row rfl 40 _ rfl g3 rfl 40 #[.int .i64 t.f0, .string t.f1, .int .i64 t.f2, .string t.f3, .slice A4 t.f4.length c4, .slice A5 t.f5.length c5, .slice A6 t.f6.length c6] (0, 0) _ HX3.out Try.underlying40 rfl size_Tm ?_))
  refine (shape_calls t w3 _ (kTm.K_below hb3 HK.out) HFN.out).mono ?_
  rw [HS.out]
  rintro e w4 ⟨rfl, hb4⟩
  have HX4 := Aside0.mk (blk_below HX3.out hb4)
  have HB4 := Aside0.mk (below_step hb3 hb4)
  clear hb3 hb4
  go_wp2_with (first
    | ((with_reducible refine gate_dst (N := 24) rfl ?_); refine wpList_load_row rfl 40 _ rfl g3 rfl 40 #[.int .i64 t.f0, .string t.f1, .int .i64 t.f2, .string t.f3, .slice A4 t.f4.length c4, .slice A5 t.f5.length c5, .slice A6 t.f6.length c6] (0, 0) _ HX4.out Try.underlying40 rfl size_Tm ?_))
  refine (of_calls t w4 _ (kTm.K_below HB4.out HK.out) HS.out HP.out g sig [] AS cS ((blk_cell (blk_below HG.out HB4.out) 0).trans rfl) hlS (Kd.C_below HCS.out HB4.out)).mono ?_
  rw [HOF.out]
  rintro e w5 ⟨hb5, v, rfl, hv⟩
  obtain rfl : v = .iface 121 (.agg #[]) := hv
  have HX5 := Aside0.mk (blk_below HX4.out hb5)
  have HB5 := Aside0.mk (below_step HB4.out hb5)
  have cg1 : w5.cell? ⟨g, 1, none⟩ = some (.slice none 0 0) := (blk_cell (blk_below HG.out HB5.out) 1).trans rfl
  clear hb5
  go_wp2_with ((with_reducible refine gate_dst (N := 53) rfl ?_); (obtain ⟨w9, hw9⟩ : ∃ w9, w9 = w5.alloc (.cells #[.int .i64 0, .int .i64 0] 94) := ⟨_, rfl⟩); (obtain ⟨g9, hg9⟩ : ∃ g9, g9 = w5.heap.size := ⟨_, rfl⟩); rw [← hw9]; rw [← hg9]; (have hb9 : Below w5.heap.size w5 w9 := (by rw [hw9]; exact (Below.refl _ _).alloc (Nat.le_refl _) _)); (have HX9 := Aside0.mk (show w9.heap[g9]? = some (.cells #[.int .i64 0, .int .i64 0] 94 (0, 0)) from (by rw [hw9, hg9]; exact blk_new _ _))); have HG9 := Aside0.mk hg9; clear hw9 hg9; have HX6 := Aside0.mk (blk_below HX5.out hb9); have HB6 := Aside0.mk (below_step HB5.out hb9); have HB59 := Aside0.mk hb9; have c34 : w9.cell? ⟨g3, 4, none⟩ = some (.slice A4 t.f4.length c4) := (blk_cell HX6.out 4).trans rfl; clear hb9 cg1)
  go_loopg [11, 13, 14, 15, 55] t.f4.length (fun gg v11 _ _ _ v55 wr => ∃ (k : Nat) (ss : List Int), k ≤ t.f4.length ∧ t.f4.length - k ≤ gg ∧ v55 = .int .i64 k ∧ Aside0 (ss.length = k) ∧ Aside0 (Below w9.heap.size w9 wr) ∧ Aside0 (wr.ownsRow w9.heap.size 3 1 v11 ss.length (nums .i64 ss)) ∧ Aside0 (checkL sig [] (t.f4.take k) = .ok ss))
  case atStart => exact ⟨0, [], Nat.zero_le _, by omega, rfl, ⟨rfl⟩, ⟨Below.refl _ _⟩, ⟨own_nil _ _ _ _⟩, ⟨by simp [checkL]⟩⟩
  case round =>
    obtain ⟨k, ss, hk, hgg, rfl, HSL, BW, HO, HCL⟩ := hrel
    by_cases hlt : k < t.f4.length
    · obtain ⟨ad, cs, e, hl, hK, hc⟩ := Kd.C_get HG4.out zTm (k : Int) (by omega) (by omega)
      subst e
      have hbw := below_step HB6.out BW.out
      have hK' := kTm.K_below hbw hK
      rw [show ((k : Int)).toNat = k from rfl] at hK' hc
      obtain ⟨x, hx⟩ : ∃ x, x = t.f4.getD k zTm := ⟨_, rfl⟩
      rw [← hx] at hK'
      have HXE := Aside0.mk hx
      have HKx := Aside0.mk hK'
      obtain ⟨B4, d4, B5, d5, B6, d6, rfl, _, _, _, _, _, _⟩ := kTm_open hK'
      have HL := Aside0.mk (show ∀ j v, [.int .i64 x.f0, .string x.f1, .int .i64 x.f2, .string x.f3, .slice B4 x.f4.length d4, .slice B5 x.f5.length d5, .slice B6 x.f6.length d6][j]? = some v → wr.cell? ((ad.add (k * kTm.sz)).add j) = some v from fun j v hv => by
        have := hc j v hv
        rw [add_add]
        exact (hbw.cell (World.block_lt_of_cell? w _ this)).trans this)
      have HM := Aside0.mk (show x ∈ t.f4 by rw [hx, List.getD_eq_getElem?_getD, List.getElem?_eq_getElem hlt]; exact List.getElem_mem hlt)
      clear hc hK hK' hl hbw hx
      go_wp2_with (first
        | ((with_reducible refine gate_dst (N := 58) rfl ?_); refine wpList_load_cells rfl 40 _ rfl (ad.add (k * kTm.sz)) rfl [.int .i64 x.f0, .string x.f1, .int .i64 x.f2, .string x.f3, .slice B4 x.f4.length d4, .slice B5 x.f5.length d5, .slice B6 x.f6.length d6] _ Try.underlying40 rfl size_Tm HL.out ?_)
        | ((with_reducible refine gate_dst (N := 61) rfl ?_); (obtain ⟨w13, hw13⟩ : ∃ w13, w13 = wr.alloc (.cells #[.int .i64 x.f0, .string x.f1, .int .i64 x.f2, .string x.f3, .slice B4 x.f4.length d4, .slice B5 x.f5.length d5, .slice B6 x.f6.length d6] 40) := ⟨_, rfl⟩); (obtain ⟨g13, hg13⟩ : ∃ g13, g13 = wr.heap.size := ⟨_, rfl⟩); rw [← hw13]; rw [← hg13]; (have hb13 : Below wr.heap.size wr w13 := (by rw [hw13]; exact (Below.refl _ _).alloc (Nat.le_refl _) _)); (have HX13 := Aside0.mk (show w13.heap[g13]? = some (.cells #[.int .i64 x.f0, .string x.f1, .int .i64 x.f2, .string x.f3, .slice B4 x.f4.length d4, .slice B5 x.f5.length d5, .slice B6 x.f6.length d6] 40 (0, 0)) from (by rw [hw13, hg13]; exact blk_new _ _))); have HG13 := Aside0.mk hg13; clear hw13 hg13)
        | ((with_reducible refine gate_dst (N := 61) rfl ?_); refine wpList_load_row rfl 40 _ rfl g13 rfl 40 #[.int .i64 x.f0, .string x.f1, .int .i64 x.f2, .string x.f3, .slice B4 x.f4.length d4, .slice B5 x.f5.length d5, .slice B6 x.f6.length d6] (0, 0) _ HX13.out Try.underlying40 rfl size_Tm ?_))
      refine (HIH.out x HM.out w13 _ (below_step HB6.out (below_step BW.out hb13)) (kTm.K_below hb13 HKx.out)).mono ?_
      cases hr : checkT sig [] x with
      | error e =>
        have HF := Aside0.mk (show checkT sig [] t = .error e from by
          rw [HT.out, HS.out, HOF.out]
          have := (checkL_take sig [] t.f4 k hlt ss HCL.out).2 e (by rw [← HXE.out]; exact hr)
          simp [bsOf, this])
        clear hr
        rintro e0 w14 ⟨hb14, hne, rfl⟩
        have hne' : (e != 0) = true := by simpa using hne
        have HB14 := Aside0.mk (below_step (below_step HB6.out (below_step BW.out hb13)) hb14)
        clear hb13 hb14
        go_wp2
        go_ret2
        exact ⟨HB14.out, by rw [HF.out]; exact ⟨hne, rfl⟩⟩
      | ok s =>
        have HCL1 := Aside0.mk ((checkL_take sig [] t.f4 k hlt ss HCL.out).1 s (by rw [← HXE.out]; exact hr))
        clear hr
        rintro e0 w14 ⟨hb14, rfl⟩
        have BW14 := Aside0.mk (below_step (below_step BW.out hb13) hb14)
        have HO14 := Aside0.mk (pw_own_below (pw_own_below HO.out hb13) hb14)
        clear hb13 hb14
        go_wp2_with ((with_reducible refine gate_dst (N := 71) rfl ?_); refine print_append_num (w0 := w9) w9.heap.size rfl _ _ 33 3 .i64 8 rfl Try.underlying33 info_int (by decide) u11 ss _ rfl rfl HO14.out BW14.out BW14.out.size ?hl ?_; (case hl => have := HSL.out; omega); intro v1 w1 hown hb1 hg1 hat1; have HO1 := Aside0.mk hown; have HB1 := Aside0.mk hb1; clear hown hb1 hg1 hat1)
        go_roundg (t.f4.length - (k + 1))
        case measure => omega
        case rel =>
          exact ⟨k + 1, ss ++ [s], by omega, by omega, by go_num, ⟨by rw [List.length_append, HSL.out]; rfl⟩, HB1, HO1, HCL1⟩
    · have hke : k = t.f4.length := by omega
      have HCL2 := Aside0.mk (show checkL sig [] t.f4 = .ok ss from by
        have := HCL.out
        rwa [hke, List.take_length] at this)
      have HKE := Aside0.mk hke
      clear hke
      obtain ⟨A11, c11, rfl, hl11, hC11⟩ := own_C64 HO.out
      have hmt : ∀ v W, (Go.method 282 121 v "avow/term.sort").run Try.prog W = .ok (97, v) W := fun v W => by kernel_rfl
      have hen : ∀ args W, (callFunc 97 args).run Try.prog W = .ok (.enter 97 args) W := fun args W => enters_ Try.func97 (by kernel_rfl) rfl args W
      have HBW := Aside0.mk (below_step HB6.out BW.out)
      go_wp2_with fail
      refine (sort_equal ss A11 c11 wr hl11 hC11 (HSL.out.trans (HKE.out.trans HX2.out))).mono ?_
      cases hr : sortS ss .eq with
      | error e =>
        have HF := Aside0.mk (show checkT sig [] t = .error e from by
          rw [HT.out, HS.out, HOF.out]
          simp [bsOf, HCL2.out, hr])
        clear hr
        rintro e0 w14 ⟨hb14, hne, rfl⟩
        have hne' : (e != 0) = true := by simpa using hne
        have HB14 := Aside0.mk (below_step HBW.out hb14)
        have hx14 := blk_below HG.out HB14.out
        clear hb14
        go_wp2_with (first
          | ((with_reducible refine gate_dst (N := 96) rfl ?_); (obtain ⟨w17, hw17⟩ : ∃ w17, w17 = w14.alloc (.cells #[.int .i64 0, .int .i64 0] 94) := ⟨_, rfl⟩); (obtain ⟨g17, hg17⟩ : ∃ g17, g17 = w14.heap.size := ⟨_, rfl⟩); rw [← hw17]; rw [← hg17]; (have hb17 : Below w14.heap.size w14 w17 := (by rw [hw17]; exact (Below.refl _ _).alloc (Nat.le_refl _) _)); (have HX17 := Aside0.mk (show w17.heap[g17]? = some (.cells #[.int .i64 0, .int .i64 0] 94 (0, 0)) from (by rw [hw17, hg17]; exact blk_new _ _))); have HG17 := Aside0.mk hg17; clear hw17 hg17; have HB17 := Aside0.mk (below_step HB14.out hb17); have hx17 := blk_below hx14 hb17; have cg1 : w17.cell? ⟨g, 1, none⟩ = some (.slice none 0 0) := (blk_cell hx17 1).trans rfl; clear hb17)
          | ((with_reducible refine gate_store (p := 100) rfl ?_); refine store_same_event rfl rfl 38 _ _ rfl g 1 _ rfl rfl rfl rfl 67 _ hx17 (show (1 : Nat) < 2 from by decide) rfl one_bounds ?_))
        go_ret2
        exact ⟨HB17.out, by rw [HF.out]; exact ⟨hne, rfl⟩⟩
      | ok s =>
        have HF := Aside0.mk (show checkT sig [] t = .ok s from by
          rw [HT.out, HS.out, HOF.out]
          simp [bsOf, HCL2.out, hr])
        clear hr
        rintro e0 w14 ⟨hb14, rfl⟩
        have HB14 := Aside0.mk (below_step HBW.out hb14)
        have hx14 := blk_below HG.out HB14.out
        clear hb14
        go_wp2_with (first
          | ((with_reducible refine gate_dst (N := 96) rfl ?_); (obtain ⟨w17, hw17⟩ : ∃ w17, w17 = w14.alloc (.cells #[.int .i64 0, .int .i64 0] 94) := ⟨_, rfl⟩); (obtain ⟨g17, hg17⟩ : ∃ g17, g17 = w14.heap.size := ⟨_, rfl⟩); rw [← hw17]; rw [← hg17]; (have hb17 : Below w14.heap.size w14 w17 := (by rw [hw17]; exact (Below.refl _ _).alloc (Nat.le_refl _) _)); (have HX17 := Aside0.mk (show w17.heap[g17]? = some (.cells #[.int .i64 0, .int .i64 0] 94 (0, 0)) from (by rw [hw17, hg17]; exact blk_new _ _))); have HG17 := Aside0.mk hg17; clear hw17 hg17; have HB17 := Aside0.mk (below_step HB14.out hb17); have hx17 := blk_below hx14 hb17; have cg1 : w17.cell? ⟨g, 1, none⟩ = some (.slice none 0 0) := (blk_cell hx17 1).trans rfl; clear hb17)
          | ((with_reducible refine gate_store (p := 100) rfl ?_); refine store_same_event rfl rfl 38 _ _ rfl g 1 _ rfl rfl rfl rfl 67 _ hx17 (show (1 : Nat) < 2 from by decide) rfl one_bounds ?_))
        go_ret2
        exact ⟨HB17.out, by rw [HF.out]; rfl⟩
set_option maxHeartbeats 4000000 in
set_option maxRecDepth 100000 in
theorem check_ite (u0 : Unit) (t : Tm) (w : World) (cs : List Value) (hK : kTm.K w t cs) (hs : shapeS t = true) (hp : ¬ t.f0 = 18) (hf : fineT t) (hll : t.f4.length ≤ 1000000) (g : Nat) (sig : List Sg)
    (AS : Option Addr) (cS : Nat) (hg : w.heap[g]? = some (.cells #[.slice AS sig.length cS, .slice none 0 0] 67 (0, 0))) (hlS : sig.length ≤ cS) (hCS : kSg.C w AS sig.length sig)
    (hof : ofS sig [] t = .ok .ite) (hx2 : t.f4.length = 3)
    (IH : ∀ x ∈ t.f4, ∀ (W : World) (cs' : List Value), Below w.heap.size w W → kTm.K W x cs' → Calls Try.prog 15 #[.pointer (some ⟨g, 0, none⟩), .agg cs'.toArray] W (GivesS W (checkT sig [] x))) :
    Calls Try.prog 15 #[.pointer (some ⟨g, 0, none⟩), .agg cs.toArray] w (GivesS w (checkT sig [] t)) := by
  have HT := Aside0.mk (checkT_eq sig [] t)
  have HX2 := Aside0.mk hx2
  clear hx2
  have HIH := Aside0.mk IH
  have HOF := Aside0.mk hof
  have hK0 := hK
  obtain ⟨A4, c4, A5, c5, A6, c6, rfl, l4, g4, l5, g5, l6, g6⟩ := kTm_open hK
  have HK := Aside0.mk hK0
  have HG4 := Aside0.mk g4
  have HG := Aside0.mk hg
  have HCS := Aside0.mk hCS
  have HS := Aside0.mk hs
  have HFN := Aside0.mk hf
  have HP := Aside0.mk hp
  have hlen : t.f4.length ≤ 9223372036854775807 := by omega
  have hta : ∀ v W, (Instr.typeAssert (.iface 122 v) 88 94 true).run Try.prog W = .ok (.tuple #[.agg #[.int .i64 0, .int .i64 0], .bool false]) W := fun v W => run_assert_no _ _ _ _ _ _ W Try.underlying94 (by decide) zero_bind
  clear IH hof hK hK0 hg hCS hs hf hp g4 g5 g6
  go_enter Try.func15, Try.ntmps15
  go_wp2_with (first
    | ((with_reducible refine gate_dst (N := 3) rfl ?_); refine box_event rfl (N := 3) rfl (cs := #[.int .i64 t.f0, .string t.f1, .int .i64 t.f2, .string t.f3, .slice A4 t.f4.length c4, .slice A5 t.f5.length c5, .slice A6 t.f6.length c6]) (t := 40) ?hr ?_; (case hr => first | (go_simp; done) | (go_simp; rfl)); intro g3 hg3 w3 hbox3 hb3; have HG3 := Aside0.mk hg3; have HX3 := Aside0.mk hbox3; clear hg3 hbox3)
    | ((with_reducible refine gate_dst (N := 19) rfl ?_); refine wpList_load_row rfl 40 _ rfl g3 rfl 40 #[.int .i64 t.f0, .string t.f1, .int .i64 t.f2, .string t.f3, .slice A4 t.f4.length c4, .slice A5 t.f5.length c5, .slice A6 t.f6.length c6] (0, 0) _ HX3.out Try.underlying40 rfl size_Tm ?_))
  refine (shape_calls t w3 _ (kTm.K_below hb3 HK.out) HFN.out).mono ?_
  rw [HS.out]
  rintro e w4 ⟨rfl, hb4⟩
  have HX4 := Aside0.mk (blk_below HX3.out hb4)
  have HB4 := Aside0.mk (below_step hb3 hb4)
  clear hb3 hb4
  go_wp2_with (first
    | ((with_reducible refine gate_dst (N := 24) rfl ?_); refine wpList_load_row rfl 40 _ rfl g3 rfl 40 #[.int .i64 t.f0, .string t.f1, .int .i64 t.f2, .string t.f3, .slice A4 t.f4.length c4, .slice A5 t.f5.length c5, .slice A6 t.f6.length c6] (0, 0) _ HX4.out Try.underlying40 rfl size_Tm ?_))
  refine (of_calls t w4 _ (kTm.K_below HB4.out HK.out) HS.out HP.out g sig [] AS cS ((blk_cell (blk_below HG.out HB4.out) 0).trans rfl) hlS (Kd.C_below HCS.out HB4.out)).mono ?_
  rw [HOF.out]
  rintro e w5 ⟨hb5, v, rfl, hv⟩
  obtain rfl : v = .iface 122 (.agg #[]) := hv
  have HX5 := Aside0.mk (blk_below HX4.out hb5)
  have HB5 := Aside0.mk (below_step HB4.out hb5)
  have cg1 : w5.cell? ⟨g, 1, none⟩ = some (.slice none 0 0) := (blk_cell (blk_below HG.out HB5.out) 1).trans rfl
  clear hb5
  go_wp2_with ((with_reducible refine gate_dst (N := 53) rfl ?_); (obtain ⟨w9, hw9⟩ : ∃ w9, w9 = w5.alloc (.cells #[.int .i64 0, .int .i64 0] 94) := ⟨_, rfl⟩); (obtain ⟨g9, hg9⟩ : ∃ g9, g9 = w5.heap.size := ⟨_, rfl⟩); rw [← hw9]; rw [← hg9]; (have hb9 : Below w5.heap.size w5 w9 := (by rw [hw9]; exact (Below.refl _ _).alloc (Nat.le_refl _) _)); (have HX9 := Aside0.mk (show w9.heap[g9]? = some (.cells #[.int .i64 0, .int .i64 0] 94 (0, 0)) from (by rw [hw9, hg9]; exact blk_new _ _))); have HG9 := Aside0.mk hg9; clear hw9 hg9; have HX6 := Aside0.mk (blk_below HX5.out hb9); have HB6 := Aside0.mk (below_step HB5.out hb9); have HB59 := Aside0.mk hb9; have c34 : w9.cell? ⟨g3, 4, none⟩ = some (.slice A4 t.f4.length c4) := (blk_cell HX6.out 4).trans rfl; clear hb9 cg1)
  go_loopg [11, 13, 14, 15, 55] t.f4.length (fun gg v11 _ _ _ v55 wr => ∃ (k : Nat) (ss : List Int), k ≤ t.f4.length ∧ t.f4.length - k ≤ gg ∧ v55 = .int .i64 k ∧ Aside0 (ss.length = k) ∧ Aside0 (Below w9.heap.size w9 wr) ∧ Aside0 (wr.ownsRow w9.heap.size 3 1 v11 ss.length (nums .i64 ss)) ∧ Aside0 (checkL sig [] (t.f4.take k) = .ok ss))
  case atStart => exact ⟨0, [], Nat.zero_le _, by omega, rfl, ⟨rfl⟩, ⟨Below.refl _ _⟩, ⟨own_nil _ _ _ _⟩, ⟨by simp [checkL]⟩⟩
  case round =>
    obtain ⟨k, ss, hk, hgg, rfl, HSL, BW, HO, HCL⟩ := hrel
    by_cases hlt : k < t.f4.length
    · obtain ⟨ad, cs, e, hl, hK, hc⟩ := Kd.C_get HG4.out zTm (k : Int) (by omega) (by omega)
      subst e
      have hbw := below_step HB6.out BW.out
      have hK' := kTm.K_below hbw hK
      rw [show ((k : Int)).toNat = k from rfl] at hK' hc
      obtain ⟨x, hx⟩ : ∃ x, x = t.f4.getD k zTm := ⟨_, rfl⟩
      rw [← hx] at hK'
      have HXE := Aside0.mk hx
      have HKx := Aside0.mk hK'
      obtain ⟨B4, d4, B5, d5, B6, d6, rfl, _, _, _, _, _, _⟩ := kTm_open hK'
      have HL := Aside0.mk (show ∀ j v, [.int .i64 x.f0, .string x.f1, .int .i64 x.f2, .string x.f3, .slice B4 x.f4.length d4, .slice B5 x.f5.length d5, .slice B6 x.f6.length d6][j]? = some v → wr.cell? ((ad.add (k * kTm.sz)).add j) = some v from fun j v hv => by
        have := hc j v hv
        rw [add_add]
        exact (hbw.cell (World.block_lt_of_cell? w _ this)).trans this)
      have HM := Aside0.mk (show x ∈ t.f4 by rw [hx, List.getD_eq_getElem?_getD, List.getElem?_eq_getElem hlt]; exact List.getElem_mem hlt)
      clear hc hK hK' hl hbw hx
      go_wp2_with (first
        | ((with_reducible refine gate_dst (N := 58) rfl ?_); refine wpList_load_cells rfl 40 _ rfl (ad.add (k * kTm.sz)) rfl [.int .i64 x.f0, .string x.f1, .int .i64 x.f2, .string x.f3, .slice B4 x.f4.length d4, .slice B5 x.f5.length d5, .slice B6 x.f6.length d6] _ Try.underlying40 rfl size_Tm HL.out ?_)
        | ((with_reducible refine gate_dst (N := 61) rfl ?_); (obtain ⟨w13, hw13⟩ : ∃ w13, w13 = wr.alloc (.cells #[.int .i64 x.f0, .string x.f1, .int .i64 x.f2, .string x.f3, .slice B4 x.f4.length d4, .slice B5 x.f5.length d5, .slice B6 x.f6.length d6] 40) := ⟨_, rfl⟩); (obtain ⟨g13, hg13⟩ : ∃ g13, g13 = wr.heap.size := ⟨_, rfl⟩); rw [← hw13]; rw [← hg13]; (have hb13 : Below wr.heap.size wr w13 := (by rw [hw13]; exact (Below.refl _ _).alloc (Nat.le_refl _) _)); (have HX13 := Aside0.mk (show w13.heap[g13]? = some (.cells #[.int .i64 x.f0, .string x.f1, .int .i64 x.f2, .string x.f3, .slice B4 x.f4.length d4, .slice B5 x.f5.length d5, .slice B6 x.f6.length d6] 40 (0, 0)) from (by rw [hw13, hg13]; exact blk_new _ _))); have HG13 := Aside0.mk hg13; clear hw13 hg13)
        | ((with_reducible refine gate_dst (N := 61) rfl ?_); refine wpList_load_row rfl 40 _ rfl g13 rfl 40 #[.int .i64 x.f0, .string x.f1, .int .i64 x.f2, .string x.f3, .slice B4 x.f4.length d4, .slice B5 x.f5.length d5, .slice B6 x.f6.length d6] (0, 0) _ HX13.out Try.underlying40 rfl size_Tm ?_))
      refine (HIH.out x HM.out w13 _ (below_step HB6.out (below_step BW.out hb13)) (kTm.K_below hb13 HKx.out)).mono ?_
      cases hr : checkT sig [] x with
      | error e =>
        have HF := Aside0.mk (show checkT sig [] t = .error e from by
          rw [HT.out, HS.out, HOF.out]
          have := (checkL_take sig [] t.f4 k hlt ss HCL.out).2 e (by rw [← HXE.out]; exact hr)
          simp [bsOf, this])
        clear hr
        rintro e0 w14 ⟨hb14, hne, rfl⟩
        have hne' : (e != 0) = true := by simpa using hne
        have HB14 := Aside0.mk (below_step (below_step HB6.out (below_step BW.out hb13)) hb14)
        clear hb13 hb14
        go_wp2
        go_ret2
        exact ⟨HB14.out, by rw [HF.out]; exact ⟨hne, rfl⟩⟩
      | ok s =>
        have HCL1 := Aside0.mk ((checkL_take sig [] t.f4 k hlt ss HCL.out).1 s (by rw [← HXE.out]; exact hr))
        clear hr
        rintro e0 w14 ⟨hb14, rfl⟩
        have BW14 := Aside0.mk (below_step (below_step BW.out hb13) hb14)
        have HO14 := Aside0.mk (pw_own_below (pw_own_below HO.out hb13) hb14)
        clear hb13 hb14
        go_wp2_with ((with_reducible refine gate_dst (N := 71) rfl ?_); refine print_append_num (w0 := w9) w9.heap.size rfl _ _ 33 3 .i64 8 rfl Try.underlying33 info_int (by decide) u11 ss _ rfl rfl HO14.out BW14.out BW14.out.size ?hl ?_; (case hl => have := HSL.out; omega); intro v1 w1 hown hb1 hg1 hat1; have HO1 := Aside0.mk hown; have HB1 := Aside0.mk hb1; clear hown hb1 hg1 hat1)
        go_roundg (t.f4.length - (k + 1))
        case measure => omega
        case rel =>
          exact ⟨k + 1, ss ++ [s], by omega, by omega, by go_num, ⟨by rw [List.length_append, HSL.out]; rfl⟩, HB1, HO1, HCL1⟩
    · have hke : k = t.f4.length := by omega
      have HCL2 := Aside0.mk (show checkL sig [] t.f4 = .ok ss from by
        have := HCL.out
        rwa [hke, List.take_length] at this)
      have HKE := Aside0.mk hke
      clear hke
      obtain ⟨A11, c11, rfl, hl11, hC11⟩ := own_C64 HO.out
      have hmt : ∀ v W, (Go.method 282 122 v "avow/term.sort").run Try.prog W = .ok (98, v) W := fun v W => by kernel_rfl
      have hen : ∀ args W, (callFunc 98 args).run Try.prog W = .ok (.enter 98 args) W := fun args W => enters_ Try.func98 (by kernel_rfl) rfl args W
      have HBW := Aside0.mk (below_step HB6.out BW.out)
      go_wp2_with fail
      refine (sort_ite ss A11 c11 wr hl11 hC11 (HSL.out.trans (HKE.out.trans HX2.out))).mono ?_
      cases hr : sortS ss .ite with
      | error e =>
        have HF := Aside0.mk (show checkT sig [] t = .error e from by
          rw [HT.out, HS.out, HOF.out]
          simp [bsOf, HCL2.out, hr])
        clear hr
        rintro e0 w14 ⟨hb14, hne, rfl⟩
        have hne' : (e != 0) = true := by simpa using hne
        have HB14 := Aside0.mk (below_step HBW.out hb14)
        have hx14 := blk_below HG.out HB14.out
        clear hb14
        go_wp2_with (first
          | ((with_reducible refine gate_dst (N := 96) rfl ?_); (obtain ⟨w17, hw17⟩ : ∃ w17, w17 = w14.alloc (.cells #[.int .i64 0, .int .i64 0] 94) := ⟨_, rfl⟩); (obtain ⟨g17, hg17⟩ : ∃ g17, g17 = w14.heap.size := ⟨_, rfl⟩); rw [← hw17]; rw [← hg17]; (have hb17 : Below w14.heap.size w14 w17 := (by rw [hw17]; exact (Below.refl _ _).alloc (Nat.le_refl _) _)); (have HX17 := Aside0.mk (show w17.heap[g17]? = some (.cells #[.int .i64 0, .int .i64 0] 94 (0, 0)) from (by rw [hw17, hg17]; exact blk_new _ _))); have HG17 := Aside0.mk hg17; clear hw17 hg17; have HB17 := Aside0.mk (below_step HB14.out hb17); have hx17 := blk_below hx14 hb17; have cg1 : w17.cell? ⟨g, 1, none⟩ = some (.slice none 0 0) := (blk_cell hx17 1).trans rfl; clear hb17)
          | ((with_reducible refine gate_store (p := 100) rfl ?_); refine store_same_event rfl rfl 38 _ _ rfl g 1 _ rfl rfl rfl rfl 67 _ hx17 (show (1 : Nat) < 2 from by decide) rfl one_bounds ?_))
        go_ret2
        exact ⟨HB17.out, by rw [HF.out]; exact ⟨hne, rfl⟩⟩
      | ok s =>
        have HF := Aside0.mk (show checkT sig [] t = .ok s from by
          rw [HT.out, HS.out, HOF.out]
          simp [bsOf, HCL2.out, hr])
        clear hr
        rintro e0 w14 ⟨hb14, rfl⟩
        have HB14 := Aside0.mk (below_step HBW.out hb14)
        have hx14 := blk_below HG.out HB14.out
        clear hb14
        go_wp2_with (first
          | ((with_reducible refine gate_dst (N := 96) rfl ?_); (obtain ⟨w17, hw17⟩ : ∃ w17, w17 = w14.alloc (.cells #[.int .i64 0, .int .i64 0] 94) := ⟨_, rfl⟩); (obtain ⟨g17, hg17⟩ : ∃ g17, g17 = w14.heap.size := ⟨_, rfl⟩); rw [← hw17]; rw [← hg17]; (have hb17 : Below w14.heap.size w14 w17 := (by rw [hw17]; exact (Below.refl _ _).alloc (Nat.le_refl _) _)); (have HX17 := Aside0.mk (show w17.heap[g17]? = some (.cells #[.int .i64 0, .int .i64 0] 94 (0, 0)) from (by rw [hw17, hg17]; exact blk_new _ _))); have HG17 := Aside0.mk hg17; clear hw17 hg17; have HB17 := Aside0.mk (below_step HB14.out hb17); have hx17 := blk_below hx14 hb17; have cg1 : w17.cell? ⟨g, 1, none⟩ = some (.slice none 0 0) := (blk_cell hx17 1).trans rfl; clear hb17)
          | ((with_reducible refine gate_store (p := 100) rfl ?_); refine store_same_event rfl rfl 38 _ _ rfl g 1 _ rfl rfl rfl rfl 67 _ hx17 (show (1 : Nat) < 2 from by decide) rfl one_bounds ?_))
        go_ret2
        exact ⟨HB17.out, by rw [HF.out]; rfl⟩
set_option maxHeartbeats 4000000 in
set_option maxRecDepth 100000 in
theorem check_fun (f0 : Sg) (t : Tm) (w : World) (cs : List Value) (hK : kTm.K w t cs) (hs : shapeS t = true) (hp : ¬ t.f0 = 18) (hf : fineT t) (hll : t.f4.length ≤ 1000000) (g : Nat) (sig : List Sg)
    (AS : Option Addr) (cS : Nat) (hg : w.heap[g]? = some (.cells #[.slice AS sig.length cS, .slice none 0 0] 67 (0, 0))) (hlS : sig.length ≤ cS) (hCS : kSg.C w AS sig.length sig)
    (hof : ofS sig [] t = .ok (.fn f0)) (hx2 : True)
    (IH : ∀ x ∈ t.f4, ∀ (W : World) (cs' : List Value), Below w.heap.size w W → kTm.K W x cs' → Calls Try.prog 15 #[.pointer (some ⟨g, 0, none⟩), .agg cs'.toArray] W (GivesS W (checkT sig [] x))) :
    Calls Try.prog 15 #[.pointer (some ⟨g, 0, none⟩), .agg cs.toArray] w (GivesS w (checkT sig [] t)) := by
  have HT := Aside0.mk (checkT_eq sig [] t)
  have HX2 := Aside0.mk hx2
  clear hx2
  have HIH := Aside0.mk IH
  have HOF := Aside0.mk hof
  have hK0 := hK
  obtain ⟨A4, c4, A5, c5, A6, c6, rfl, l4, g4, l5, g5, l6, g6⟩ := kTm_open hK
  have HK := Aside0.mk hK0
  have HG4 := Aside0.mk g4
  have HG := Aside0.mk hg
  have HCS := Aside0.mk hCS
  have HS := Aside0.mk hs
  have HFN := Aside0.mk hf
  have HP := Aside0.mk hp
  have hlen : t.f4.length ≤ 9223372036854775807 := by omega
  have hta : ∀ v W, (Instr.typeAssert (.iface 127 v) 88 94 true).run Try.prog W = .ok (.tuple #[.agg #[.int .i64 0, .int .i64 0], .bool false]) W := fun v W => run_assert_no _ _ _ _ _ _ W Try.underlying94 (by decide) zero_bind
  clear IH hof hK hK0 hg hCS hs hf hp g4 g5 g6
  go_enter Try.func15, Try.ntmps15
  go_wp2_with (first
    | ((with_reducible refine gate_dst (N := 3) rfl ?_); refine box_event rfl (N := 3) rfl (cs := #[.int .i64 t.f0, .string t.f1, .int .i64 t.f2, .string t.f3, .slice A4 t.f4.length c4, .slice A5 t.f5.length c5, .slice A6 t.f6.length c6]) (t := 40) ?hr ?_; (case hr => first | (go_simp; done) | (go_simp; rfl)); intro g3 hg3 w3 hbox3 hb3; have HG3 := Aside0.mk hg3; have HX3 := Aside0.mk hbox3; clear hg3 hbox3)
    | ((with_reducible refine gate_dst (N := 19) rfl ?_); refine wpList_load_row rfl 40 _ rfl g3 rfl 40 #[.int .i64 t.f0, .string t.f1, .int .i64 t.f2, .string t.f3, .slice A4 t.f4.length c4, .slice A5 t.f5.length c5, .slice A6 t.f6.length c6] (0, 0) _ HX3.out Try.underlying40 rfl size_Tm ?_))
  refine (shape_calls t w3 _ (kTm.K_below hb3 HK.out) HFN.out).mono ?_
  rw [HS.out]
  rintro e w4 ⟨rfl, hb4⟩
  have HX4 := Aside0.mk (blk_below HX3.out hb4)
  have HB4 := Aside0.mk (below_step hb3 hb4)
  clear hb3 hb4
  go_wp2_with (first
    | ((with_reducible refine gate_dst (N := 24) rfl ?_); refine wpList_load_row rfl 40 _ rfl g3 rfl 40 #[.int .i64 t.f0, .string t.f1, .int .i64 t.f2, .string t.f3, .slice A4 t.f4.length c4, .slice A5 t.f5.length c5, .slice A6 t.f6.length c6] (0, 0) _ HX4.out Try.underlying40 rfl size_Tm ?_))
  refine (of_calls t w4 _ (kTm.K_below HB4.out HK.out) HS.out HP.out g sig [] AS cS ((blk_cell (blk_below HG.out HB4.out) 0).trans rfl) hlS (Kd.C_below HCS.out HB4.out)).mono ?_
  rw [HOF.out]
  rintro e w5 ⟨hb5, v, rfl, hv⟩
  obtain ⟨cs0, rfl, HKF⟩ := Exists.imp (fun _ h => And.imp_right Aside0.mk h) hv
  have HX5 := Aside0.mk (blk_below HX4.out hb5)
  have HB5 := Aside0.mk (below_step HB4.out hb5)
  have cg1 : w5.cell? ⟨g, 1, none⟩ = some (.slice none 0 0) := (blk_cell (blk_below HG.out HB5.out) 1).trans rfl
  clear hb5
  go_wp2_with ((with_reducible refine gate_dst (N := 53) rfl ?_); (obtain ⟨w9, hw9⟩ : ∃ w9, w9 = w5.alloc (.cells #[.int .i64 0, .int .i64 0] 94) := ⟨_, rfl⟩); (obtain ⟨g9, hg9⟩ : ∃ g9, g9 = w5.heap.size := ⟨_, rfl⟩); rw [← hw9]; rw [← hg9]; (have hb9 : Below w5.heap.size w5 w9 := (by rw [hw9]; exact (Below.refl _ _).alloc (Nat.le_refl _) _)); (have HX9 := Aside0.mk (show w9.heap[g9]? = some (.cells #[.int .i64 0, .int .i64 0] 94 (0, 0)) from (by rw [hw9, hg9]; exact blk_new _ _))); have HG9 := Aside0.mk hg9; clear hw9 hg9; have HX6 := Aside0.mk (blk_below HX5.out hb9); have HB6 := Aside0.mk (below_step HB5.out hb9); have HB59 := Aside0.mk hb9; have c34 : w9.cell? ⟨g3, 4, none⟩ = some (.slice A4 t.f4.length c4) := (blk_cell HX6.out 4).trans rfl; clear hb9 cg1)
  go_loopg [11, 13, 14, 15, 55] t.f4.length (fun gg v11 _ _ _ v55 wr => ∃ (k : Nat) (ss : List Int), k ≤ t.f4.length ∧ t.f4.length - k ≤ gg ∧ v55 = .int .i64 k ∧ Aside0 (ss.length = k) ∧ Aside0 (Below w9.heap.size w9 wr) ∧ Aside0 (wr.ownsRow w9.heap.size 3 1 v11 ss.length (nums .i64 ss)) ∧ Aside0 (checkL sig [] (t.f4.take k) = .ok ss))
  case atStart => exact ⟨0, [], Nat.zero_le _, by omega, rfl, ⟨rfl⟩, ⟨Below.refl _ _⟩, ⟨own_nil _ _ _ _⟩, ⟨by simp [checkL]⟩⟩
  case round =>
    obtain ⟨k, ss, hk, hgg, rfl, HSL, BW, HO, HCL⟩ := hrel
    by_cases hlt : k < t.f4.length
    · obtain ⟨ad, cs, e, hl, hK, hc⟩ := Kd.C_get HG4.out zTm (k : Int) (by omega) (by omega)
      subst e
      have hbw := below_step HB6.out BW.out
      have hK' := kTm.K_below hbw hK
      rw [show ((k : Int)).toNat = k from rfl] at hK' hc
      obtain ⟨x, hx⟩ : ∃ x, x = t.f4.getD k zTm := ⟨_, rfl⟩
      rw [← hx] at hK'
      have HXE := Aside0.mk hx
      have HKx := Aside0.mk hK'
      obtain ⟨B4, d4, B5, d5, B6, d6, rfl, _, _, _, _, _, _⟩ := kTm_open hK'
      have HL := Aside0.mk (show ∀ j v, [.int .i64 x.f0, .string x.f1, .int .i64 x.f2, .string x.f3, .slice B4 x.f4.length d4, .slice B5 x.f5.length d5, .slice B6 x.f6.length d6][j]? = some v → wr.cell? ((ad.add (k * kTm.sz)).add j) = some v from fun j v hv => by
        have := hc j v hv
        rw [add_add]
        exact (hbw.cell (World.block_lt_of_cell? w _ this)).trans this)
      have HM := Aside0.mk (show x ∈ t.f4 by rw [hx, List.getD_eq_getElem?_getD, List.getElem?_eq_getElem hlt]; exact List.getElem_mem hlt)
      clear hc hK hK' hl hbw hx
      go_wp2_with (first
        | ((with_reducible refine gate_dst (N := 58) rfl ?_); refine wpList_load_cells rfl 40 _ rfl (ad.add (k * kTm.sz)) rfl [.int .i64 x.f0, .string x.f1, .int .i64 x.f2, .string x.f3, .slice B4 x.f4.length d4, .slice B5 x.f5.length d5, .slice B6 x.f6.length d6] _ Try.underlying40 rfl size_Tm HL.out ?_)
        | ((with_reducible refine gate_dst (N := 61) rfl ?_); (obtain ⟨w13, hw13⟩ : ∃ w13, w13 = wr.alloc (.cells #[.int .i64 x.f0, .string x.f1, .int .i64 x.f2, .string x.f3, .slice B4 x.f4.length d4, .slice B5 x.f5.length d5, .slice B6 x.f6.length d6] 40) := ⟨_, rfl⟩); (obtain ⟨g13, hg13⟩ : ∃ g13, g13 = wr.heap.size := ⟨_, rfl⟩); rw [← hw13]; rw [← hg13]; (have hb13 : Below wr.heap.size wr w13 := (by rw [hw13]; exact (Below.refl _ _).alloc (Nat.le_refl _) _)); (have HX13 := Aside0.mk (show w13.heap[g13]? = some (.cells #[.int .i64 x.f0, .string x.f1, .int .i64 x.f2, .string x.f3, .slice B4 x.f4.length d4, .slice B5 x.f5.length d5, .slice B6 x.f6.length d6] 40 (0, 0)) from (by rw [hw13, hg13]; exact blk_new _ _))); have HG13 := Aside0.mk hg13; clear hw13 hg13)
        | ((with_reducible refine gate_dst (N := 61) rfl ?_); refine wpList_load_row rfl 40 _ rfl g13 rfl 40 #[.int .i64 x.f0, .string x.f1, .int .i64 x.f2, .string x.f3, .slice B4 x.f4.length d4, .slice B5 x.f5.length d5, .slice B6 x.f6.length d6] (0, 0) _ HX13.out Try.underlying40 rfl size_Tm ?_))
      refine (HIH.out x HM.out w13 _ (below_step HB6.out (below_step BW.out hb13)) (kTm.K_below hb13 HKx.out)).mono ?_
      cases hr : checkT sig [] x with
      | error e =>
        have HF := Aside0.mk (show checkT sig [] t = .error e from by
          rw [HT.out, HS.out, HOF.out]
          have := (checkL_take sig [] t.f4 k hlt ss HCL.out).2 e (by rw [← HXE.out]; exact hr)
          simp [bsOf, this])
        clear hr
        rintro e0 w14 ⟨hb14, hne, rfl⟩
        have hne' : (e != 0) = true := by simpa using hne
        have HB14 := Aside0.mk (below_step (below_step HB6.out (below_step BW.out hb13)) hb14)
        clear hb13 hb14
        go_wp2
        go_ret2
        exact ⟨HB14.out, by rw [HF.out]; exact ⟨hne, rfl⟩⟩
      | ok s =>
        have HCL1 := Aside0.mk ((checkL_take sig [] t.f4 k hlt ss HCL.out).1 s (by rw [← HXE.out]; exact hr))
        clear hr
        rintro e0 w14 ⟨hb14, rfl⟩
        have BW14 := Aside0.mk (below_step (below_step BW.out hb13) hb14)
        have HO14 := Aside0.mk (pw_own_below (pw_own_below HO.out hb13) hb14)
        clear hb13 hb14
        go_wp2_with ((with_reducible refine gate_dst (N := 71) rfl ?_); refine print_append_num (w0 := w9) w9.heap.size rfl _ _ 33 3 .i64 8 rfl Try.underlying33 info_int (by decide) u11 ss _ rfl rfl HO14.out BW14.out BW14.out.size ?hl ?_; (case hl => have := HSL.out; omega); intro v1 w1 hown hb1 hg1 hat1; have HO1 := Aside0.mk hown; have HB1 := Aside0.mk hb1; clear hown hb1 hg1 hat1)
        go_roundg (t.f4.length - (k + 1))
        case measure => omega
        case rel =>
          exact ⟨k + 1, ss ++ [s], by omega, by omega, by go_num, ⟨by rw [List.length_append, HSL.out]; rfl⟩, HB1, HO1, HCL1⟩
    · have hke : k = t.f4.length := by omega
      have HCL2 := Aside0.mk (show checkL sig [] t.f4 = .ok ss from by
        have := HCL.out
        rwa [hke, List.take_length] at this)
      have HKE := Aside0.mk hke
      clear hke
      obtain ⟨A11, c11, rfl, hl11, hC11⟩ := own_C64 HO.out
      have hmt : ∀ v W, (Go.method 282 127 v "avow/term.sort").run Try.prog W = .ok (99, v) W := fun v W => by kernel_rfl
      have hen : ∀ args W, (callFunc 99 args).run Try.prog W = .ok (.enter 99 args) W := fun args W => enters_ Try.func99 (by kernel_rfl) rfl args W
      have HBW := Aside0.mk (below_step HB6.out BW.out)
      go_wp2_with fail
      refine (sort_fun ss A11 c11 wr f0 cs0 (kSg.K_below (below_step HB59.out BW.out) HKF.out) hl11 hC11).mono ?_
      cases hr : sortS ss (.fn f0) with
      | error e =>
        have HF := Aside0.mk (show checkT sig [] t = .error e from by
          rw [HT.out, HS.out, HOF.out]
          simp [bsOf, HCL2.out, hr])
        clear hr
        rintro e0 w14 ⟨hb14, hne, rfl⟩
        have hne' : (e != 0) = true := by simpa using hne
        have HB14 := Aside0.mk (below_step HBW.out hb14)
        have hx14 := blk_below HG.out HB14.out
        clear hb14
        go_wp2_with (first
          | ((with_reducible refine gate_dst (N := 96) rfl ?_); (obtain ⟨w17, hw17⟩ : ∃ w17, w17 = w14.alloc (.cells #[.int .i64 0, .int .i64 0] 94) := ⟨_, rfl⟩); (obtain ⟨g17, hg17⟩ : ∃ g17, g17 = w14.heap.size := ⟨_, rfl⟩); rw [← hw17]; rw [← hg17]; (have hb17 : Below w14.heap.size w14 w17 := (by rw [hw17]; exact (Below.refl _ _).alloc (Nat.le_refl _) _)); (have HX17 := Aside0.mk (show w17.heap[g17]? = some (.cells #[.int .i64 0, .int .i64 0] 94 (0, 0)) from (by rw [hw17, hg17]; exact blk_new _ _))); have HG17 := Aside0.mk hg17; clear hw17 hg17; have HB17 := Aside0.mk (below_step HB14.out hb17); have hx17 := blk_below hx14 hb17; have cg1 : w17.cell? ⟨g, 1, none⟩ = some (.slice none 0 0) := (blk_cell hx17 1).trans rfl; clear hb17)
          | ((with_reducible refine gate_store (p := 100) rfl ?_); refine store_same_event rfl rfl 38 _ _ rfl g 1 _ rfl rfl rfl rfl 67 _ hx17 (show (1 : Nat) < 2 from by decide) rfl one_bounds ?_))
        go_ret2
        exact ⟨HB17.out, by rw [HF.out]; exact ⟨hne, rfl⟩⟩
      | ok s =>
        have HF := Aside0.mk (show checkT sig [] t = .ok s from by
          rw [HT.out, HS.out, HOF.out]
          simp [bsOf, HCL2.out, hr])
        clear hr
        rintro e0 w14 ⟨hb14, rfl⟩
        have HB14 := Aside0.mk (below_step HBW.out hb14)
        have hx14 := blk_below HG.out HB14.out
        clear hb14
        go_wp2_with (first
          | ((with_reducible refine gate_dst (N := 96) rfl ?_); (obtain ⟨w17, hw17⟩ : ∃ w17, w17 = w14.alloc (.cells #[.int .i64 0, .int .i64 0] 94) := ⟨_, rfl⟩); (obtain ⟨g17, hg17⟩ : ∃ g17, g17 = w14.heap.size := ⟨_, rfl⟩); rw [← hw17]; rw [← hg17]; (have hb17 : Below w14.heap.size w14 w17 := (by rw [hw17]; exact (Below.refl _ _).alloc (Nat.le_refl _) _)); (have HX17 := Aside0.mk (show w17.heap[g17]? = some (.cells #[.int .i64 0, .int .i64 0] 94 (0, 0)) from (by rw [hw17, hg17]; exact blk_new _ _))); have HG17 := Aside0.mk hg17; clear hw17 hg17; have HB17 := Aside0.mk (below_step HB14.out hb17); have hx17 := blk_below hx14 hb17; have cg1 : w17.cell? ⟨g, 1, none⟩ = some (.slice none 0 0) := (blk_cell hx17 1).trans rfl; clear hb17)
          | ((with_reducible refine gate_store (p := 100) rfl ?_); refine store_same_event rfl rfl 38 _ _ rfl g 1 _ rfl rfl rfl rfl 67 _ hx17 (show (1 : Nat) < 2 from by decide) rfl one_bounds ?_))
        go_ret2
        exact ⟨HB17.out, by rw [HF.out]; rfl⟩
end Go.Proofs.Ytiokmnabkccpcaa.Kit
