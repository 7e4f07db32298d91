/- The model: Value, its deferred closure. -/
import Derived.Test.YtiokmnabkccpcaaD7
import Derived.Recover
set_option linter.unusedVariables false
set_option linter.unusedSimpArgs false
namespace Go.Proofs.Ytiokmnabkccpcaa.Kit
open Go.RowKit Go.Proofs.YtiokmnabkccpcaaW.PrintWords Go.Proofs.YtiokmnabkccpcaaW.PrintLast Go.Proofs.YtiokmnabkccpcaaW.PrintMore

theorem catch_idle (p q : Addr) (w : World) :
    CallsD Try.prog 11 #[.pointer (some p), .pointer (some q)] .returning w fun e u' w' => e = .returned (.tuple #[]) ∧ u' = .returning ∧ w' = w := by
  refine callsD_of_wpS Try.func11 rfl fun c₀ cs hu => ?_
  apply wpS_seq
  apply wpS_region
  simp [wpOpsS, go_sem, recoverD, hu, Try.ntmps11, Exit.thenS]
  refine wpS_of_wp ?_
  cases c₀
  go_wp2
  simp_all [bodyPostS, results, Try.results11]

set_option maxHeartbeats 4000000 in
theorem catch_panic (g6 g7 : Nat) (s0 : ByteArray) (k0 : Int) (w : World) (h6 : w.heap[g6]? = some (.cells #[.string s0] 9 (0, 0))) (h7 : w.heap[g7]? = some (.cells #[.int .i64 k0] 41 (0, 0))) (hne : g6 ≠ g7) :
    CallsD Try.prog 11 #[.pointer (some ⟨g6, 0, none⟩), .pointer (some ⟨g7, 0, none⟩)] (.panicking [{ v := failV, recovered := false }]) w fun e u' w' =>
      e = .returned (.tuple #[]) ∧ u' = .panicking [{ v := failV, recovered := true }] ∧ w'.heap[g6]? = some (.cells #[.string ⟨#[]⟩] 9 (0, 0)) ∧ w'.heap[g7]? = some (.cells #[.int .i64 40] 41 (0, 0)) ∧ ∀ B a, B ≤ g6 → B ≤ g7 → Below B a w → Below B a w' := by
  have hta : ∀ v W, (Instr.typeAssert (.iface 59 v) 20 59 true).run Try.prog W = .ok (.tuple #[v, .bool true]) W := fun v W => run_assert_yes _ _ _ _ W Try.underlying59
  have H6 := Aside0.mk h6
  have H7 := Aside0.mk h7
  clear h6 h7
  unfold failV
  refine callsD_of_wpS Try.func11 rfl fun c₀ cs hu => ?_
  apply wpS_seq
  apply wpS_region
  simp [wpOpsS, go_sem, recoverD, hu, Try.ntmps11, Exit.thenS]
  refine wpS_of_wp ?_
  cases c₀
  go_wp2
  obtain ⟨w3, hw3⟩ : ∃ w3, w3 = w.alloc (.cells #[.int .i64 40] 59) := ⟨_, rfl⟩
  obtain ⟨g3, hg3⟩ : ∃ g3, g3 = w.heap.size := ⟨_, rfl⟩
  rw [← hw3, ← hg3]
  have hb3 : Below w.heap.size w w3 := by rw [hw3]; exact (Below.refl _ _).alloc (Nat.le_refl _) _
  have hx3 : w3.heap[g3]? = some (.cells #[.int .i64 40] 59 (0, 0)) := by rw [hw3, hg3]; exact blk_new _ _
  have HX6 := Aside0.mk (blk_below H6.out hb3)
  have HX7 := Aside0.mk (blk_below H7.out hb3)
  have HB3 := Aside0.mk hb3
  have c3 : w3.cell? ⟨g3, 0, none⟩ = some (.int .i64 40) := (blk_cell hx3 0).trans rfl
  have c6 : w3.cell? ⟨g6, 0, none⟩ = some (.string s0) := (blk_cell HX6.out 0).trans rfl
  have c7 : w3.cell? ⟨g7, 0, none⟩ = some (.int .i64 k0) := (blk_cell HX7.out 0).trans rfl
  have f6 := blk_frozen HX6.out 0
  have f7 := blk_frozen HX7.out 0
  have n36 : ¬ g3 = g6 := by have := blk_lt H6.out; omega
  have n63 : ¬ g6 = g3 := fun e => n36 e.symm
  have n37 : ¬ g3 = g7 := by have := blk_lt H7.out; omega
  have n73 : ¬ g7 = g3 := fun e => n37 e.symm
  have n67 : ¬ g6 = g7 := hne
  have n76 : ¬ g7 = g6 := fun e => hne e.symm
  clear hw3 hg3 hb3 hx3 hne
  obtain ⟨W1, hW1⟩ : ∃ W1, W1 = (w3.setCell ⟨g6, 0, none⟩ (.string ⟨#[]⟩)) := ⟨_, rfl⟩
  have e1 := wrote_setCell w3 g6 0 (.string ⟨#[]⟩) _ _ HX6.out
  rw [← hW1] at e1
  obtain ⟨W2, hW2⟩ : ∃ W2, W2 = (W1.setCell ⟨g7, 0, none⟩ (.int .i64 40)) := ⟨_, rfl⟩
  have e2 := wrote_setCell W1 g7 0 (.int .i64 40) _ _ (e1.2.blk HX7.out n76)
  rw [← hW2] at e2
  have F := Aside0.mk (show W2.drew.heap[g6]? = some (.cells #[.string ⟨#[]⟩] 9 (0, 0)) ∧ W2.drew.heap[g7]? = some (.cells #[.int .i64 40] 41 (0, 0)) ∧ ∀ B a, B ≤ g6 → B ≤ g7 → Below B a w → Below B a W2.drew from
    ⟨e2.2.blk e1.1 n67, e2.1, fun B a h6 h7 hb => (e2.2.below B a h7 (e1.2.below B a h6 (hb.trans (HB3.out.mono (by have := blk_lt H6.out; omega))))).drew⟩)
  rw [hW2, hW1] at F
  clear e1 e2 hW1 hW2
  go_region
  all_goals exact ⟨rfl, _, rfl, _, results_none rfl _ _ _, rfl, rfl, F.out⟩

theorem keep8 {w w1 : World} {p0 p1 p2 p3 p4 p5 p6 p7 : Addr} {v0 v1 v2 v3 v4 v5 v6 v7 : Value} (h : w.cell? p0 = some v0 ∧ w.cell? p1 = some v1 ∧ w.cell? p2 = some v2 ∧ w.cell? p3 = some v3 ∧ w.cell? p4 = some v4 ∧ w.cell? p5 = some v5 ∧ w.cell? p6 = some v6 ∧ w.cell? p7 = some v7) (hb : Below w.heap.size w w1) : w1.cell? p0 = some v0 ∧ w1.cell? p1 = some v1 ∧ w1.cell? p2 = some v2 ∧ w1.cell? p3 = some v3 ∧ w1.cell? p4 = some v4 ∧ w1.cell? p5 = some v5 ∧ w1.cell? p6 = some v6 ∧ w1.cell? p7 = some v7 ∧ Below w.heap.size w w1 :=
  let ⟨h0, h1, h2, h3, h4, h5, h6, h7⟩ := h
  ⟨keepc hb h0, keepc hb h1, keepc hb h2, keepc hb h3, keepc hb h4, keepc hb h5, keepc hb h6, keepc hb h7, hb⟩
def objsOf (mo : Int) : Int := min (max mo 0) 1000
def GivesVal (w : World) (s : ByteArray) (k : Int) : Ending → World → Prop := fun e w' => e = .returned (.tuple #[.string s, .int .i64 k]) ∧ Below w.heap.size w w'
def GivesAns (w : World) (R : Option Vl) : Ending → World → Prop := match R with | some u => GivesVal w (txtS u) 0 | none => GivesVal w ⟨#[]⟩ 40
theorem one_string : (Try.prog.info? 9).map (·.size) = some 1 := by kernel_rfl
theorem one_errno2 : (Try.prog.info? 41).map (·.size) = some 1 := by kernel_rfl
theorem size_Md : (Try.prog.info? 46).map (·.size) = some 2 := by kernel_rfl
set_option maxHeartbeats 4000000 in
set_option maxRecDepth 100000 in
theorem Value_plain (t : Tm) (hpl : plainT t) (hf : fineT t) (w : World) (cs : List Value) (hK : kTm.K w t cs) (sig : List Sg) (AS : Option Addr) (cS : Nat) (hlS : sig.length ≤ cS) (hCS : kSg.C w AS sig.length sig)
    (tb : List Tb) (AT : Option Addr) (cT : Nat) (mo : Int) (s : Int) (hs : checkS sig t = .ok s) (R : Option Vl) (hR : ∀ i, R ≠ some (.obj i))
    (H : ∀ (W : World) (cs' : List Value) (g : Nat), Below w.heap.size w W → kTm.K W t cs' → W.heap[g]? = some (.cells #[.slice AS sig.length cS, .slice AT tb.length cT, .int .i64 mo, .int .i64 (objsOf mo), .slice none 0 0, .slice none 0 0] 56 (0, 0)) → Calls Try.prog 12 #[.pointer (some ⟨g, 0, none⟩), .agg cs'.toArray] W (GivesVl W R)) :
    Calls Try.prog 6 #[.slice AS sig.length cS, .agg #[.slice AT tb.length cT, .int .i64 mo], .agg cs.toArray] w (GivesAns w R) := by
  have HH := Aside0.mk H
  have hK0 := hK
  obtain ⟨A4, c4, A5, c5, A6, c6, rfl, _, _, _, _, _, _⟩ := kTm_open hK
  have HK := Aside0.mk hK0
  have HC := Aside0.mk (fun (W : World) (cs : List Value) (hK : kTm.K W t cs) (hb : Below w.heap.size w W) => Check_calls t hpl hf W cs hK sig AS cS hlS (Kd.C_below hCS hb))
  have HA := Aside0.mk (fun (W : World) (cs : List Value) (hK : kTm.K W t cs) => asks_plain (depthT t) t (objsOf mo) W cs (Nat.le_refl _) hpl hK)
  have HS := Aside0.mk hs
  have HR := Aside0.mk hR
  have hmf : ∀ (fn : Fn) (first cap : Array Value) (w : World), (Instr.makeFunc fn first cap).run Try.prog w = .ok (.func fn first cap) w := fun _ _ _ _ => rfl
  have hm1 : ∀ v W, (Go.method 282 79 v "avow/model.text").run Try.prog W = .ok (88, v) W := fun v W => by kernel_rfl
  have hm2 : ∀ v W, (Go.method 282 86 v "avow/model.text").run Try.prog W = .ok (91, v) W := fun v W => by kernel_rfl
  have he1 : ∀ args W, (callFunc 88 args).run Try.prog W = .ok (.enter 88 args) W := fun args W => enters_ Try.func88 (by kernel_rfl) rfl args W
  have he2 : ∀ args W, (callFunc 91 args).run Try.prog W = .ok (.enter 91 args) W := fun args W => enters_ Try.func91 (by kernel_rfl) rfl args W
  clear H hK hK0 hpl hf hlS hCS hs hR
  go_enter_defers Try.func6, Try.ntmps6
  go_wp2_with (first
    | ((with_reducible refine gate_dst (N := 4) rfl ?_); refine box_event rfl (N := 4) rfl (cs := #[.slice AT tb.length cT, .int .i64 mo]) (t := 46) ?hr ?_; (case hr => first | (go_simp; done) | (go_simp; rfl)); intro g4 hg4 w4 hbox4 hb4; have HG4 := Aside0.mk hg4; have HX4 := Aside0.mk hbox4; clear hg4 hbox4)
    | ((with_reducible refine gate_dst (N := 5) rfl ?_); refine box_event rfl (N := 5) rfl (cs := #[.int .i64 t.f0, .string t.f1, .int .i64 t.f2, .string t.f3, .slice A4 t.f4.length c4, .slice A5 t.f5.length c5, .slice A6 t.f6.length c6]) (t := 40) ?hr ?_; (case hr => first | (go_simp; done) | (go_simp; rfl)); intro g5 hg5 w5 hbox5 hb5; have HG5 := Aside0.mk hg5; have HX5 := Aside0.mk hbox5; clear hg5 hbox5)
    | ((with_reducible refine gate_dst (N := 13) rfl ?_); (obtain ⟨g6, hg6⟩ : ∃ g6, g6 = w5.heap.size := ⟨_, rfl⟩); (obtain ⟨g7, hg7⟩ : ∃ g7, g7 = w5.heap.size + 1 := ⟨_, rfl⟩); rw [← hg7]; rw [← hg6]; (obtain ⟨w6, hw6⟩ : ∃ w6, w6 = w5.alloc (.cells #[.string ⟨#[]⟩] 9) := ⟨_, rfl⟩); (obtain ⟨w7, hw7⟩ : ∃ w7, w7 = w6.alloc (.cells #[.int .i64 0] 41) := ⟨_, rfl⟩); rw [← hw6]; rw [← hw7]; (have hb6 : Below w5.heap.size w5 w6 := (by rw [hw6]; exact (Below.refl _ _).alloc (Nat.le_refl _) _)); (have hb7 : Below w6.heap.size w6 w7 := (by rw [hw7]; exact (Below.refl _ _).alloc (Nat.le_refl _) _)); (have HX6 := Aside0.mk (show w6.heap[g6]? = some (.cells #[.string ⟨#[]⟩] 9 (0, 0)) from (by rw [hw6, hg6]; exact blk_new _ _))); (have HX7 := Aside0.mk (show w7.heap[g7]? = some (.cells #[.int .i64 0] 41 (0, 0)) from (by rw [hw7, hg7, show w5.heap.size + 1 = w6.heap.size from (by rw [hw6]; simp)]; exact blk_new _ _))); have HG6 := Aside0.mk hg6; have HG7 := Aside0.mk hg7; clear hw6 hw7 hg6 hg7; have HX57 := Aside0.mk (blk_below (blk_below HX5.out hb6) hb7); have HB7 := Aside0.mk (below_step (below_step (below_step hb4 hb5) hb6) hb7); have HX47 := Aside0.mk (blk_below (blk_below (blk_below HX4.out hb5) hb6) hb7); have HX67 := Aside0.mk (blk_below HX6.out hb7); have hsz := And.intro hb4.size (And.intro hb5.size (And.intro hb6.size hb7.size)); have HSZ := Aside0.mk hsz; clear hb4 hb5 hb6 hb7 hsz)
    | ((with_reducible refine gate_dst (N := 13) rfl ?_); refine wpList_load_row rfl 40 _ rfl g5 rfl 40 #[.int .i64 t.f0, .string t.f1, .int .i64 t.f2, .string t.f3, .slice A4 t.f4.length c4, .slice A5 t.f5.length c5, .slice A6 t.f6.length c6] (0, 0) _ HX57.out Try.underlying40 rfl size_Tm ?_))
  refine (HC.out w7 _ (kTm.K_below HB7.out HK.out) HB7.out).mono ?_
  rw [HS.out]
  rintro e w8 ⟨hb8, rfl⟩
  have HX58 := Aside0.mk (blk_below HX57.out hb8)
  have HX48 := Aside0.mk (blk_below HX47.out hb8)
  have HX68 := Aside0.mk (blk_below HX67.out hb8)
  have HX78 := Aside0.mk (blk_below HX7.out hb8)
  have HB8 := Aside0.mk (below_step HB7.out hb8)
  have c41 : w8.cell? ⟨g4, 1, none⟩ = some (.int .i64 mo) := (blk_cell HX48.out 1).trans rfl
  clear hb8
  obtain ⟨m0, hm0⟩ : ∃ m0, m0 = (if mo < 0 then 0 else mo) := ⟨_, rfl⟩
  obtain ⟨m1, hm1'⟩ : ∃ m1, m1 = (if 1000 < m0 then 1000 else m0) := ⟨_, rfl⟩
  have HO := Aside0.mk (show m1 = objsOf mo from by rw [hm1', hm0]; unfold objsOf; split <;> split <;> omega)
  have HM0 := Aside0.mk hm0
  have HM1 := Aside0.mk hm1'
  clear hm0 hm1'
  go_wp2_with (first
    | ((with_reducible refine gate_dst (N := 21) rfl ?_); refine wpList_load_row rfl 46 _ rfl g4 rfl 46 #[.slice AT tb.length cT, .int .i64 mo] (0, 0) _ HX48.out Try.underlying46 rfl size_Md ?_)
    | ((with_reducible refine gate_dst (N := 24) rfl ?_); refine Kd.event_run (w1 := w8) (v := .int .i64 m0) rfl ?hr ?_; (case hr => (go_simp; rw [HM0.out])))
    | ((with_reducible refine gate_dst (N := 25) rfl ?_); refine Kd.event_run (w1 := w8) (v := .int .i64 m1) rfl ?hr ?_; (case hr => (go_simp; rw [HM1.out]))))
  rw [HO.out]
  obtain ⟨w10, hw10⟩ : ∃ w10, w10 = w8.alloc (.cells #[.slice AS sig.length cS, .slice AT tb.length cT, .int .i64 mo, .int .i64 (objsOf mo), .slice none 0 0, .slice none 0 0] 56) := ⟨_, rfl⟩
  obtain ⟨g10, hg10⟩ : ∃ g10, g10 = w8.heap.size := ⟨_, rfl⟩
  rw [← hw10, ← hg10]
  have hb10 : Below w8.heap.size w8 w10 := by rw [hw10]; exact (Below.refl _ _).alloc (Nat.le_refl _) _
  have HX10 := Aside0.mk (show w10.heap[g10]? = some (.cells #[.slice AS sig.length cS, .slice AT tb.length cT, .int .i64 mo, .int .i64 (objsOf mo), .slice none 0 0, .slice none 0 0] 56 (0, 0)) from by rw [hw10, hg10]; exact blk_new _ _)
  have HX510 := Aside0.mk (blk_below HX58.out hb10)
  have HX610 := Aside0.mk (blk_below HX68.out hb10)
  have HX710 := Aside0.mk (blk_below HX78.out hb10)
  have HB10 := Aside0.mk (below_step HB8.out hb10)
  obtain ⟨ob, hob⟩ : ∃ ob, ob = objsOf mo := ⟨_, rfl⟩
  rw [← hob] at HX10 HA HH ⊢
  clear hw10 hg10 hb10 c41 hob HO HM0 HM1
  have y0 : w10.cell? ⟨g5, 0, none⟩ = some (.int .i64 t.f0) := (blk_cell HX510.out 0).trans rfl
  have y1 : w10.cell? ⟨g5, 1, none⟩ = some (.string t.f1) := (blk_cell HX510.out 1).trans rfl
  have y2 : w10.cell? ⟨g5, 2, none⟩ = some (.int .i64 t.f2) := (blk_cell HX510.out 2).trans rfl
  have y3 : w10.cell? ⟨g5, 3, none⟩ = some (.string t.f3) := (blk_cell HX510.out 3).trans rfl
  have y4 : w10.cell? ⟨g5, 4, none⟩ = some (.slice A4 t.f4.length c4) := (blk_cell HX510.out 4).trans rfl
  have y5 : w10.cell? ⟨g5, 5, none⟩ = some (.slice A5 t.f5.length c5) := (blk_cell HX510.out 5).trans rfl
  have y6 : w10.cell? ⟨g5, 6, none⟩ = some (.slice A6 t.f6.length c6) := (blk_cell HX510.out 6).trans rfl
  have y7 : w10.cell? ⟨g10, 3, none⟩ = some (.int .i64 ob) := (blk_cell HX10.out 3).trans rfl
  have HC0 := Aside0.mk (And.intro y0 (And.intro y1 (And.intro y2 (And.intro y3 (And.intro y4 (And.intro y5 (And.intro y6 y7)))))))
  clear y0 y1 y2 y3 y4 y5 y6 y7
  have HCA := Aside0.mk (HA.out w10.drew _ (kTm.K_below HB10.out.drew HK.out))
  go_region_held3 (fun w' => w'.cell? ⟨g5, 0, none⟩ = some (.int .i64 t.f0) ∧ w'.cell? ⟨g5, 1, none⟩ = some (.string t.f1) ∧ w'.cell? ⟨g5, 2, none⟩ = some (.int .i64 t.f2) ∧ w'.cell? ⟨g5, 3, none⟩ = some (.string t.f3) ∧ w'.cell? ⟨g5, 4, none⟩ = some (.slice A4 t.f4.length c4) ∧ w'.cell? ⟨g5, 5, none⟩ = some (.slice A5 t.f5.length c5) ∧ w'.cell? ⟨g5, 6, none⟩ = some (.slice A6 t.f6.length c6) ∧ w'.cell? ⟨g10, 3, none⟩ = some (.int .i64 ob) ∧ Below w10.heap.size w10 w')
    (first | exact keep8 HC0.out (Below.refl _ _).drew | exact hSn | assumption)
    (first | (go_at_call 10; refine HCA.out.mono ?_; rintro e w11 ⟨rfl, hb11⟩; have hSn := keep8 HC0.out ((Below.refl _ _).drew.trans hb11)))
  have hb := hSn.2.2.2.2.2.2.2.2
  have HB11 := Aside0.mk (below_step HB10.out hb)
  have HX511 := Aside0.mk (blk_below HX510.out hb)
  have HX611 := Aside0.mk (blk_below HX610.out hb)
  have HX711 := Aside0.mk (blk_below HX710.out hb)
  have HX1011 := Aside0.mk (blk_below HX10.out hb)
  clear hSn hb hb11
  go_wp2_with ((with_reducible refine gate_dst (N := 36) rfl ?_); refine wpList_load_row rfl 40 _ rfl g5 rfl 40 #[.int .i64 t.f0, .string t.f1, .int .i64 t.f2, .string t.f3, .slice A4 t.f4.length c4, .slice A5 t.f5.length c5, .slice A6 t.f6.length c6] (0, 0) _ HX511.out Try.underlying40 rfl size_Tm ?_)
  refine (HH.out w11 _ g10 HB11.out (kTm.K_below HB11.out HK.out) HX1011.out).mono ?_
  have HNE := Aside0.mk (show g6 ≠ g7 ∧ w.heap.size ≤ g6 ∧ w.heap.size ≤ g7 from by have := HG6.out; have := HG7.out; have := HSZ.out; omega)
  cases R with
  | none =>
    rintro e w12 ⟨hb12, rfl⟩
    have h6 := blk_below HX611.out hb12
    have h7 := blk_below HX711.out hb12
    go_wp2_with fail
    refine leaves_cons (f := 11) (args := #[.pointer (some ⟨g6, 0, none⟩), .pointer (some ⟨g7, 0, none⟩)]) (by simp) (by simp [go_sem]) ?_
    refine (catch_panic g6 g7 _ _ w12 h6 h7 HNE.out.1).mono ?_
    rintro e u' w13 ⟨rfl, rfl, k6, k7, kb⟩
    exact ⟨_, results_two_ones rfl _ _ g6 g7 9 41 _ _ _ _ rfl k6 Try.underlying9 rfl rfl k7 Try.underlying41 rfl, rfl, kb _ _ HNE.out.2.1 HNE.out.2.2 (below_step HB11.out hb12)⟩
  | some u0 =>
    rintro e w12 ⟨hb12, v, rfl, hv⟩
    cases u0 with
    | obj i => exact absurd rfl (HR.out i)
    | num z =>
      obtain ⟨A, c, y, rfl, hx, hyl⟩ := hv
      have HXA := Aside0.mk hx
      have HG6 := Aside0.mk (blk_below HX611.out hb12)
      have HG7 := Aside0.mk (blk_below HX711.out hb12)
      have HB12 := Aside0.mk (below_step HB11.out hb12)
      clear hb12 hx
      go_wp2_with fail
      refine (numtext_calls A c y z w12 HXA.out hyl).mono ?_
      rintro e1 w13 ⟨rfl, hb13⟩
      rw [show decS z = txtS (.num z) from rfl]
      obtain ⟨u, hu⟩ : ∃ u, u = Vl.num z := ⟨_, rfl⟩
      rw [← hu]
      have hx6 := blk_below HG6.out hb13
      have hx7 := blk_below HG7.out hb13
      have HB13 := Aside0.mk (below_step HB12.out hb13)
      have HU := Aside0.mk hu
      clear hb13 hu
      go_wp2_with (first
        | ((with_reducible refine gate_store (p := 6) rfl ?_); refine store_one_event rfl rfl 9 _ _ rfl g6 (.string (txtS u)) rfl rfl rfl rfl 9 _ hx6 one_string ?_; intro w14 hx64 hw14; have hx74 := (hw14.other _ HNE.out.1.symm).trans hx7)
        | ((with_reducible refine gate_store (p := 7) rfl ?_); refine store_one_event rfl rfl 41 _ _ rfl g7 (.int .i64 0) rfl rfl rfl rfl 41 _ hx74 one_errno2 ?_; intro w15 hx75 hw15; have hx65 := (hw15.other _ HNE.out.1).trans hx64))
      refine leaves_cons (f := 11) (args := #[.pointer (some ⟨g6, 0, none⟩), .pointer (some ⟨g7, 0, none⟩)]) (by simp) (by simp [go_sem]) ?_
      refine (catch_idle ⟨g6, 0, none⟩ ⟨g7, 0, none⟩ w15).mono ?_
      rintro e u' w16 ⟨rfl, rfl, rfl⟩
      exact ⟨_, results_two_ones rfl _ _ g6 g7 9 41 _ _ _ _ rfl hx65 Try.underlying9 rfl rfl hx75 Try.underlying41 rfl, by rw [HU.out], hw15.below _ _ HNE.out.2.2 (hw14.below _ _ HNE.out.2.1 HB13.out)⟩
    | tru b =>
      obtain rfl : v = .iface 86 (.bool b) := hv
      have HG6 := Aside0.mk (blk_below HX611.out hb12)
      have HG7 := Aside0.mk (blk_below HX711.out hb12)
      have HB12 := Aside0.mk (below_step HB11.out hb12)
      clear hb12
      go_wp2_with fail
      refine (trutext_calls b w12).mono ?_
      rintro e1 w13 ⟨rfl, hb13⟩
      rw [show truthS b = txtS (.tru b) from rfl]
      obtain ⟨u, hu⟩ : ∃ u, u = Vl.tru b := ⟨_, rfl⟩
      rw [← hu]
      have hx6 := blk_below HG6.out hb13
      have hx7 := blk_below HG7.out hb13
      have HB13 := Aside0.mk (below_step HB12.out hb13)
      have HU := Aside0.mk hu
      clear hb13 hu
      go_wp2_with (first
        | ((with_reducible refine gate_store (p := 6) rfl ?_); refine store_one_event rfl rfl 9 _ _ rfl g6 (.string (txtS u)) rfl rfl rfl rfl 9 _ hx6 one_string ?_; intro w14 hx64 hw14; have hx74 := (hw14.other _ HNE.out.1.symm).trans hx7)
        | ((with_reducible refine gate_store (p := 7) rfl ?_); refine store_one_event rfl rfl 41 _ _ rfl g7 (.int .i64 0) rfl rfl rfl rfl 41 _ hx74 one_errno2 ?_; intro w15 hx75 hw15; have hx65 := (hw15.other _ HNE.out.1).trans hx64))
      refine leaves_cons (f := 11) (args := #[.pointer (some ⟨g6, 0, none⟩), .pointer (some ⟨g7, 0, none⟩)]) (by simp) (by simp [go_sem]) ?_
      refine (catch_idle ⟨g6, 0, none⟩ ⟨g7, 0, none⟩ w15).mono ?_
      rintro e u' w16 ⟨rfl, rfl, rfl⟩
      exact ⟨_, results_two_ones rfl _ _ g6 g7 9 41 _ _ _ _ rfl hx65 Try.underlying9 rfl rfl hx75 Try.underlying41 rfl, by rw [HU.out], hw15.below _ _ HNE.out.2.2 (hw14.below _ _ HNE.out.2.1 HB13.out)⟩
end Go.Proofs.Ytiokmnabkccpcaa.Kit
