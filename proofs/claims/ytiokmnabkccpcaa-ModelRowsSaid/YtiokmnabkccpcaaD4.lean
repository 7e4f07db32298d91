/- The model: int (UNDER WAY). -/
import Derived.Test.YtiokmnabkccpcaaD3
set_option linter.unusedVariables false
set_option linter.unusedSimpArgs false
namespace Go.Proofs.Ytiokmnabkccpcaa.Kit
open Go.RowKit Go.Proofs.YtiokmnabkccpcaaW.PrintWords Go.Proofs.YtiokmnabkccpcaaW.PrintLast Go.Proofs.YtiokmnabkccpcaaW.PrintMore

theorem run_assert_is {P : Program} (x a : TypeId) (v : Value) (fs : Array Field) (W : World) (hu : P.underlying a = some (.struct fs)) :
    (Instr.typeAssert (.iface a v) x a false).run P W = .ok v W := by
  unfold Instr.typeAssert
  simp [Sem.run_bind, run_underlying hu W]
theorem C_wrote {w w1 : World} {A : Option Addr} {xs : List Int} {g : Nat} {a : Option Addr} {l c : Nat} {b : Bool} {t : TypeId} (h : (Kd.int .u32).C w A xs.length xs) (hg : w.heap[g]? = some (.cells #[.slice a l c, .bool b] t (0, 0))) (hw : Wrote g w w1) : (Kd.int .u32).C w1 A xs.length xs := by
  have hr := C_reads h
  refine Kd.C_of_reads (enc := Value.int .u32) (d := (0 : Int)) (h1 := fun _ => rfl) ⟨rfl, hr.2.1, fun hp => ?_⟩
  obtain ⟨ad, e, hc⟩ := hr.2.2 hp
  refine ⟨ad, e, fun j hj => ?_⟩
  have h1 := hc j hj
  rw [hw.cell ?_]
  · exact h1
  · intro hb
    have h2 : w.cell? (ad.add j) = _ := h1
    unfold World.cell? at h2
    rw [hb, hg] at h2
    simp only at h2
    split at h2 <;> try (simp at h2)
    all_goals (rcases hoff : (ad.add j).off with _ | _ | k <;> rw [hoff] at h2 <;> simp at h2)
def GivesInt (w : World) (r : Option Int) : Ending → World → Prop := fun e w' => Below w.heap.size w w' ∧ match r with
  | some z => ∃ A c x, e = .returned (numV A c x) ∧ NumAt w' A c x z ∧ x.f0.length ≤ 1073741824
  | none => e = .panicked [{ v := failV, recovered := false }]
set_option maxHeartbeats 4000000 in
set_option maxRecDepth 100000 in
theorem int_calls (t : Tm) (w : World) (cs : List Value) (hK : kTm.K w t cs) (g : Nat) (r : Option Int)
    (H : ∀ (W : World) (cs' : List Value), Below w.heap.size w W → kTm.K W t cs' → Calls Try.prog 12 #[.pointer (some ⟨g, 0, none⟩), .agg cs'.toArray] W (GivesVl W (r.map .num))) :
    Calls Try.prog 20 #[.pointer (some ⟨g, 0, none⟩), .agg cs.toArray] w (GivesInt w r) := by
  have HH := Aside0.mk H
  have hK0 := hK
  obtain ⟨A4, c4, A5, c5, A6, c6, rfl, _, _, _, _, _, _⟩ := kTm_open hK
  have HK := Aside0.mk hK0
  have hta : ∀ v W, (Instr.typeAssert (.iface 79 v) 61 79 false).run Try.prog W = .ok v W := fun v W => run_assert_is _ _ _ _ W Try.underlying79
  have hfl : ∀ (a b : Value) (W : World), (Instr.field 79 (.agg #[a, b]) 0).run Try.prog W = .ok (.agg #[a, b]) W := fun a b W => by kernel_rfl
  clear H hK hK0
  go_enter Try.func20, Try.ntmps20
  go_wp2_with (first
    | ((with_reducible refine gate_dst (N := 3) rfl ?_); refine box_event rfl (N := 3) rfl (cs := #[.int .i64 t.f0, .string t.f1, .int .i64 t.f2, .string t.f3, .slice A4 t.f4.length c4, .slice A5 t.f5.length c5, .slice A6 t.f6.length c6]) (t := 40) ?hr ?_; (case hr => first | (go_simp; done) | (go_simp; rfl)); intro g3 hg3 w3 hbox3 hb3; have HG3 := Aside0.mk hg3; have HX3 := Aside0.mk hbox3; clear hg3 hbox3)
    | ((with_reducible refine gate_dst (N := 4) rfl ?_); refine box_event rfl (N := 4) rfl (cs := #[.slice none 0 0, .bool false]) (t := 75) ?hr ?_; (case hr => first | (go_simp; done) | (go_simp; rfl)); intro g4 hg4 w4 hbox4 hb4; have HG4 := Aside0.mk hg4; have HX4 := Aside0.mk hbox4; clear hg4 hbox4; have HX34 := Aside0.mk (blk_below HX3.out hb4); have HB4 := Aside0.mk (below_step hb3 hb4); have HNB := Aside0.mk (show w.heap.size ≤ g4 from by have := HG4.out; have := hb3.size; omega); clear hb3 hb4)
    | ((with_reducible refine gate_dst (N := 6) rfl ?_); refine wpList_load_row rfl 40 _ rfl g3 rfl 40 #[.int .i64 t.f0, .string t.f1, .int .i64 t.f2, .string t.f3, .slice A4 t.f4.length c4, .slice A5 t.f5.length c5, .slice A6 t.f6.length c6] (0, 0) _ HX34.out Try.underlying40 rfl size_Tm ?_))
  refine (HH.out w4 _ HB4.out (kTm.K_below HB4.out HK.out)).mono ?_
  cases r with
  | none =>
    rintro e w5 ⟨hb5, rfl⟩
    have HB5 := Aside0.mk (below_step HB4.out hb5)
    clear hb5
    go_wp2_with fail
    exact ⟨rfl, HB5.out, rfl⟩
  | some z =>
    rintro e w5 ⟨hb5, v, rfl, A, c, x, rfl, hx, hxl⟩
    have HB5 := Aside0.mk (below_step HB4.out hb5)
    have HX5 := Aside0.mk (blk_below HX4.out hb5)
    have HXX := Aside0.mk hx
    have hlt : w.heap.size ≤ g4 := HNB.out
    clear hb5 hx
    unfold numV
    go_wp2_with ((with_reducible refine gate_store (p := 4) rfl ?_); refine store_row_event rfl rfl 75 _ _ rfl g4 #[.slice A x.f0.length c, .bool x.f1] rfl rfl 75 _ HX5.out size_NI rfl rfl ?_; intro w6 hx6 hw6; have HX6 := Aside0.mk hx6; have HW6 := Aside0.mk hw6; clear hx6 hw6)
    refine bodyPost_ret (results_cell_row rfl _ _ g4 75 _ (0, 0) _ rfl HX6.out Try.underlying75 rfl size_NI) rfl ?_
    have hfin := HW6.out.below _ _ hlt HB5.out
    exact ⟨hfin, A, c, x, rfl, ⟨HXX.out.len, C_wrote HXX.out.C HX5.out HW6.out, HXX.out.ok, HXX.out.val⟩, hxl⟩
end Go.Proofs.Ytiokmnabkccpcaa.Kit
