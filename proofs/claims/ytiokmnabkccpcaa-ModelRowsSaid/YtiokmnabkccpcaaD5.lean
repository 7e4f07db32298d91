/- The model: value, formula, bool, truths (the operators that name no variable and reckon no sum). -/
import Derived.Test.YtiokmnabkccpcaaD4
set_option linter.unusedVariables false
set_option linter.unusedSimpArgs false
namespace Go.Proofs.Ytiokmnabkccpcaa.Kit
open Go.RowKit Go.Proofs.YtiokmnabkccpcaaW.PrintWords Go.Proofs.YtiokmnabkccpcaaW.PrintLast Go.Proofs.YtiokmnabkccpcaaW.PrintMore

theorem parse_len' {s : ByteArray} {x : NI} (ok : NOk x) (hv : NV x = (parseS s).getD 0) : x.f0.length ≤ s.size + 1 := by
  cases hp : parseS s with
  | some z => rw [hp] at hv; exact parse_len hp ok hv
  | none =>
    rw [hp] at hv
    rcases Nat.eq_zero_or_pos x.f0.length with h | h
    · omega
    · have hne : x.f0 ≠ [] := by intro e; rw [e] at h; simp at h
      have := norm_pos ok.1 hne
      unfold NV at hv
      have h0 : (none : Option Int).getD 0 = 0 := rfl
      rw [h0] at hv
      split at hv <;> omega

set_option maxHeartbeats 4000000 in
set_option maxRecDepth 100000 in
theorem value_o1 (name : ByteArray) (sort : Int) (n : ByteArray) (l : List Tm) (vs : List Bd) (ps : List Tm) (w : World) (g : Nat) (A4 : Option Addr) (c4 : Nat) (A5 : Option Addr) (c5 : Nat) (A6 : Option Addr) (c6 : Nat) (hn : n.size ≤ bulkM) :
    Calls Try.prog 12 #[.pointer (some ⟨g, 0, none⟩), .agg #[.int .i64 1, .string name, .int .i64 sort, .string n, .slice A4 l.length c4, .slice A5 vs.length c5, .slice A6 ps.length c6]] w (GivesVl w (some (.num ((parseS n).getD 0)))) := by
  have hn2 : n.size ≤ 1048576 := hn
  clear hn
  go_enter Try.func12, Try.ntmps12
  go_wp2_with ((with_reducible refine gate_dst (N := 3) rfl ?_); refine box_event rfl (N := 3) rfl (cs := #[.int .i64 1, .string name, .int .i64 sort, .string n, .slice A4 l.length c4, .slice A5 vs.length c5, .slice A6 ps.length c6]) (t := 40) ?hr ?_; (case hr => first | (go_simp; done) | (go_simp; rfl)); intro g3 hg3 w3 hbox3 hb3; have HG3 := Aside0.mk hg3; have HX3 := Aside0.mk hbox3; clear hg3 hbox3; have c30 : w3.cell? ⟨g3, 0, none⟩ = some (.int .i64 1) := (blk_cell HX3.out 0).trans rfl; have c33 : w3.cell? ⟨g3, 3, none⟩ = some (.string n) := (blk_cell HX3.out 3).trans rfl)
  refine (parse_calls n w3 (by omega)).mono ?_
  rintro e w4 ⟨A, c, x, rfl, hx, hb4⟩
  obtain ⟨q, hq⟩ : ∃ q, q = (parseS n).isSome := ⟨_, rfl⟩
  rw [← hq]
  have HX := Aside0.mk hx
  have HB4 := Aside0.mk (below_step hb3 hb4)
  clear hx hb3 hb4 c30 c33 hq
  unfold numV
  go_wp2_with (first | ((with_reducible refine gate_dst (N := 22) rfl ?_); (obtain ⟨w5, hw5⟩ : ∃ w5, w5 = w4.alloc (.cells #[.slice A x.f0.length c, .bool x.f1] 75) := ⟨_, rfl⟩); (obtain ⟨g5, hg5⟩ : ∃ g5, g5 = w4.heap.size := ⟨_, rfl⟩); rw [← hw5]; rw [← hg5]; (have hb5 : Below w4.heap.size w4 w5 := (by rw [hw5]; exact (Below.refl _ _).alloc (Nat.le_refl _) _)); (have HX5 := Aside0.mk (show w5.heap[g5]? = some (.cells #[.slice A x.f0.length c, .bool x.f1] 75 (0, 0)) from (by rw [hw5, hg5]; exact blk_new _ _))); have HG5 := Aside0.mk hg5; clear hw5 hg5) | ((with_reducible refine gate_dst (N := 22) rfl ?_); refine wpList_load_row rfl 75 _ rfl g5 rfl 75 #[.slice A x.f0.length c, .bool x.f1] (0, 0) _ HX5.out Try.underlying75 rfl size_NI ?_))
  go_ret
  refine ⟨below_step HB4.out hb5, _, rfl, A, c, x, rfl, HX.out.below hb5, ?_⟩
  have := parse_len' HX.out.ok HX.out.val
  omega
set_option maxHeartbeats 4000000 in
set_option maxRecDepth 100000 in
theorem value_o17 (t : Tm) (hop : t.f0 = 17) (w : World) (cs : List Value) (hK : kTm.K w t cs) (g : Nat) (R : Option Vl)
    (H : ∀ (W : World), Below w.heap.size w W → Calls Try.prog 25 #[.pointer (some ⟨g, 0, none⟩), .agg cs.toArray] W (GivesVl W R)) :
    Calls Try.prog 12 #[.pointer (some ⟨g, 0, none⟩), .agg cs.toArray] w (GivesVl w R) := by
  have HH := Aside0.mk H
  obtain ⟨A4, c4, A5, c5, A6, c6, rfl, _, _, _, _, _, _⟩ := kTm_open hK
  clear H hK
  rw [hop] at HH ⊢
  clear hop
  go_enter Try.func12, Try.ntmps12
  go_wp2_with (first
    | ((with_reducible refine gate_dst (N := 3) rfl ?_); refine box_event rfl (N := 3) rfl (cs := #[.int .i64 17, .string t.f1, .int .i64 t.f2, .string t.f3, .slice A4 t.f4.length c4, .slice A5 t.f5.length c5, .slice A6 t.f6.length c6]) (t := 40) ?hr ?_; (case hr => first | (go_simp; done) | (go_simp; rfl)); intro g3 hg3 w3 hbox3 hb3; have HG3 := Aside0.mk hg3; have HX3 := Aside0.mk hbox3; clear hg3 hbox3; have c30 : w3.cell? ⟨g3, 0, none⟩ = some (.int .i64 17) := (blk_cell HX3.out 0).trans rfl)
    | ((with_reducible refine gate_dst (N := 106) rfl ?_); refine wpList_load_row rfl 40 _ rfl g3 rfl 40 #[.int .i64 17, .string t.f1, .int .i64 t.f2, .string t.f3, .slice A4 t.f4.length c4, .slice A5 t.f5.length c5, .slice A6 t.f6.length c6] (0, 0) _ HX3.out Try.underlying40 rfl size_Tm ?_))
  refine (HH.out w3 hb3).mono ?_
  have HB3 := Aside0.mk hb3
  clear hb3 c30
  cases R with
  | none =>
    rintro e w5 ⟨hb5, rfl⟩
    have HB5 := Aside0.mk (below_step HB3.out hb5)
    clear hb5
    go_wp2_with fail
    exact ⟨rfl, HB5.out, rfl⟩
  | some u =>
    rintro e w5 ⟨hb5, v, rfl, hv⟩
    have HB5 := Aside0.mk (below_step HB3.out hb5)
    have HV := Aside0.mk hv
    clear hb5 hv
    go_wp2
    go_ret
    exact ⟨HB5.out, v, rfl, HV.out⟩
end Go.Proofs.Ytiokmnabkccpcaa.Kit
