/- A term's depth: term.deeper, walked. -/
import Derived.Test.YtiokmnabkccpcaaB1
set_option linter.unusedVariables false
set_option linter.unusedSimpArgs false
namespace Go.Proofs.Ytiokmnabkccpcaa.Kit
open Go.RowKit Go.Proofs.YtiokmnabkccpcaaW.PrintWords Go.Proofs.YtiokmnabkccpcaaW.PrintLast Go.Proofs.YtiokmnabkccpcaaW.PrintMore

/-- What every function that only reads and makes new memory leaves behind. -/
abbrev Gives (w : World) (v : Value) : Ending → World → Prop := fun e w' => e = .returned v ∧ Below w.heap.size w w'

mutual
def depthT : Tm → Nat
  | ⟨_, _, _, _, l, _, _⟩ => depthL l + 1
def depthL : List Tm → Nat
  | [] => 0
  | x :: r => max (depthT x) (depthL r)
end
theorem depthT_eq (t : Tm) : depthT t = depthL t.f4 + 1 := by cases t; rw [depthT]
theorem depthL_mem {l : List Tm} {x : Tm} (h : x ∈ l) : depthT x ≤ depthL l := by
  induction l with
  | nil => cases h
  | cons y r ih =>
    rw [depthL]
    cases h with
    | head => omega
    | tail _ h => have := ih h; omega
theorem depthL_any (l : List Tm) (m : Int) (hm : 0 ≤ m) : l.any (fun x => decide (m < depthT x)) = decide (m < depthL l) := by
  induction l with
  | nil => rw [depthL]; simp; omega
  | cons y r ih =>
    rw [List.any_cons, ih, depthL, Bool.eq_iff_iff]
    simp
    omega

set_option maxHeartbeats 1000000 in
theorem deeper1_calls (x : Tm) (most : Int) (hm : -9223372036854775807 ≤ most) (hm2 : most ≤ 9223372036854775807) (b : Bool) (W0 : World)
    (H : ∀ (W : World) (cs : List Value), Below W0.heap.size W0 W → kTm.K W x cs → Calls Try.prog 13 #[.agg cs.toArray, .int .i64 (most - 1)] W (Gives W (.bool b)))
    (W : World) (cs : List Value) (hW : Below W0.heap.size W0 W) (hK : kTm.K W x cs) (B : Nat) (hB : W.cell? ⟨B, 0, none⟩ = some (.int .i64 most)) :
    Calls Try.prog 29 #[.agg cs.toArray, .pointer (some ⟨B, 0, none⟩)] W (Gives W (.bool b)) := by
  have HH := Aside0.mk H
  have HK := Aside0.mk hK
  have HW := Aside0.mk hW
  have HN := Aside0.mk (show (Try.prog.info? 40).map (·.size) = some cs.toArray.size from by rw [List.size_toArray, kTm.K_len hK]; exact size_Tm)
  clear H hK hW
  go_enter Try.func29, Try.ntmps29
  go_wp2_with (first | ((with_reducible refine gate_dst (N := 2) rfl ?_); refine box_event rfl (N := 2) rfl (cs := cs.toArray) (t := 40) ?hr ?_; (case hr => first | (go_simp; done) | (go_simp; rfl)); intro g2 hg2 w2 hbox2 hb2; have HG2 := Aside0.mk hg2; have HX2 := Aside0.mk hbox2; clear hg2 hbox2; have hB2 := (hb2.cell (World.block_lt_of_cell? W _ hB)).trans hB) | ((with_reducible refine gate_dst (N := 4) rfl ?_); refine wpList_load_row rfl 40 _ rfl g2 rfl 40 cs.toArray (0, 0) _ HX2.out Try.underlying40 rfl HN.out ?_))
  refine (HH.out w2 cs (below_step HW.out hb2) (kTm.K_below hb2 HK.out)).mono ?_
  rintro e w' ⟨rfl, hb⟩
  go_wp2
  go_ret
  exact ⟨rfl, below_step hb2 hb⟩

set_option maxHeartbeats 1000000 in
theorem deeper_calls (n : Nat) : ∀ (t : Tm) (most : Int) (w : World) (cs : List Value), depthT t ≤ n → -9223372036854775807 ≤ most → most ≤ 9223372036854775807 → kTm.K w t cs →
    Calls Try.prog 13 #[.agg cs.toArray, .int .i64 most] w (Gives w (.bool (decide (most < depthT t)))) := by
  induction n with
  | zero => intro t most w cs h; have := depthT_eq t; omega
  | succ n ih =>
    intro t most w cs hd h0 h1 hK
    have hdt := depthT_eq t
    obtain ⟨A4, c4, A5, c5, A6, c6, rfl, l4, g4, l5, g5, l6, g6⟩ := kTm_open hK
    have HG4 := Aside0.mk g4
    have HD := Aside0.mk hdt
    have hmf : ∀ (fn : Fn) (first cap : Array Value) (w : World), (Instr.makeFunc fn first cap).run Try.prog w = .ok (.func fn first cap) w := fun _ _ _ _ => rfl
    clear g4 g5 g6 hK hdt
    by_cases hlt : most < 1
    · have hlt' : decide (most < 1) = true := decide_eq_true hlt
      go_enter Try.func13, Try.ntmps13
      go_wp2_with (first | ((with_reducible refine gate_dst (N := 2) rfl ?_); refine box_event rfl (N := 2) rfl (cs := #[.int .i64 t.f0, .string t.f1, .int .i64 t.f2, .string t.f3, .slice A4 t.f4.length c4, .slice A5 t.f5.length c5, .slice A6 t.f6.length c6]) (t := 40) ?hr ?_; (case hr => first | (go_simp; done) | (go_simp; rfl)); intro g2 hg2 w2 hbox2 hb2; have HG2 := Aside0.mk hg2; have HX2 := Aside0.mk hbox2; clear hg2 hbox2) | ((with_reducible refine gate_dst (N := 3) rfl ?_); refine box_event rfl (N := 3) rfl (cs := #[.int .i64 most]) (t := 3) ?hr ?_; (case hr => first | (go_simp; done) | (go_simp; rfl)); intro g3 hg3 w3 hbox3 hb3; have HG3 := Aside0.mk hg3; have HX3 := Aside0.mk hbox3; clear hg3 hbox3; have c30 : w3.cell? ⟨g3, 0, none⟩ = some (.int .i64 most) := (blk_cell HX3.out 0).trans rfl))
      go_ret
      exact ⟨by rw [decide_eq_true (show most < (depthT t : Int) by have := HD.out; omega)]; rfl, below_step hb2 hb3⟩
    · have hlt' : decide (most < 1) = false := decide_eq_false hlt
      go_enter Try.func13, Try.ntmps13
      go_wp2_with (first | ((with_reducible refine gate_dst (N := 2) rfl ?_); refine box_event rfl (N := 2) rfl (cs := #[.int .i64 t.f0, .string t.f1, .int .i64 t.f2, .string t.f3, .slice A4 t.f4.length c4, .slice A5 t.f5.length c5, .slice A6 t.f6.length c6]) (t := 40) ?hr ?_; (case hr => first | (go_simp; done) | (go_simp; rfl)); intro g2 hg2 w2 hbox2 hb2; have HG2 := Aside0.mk hg2; have HX2 := Aside0.mk hbox2; clear hg2 hbox2) | ((with_reducible refine gate_dst (N := 3) rfl ?_); refine box_event rfl (N := 3) rfl (cs := #[.int .i64 most]) (t := 3) ?hr ?_; (case hr => first | (go_simp; done) | (go_simp; rfl)); intro g3 hg3 w3 hbox3 hb3; have HG3 := Aside0.mk hg3; have HX3 := Aside0.mk hbox3; clear hg3 hbox3; have c30 : w3.cell? ⟨g3, 0, none⟩ = some (.int .i64 most) := (blk_cell HX3.out 0).trans rfl; have c24 : w3.cell? ⟨g2, 4, none⟩ = some (.slice A4 t.f4.length c4) := (hb3.cell (blk_lt HX2.out)).trans ((blk_cell HX2.out 4).trans rfl)))
      have hb := below_step hb2 hb3
      refine (containsFunc_Tm t.f4 A4 c4 29 #[.pointer (some ⟨g3, 0, none⟩)] (fun args w => enters_ Try.func29 (by kernel_rfl) rfl args w) (fun x => decide (most - 1 < depthT x)) w3 (Kd.C_below HG4.out hb) ?_ HG4.out.2.1).mono ?_
      · intro j hj z W cs hW hK
        have hmem : t.f4.getD j z ∈ t.f4 := by rw [List.getD_eq_getElem?_getD, List.getElem?_eq_getElem hj]; exact List.getElem_mem hj
        refine (deeper1_calls (t.f4.getD j z) most h0 h1 _ W (fun W' cs' hW' hK' => ih _ _ W' cs' ?_ (by omega) (by omega) hK') W cs (Below.refl _ _) hK g3 ((hW.cell (World.block_lt_of_cell? w3 _ c30)).trans c30)).mono ?_
        · have := depthL_mem hmem; have := HD.out; omega
        · rintro e w' ⟨rfl, hb'⟩
          exact ⟨rfl, below_step hW hb'⟩
      · rintro e w' ⟨rfl, hb'⟩
        go_wp2
        go_ret
        exact ⟨by rw [depthL_any _ _ (by omega), show (decide (most < (depthT t : Int))) = decide (most - 1 < (depthL t.f4 : Int)) from by rw [HD.out, decide_eq_decide]; omega]; rfl, below_step hb hb'⟩
end Go.Proofs.Ytiokmnabkccpcaa.Kit
