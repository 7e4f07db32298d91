/- The model: asks, where nothing is asked of all. -/
import Derived.Test.YtiokmnabkccpcaaBj
set_option linter.unusedVariables false
set_option linter.unusedSimpArgs false
namespace Go.Proofs.Ytiokmnabkccpcaa.Kit
open Go.RowKit Go.Proofs.YtiokmnabkccpcaaW.PrintWords Go.Proofs.YtiokmnabkccpcaaW.PrintLast Go.Proofs.YtiokmnabkccpcaaW.PrintMore
attribute [local go_sem] min2_int min_two max2_int max_two

set_option maxHeartbeats 1000000 in
theorem asks1_calls (x : Tm) (objs : Int) (b : Bool) (W0 : World)
    (H : ∀ (W : World) (cs : List Value), Below W0.heap.size W0 W → kTm.K W x cs → Calls Try.prog 10 #[.agg cs.toArray, .int .i64 objs] W (Gives W (.bool b)))
    (W : World) (cs : List Value) (hW : Below W0.heap.size W0 W) (hK : kTm.K W x cs) (B : Nat) (hB : W.cell? ⟨B, 0, none⟩ = some (.int .i64 objs)) :
    Calls Try.prog 17 #[.agg cs.toArray, .pointer (some ⟨B, 0, none⟩)] W (Gives W (.bool b)) := by
  have HH := Aside0.mk H
  have HK := Aside0.mk hK
  have HW := Aside0.mk hW
  have HN := Aside0.mk (show (Try.prog.info? 40).map (·.size) = some cs.toArray.size from by rw [List.size_toArray, kTm.K_len hK]; exact size_Tm)
  clear H hK hW
  go_enter Try.func17, Try.ntmps17
  go_wp2_with (first
    | ((with_reducible refine gate_dst (N := 2) rfl ?_); refine box_event rfl (N := 2) rfl (cs := cs.toArray) (t := 40) ?hr ?_; (case hr => first | (go_simp; done) | (go_simp; rfl)); intro g2 hg2 w2 hbox2 hb2; have HG2 := Aside0.mk hg2; have HX2 := Aside0.mk hbox2; clear hg2 hbox2; have hB2 := (hb2.cell (World.block_lt_of_cell? W _ hB)).trans hB)
    | ((with_reducible refine gate_dst (N := 4) rfl ?_); refine wpList_load_row rfl 40 _ rfl g2 rfl 40 cs.toArray (0, 0) _ HX2.out Try.underlying40 rfl HN.out ?_))
  refine (HH.out w2 cs (below_step HW.out hb2) (kTm.K_below hb2 HK.out)).mono ?_
  rintro e w' ⟨rfl, hb⟩
  go_wp2
  go_ret
  exact ⟨rfl, below_step hb2 hb⟩

set_option maxHeartbeats 4000000 in
theorem asks_plain (n : Nat) : ∀ (t : Tm) (objs : Int) (w : World) (cs : List Value), depthT t ≤ n → plainT t → kTm.K w t cs →
    Calls Try.prog 10 #[.agg cs.toArray, .int .i64 objs] w (Gives w (.bool false)) := by
  induction n with
  | zero => intro t objs w cs h; have := depthT_eq t; omega
  | succ n ih =>
    intro t objs w cs hd hpl hK
    obtain ⟨p18, p19, pl⟩ := (plainT_eq t).1 hpl
    have hdt := depthT_eq t
    obtain ⟨A4, c4, A5, c5, A6, c6, rfl, l4, g4, l5, g5, l6, g6⟩ := kTm_open hK
    have HG4 := Aside0.mk g4
    have HG5 := Aside0.mk g5
    have HD := Aside0.mk hdt
    have HPL := Aside0.mk pl
    have hlen5 := g5.2.1
    have h19 : (t.f0 == 19) = false := by simpa using p19
    have hmf : ∀ (fn : Fn) (first cap : Array Value) (w : World), (Instr.makeFunc fn first cap).run Try.prog w = .ok (.func fn first cap) w := fun _ _ _ _ => rfl
    clear g4 g5 g6 hK hdt hpl pl p18 p19
    go_enter Try.func10, Try.ntmps10
    go_wp2_with (first
      | ((with_reducible refine gate_dst (N := 2) rfl ?_); refine box_event rfl (N := 2) rfl (cs := #[.int .i64 t.f0, .string t.f1, .int .i64 t.f2, .string t.f3, .slice A4 t.f4.length c4, .slice A5 t.f5.length c5, .slice A6 t.f6.length c6]) (t := 40) ?hr ?_; (case hr => first | (go_simp; done) | (go_simp; rfl)); intro g2 hg2 w2 hbox2 hb2; have HG2 := Aside0.mk hg2; have HX2 := Aside0.mk hbox2; clear hg2 hbox2)
      | ((with_reducible refine gate_dst (N := 3) rfl ?_); refine box_event rfl (N := 3) rfl (cs := #[.int .i64 objs]) (t := 3) ?hr ?_; (case hr => first | (go_simp; done) | (go_simp; rfl)); intro g3 hg3 w3 hbox3 hb3; have HG3 := Aside0.mk hg3; have HX3 := Aside0.mk hbox3; clear hg3 hbox3; have HX23 := Aside0.mk (blk_below HX2.out hb3); have HB3 := Aside0.mk (below_step hb2 hb3); have c25 : w3.cell? ⟨g2, 5, none⟩ = some (.slice A5 t.f5.length c5) := (blk_cell HX23.out 5).trans rfl; clear hb2 hb3))
    clear c25
    go_loopg [5, 7, 11] t.f5.length (fun gg v5 v7 v11 wr => ∃ (k : Nat) (m : Int), k ≤ t.f5.length ∧ t.f5.length - k ≤ gg ∧ v11 = .int .i64 k ∧ v5 = .int .i64 m ∧ Aside0 (Below w3.heap.size w3 wr))
    case atStart => exact ⟨0, 1, Nat.zero_le _, by omega, rfl, rfl, ⟨Below.refl _ _⟩⟩
    case round =>
      obtain ⟨k, m, hk, hgg, rfl, rfl, BW⟩ := hrel
      have c20 : wr.cell? ⟨g2, 0, none⟩ = some (.int .i64 t.f0) := (BW.out.cell (blk_lt HX23.out)).trans ((blk_cell HX23.out 0).trans rfl)
      have c24 : wr.cell? ⟨g2, 4, none⟩ = some (.slice A4 t.f4.length c4) := (BW.out.cell (blk_lt HX23.out)).trans ((blk_cell HX23.out 4).trans rfl)
      have c30 : wr.cell? ⟨g3, 0, none⟩ = some (.int .i64 objs) := (BW.out.cell (blk_lt HX3.out)).trans ((blk_cell HX3.out 0).trans rfl)
      by_cases hlt : k < t.f5.length
      · obtain ⟨ad, e, hx0, hx1⟩ := at_TBd (Kd.C_below HG5.out (below_step HB3.out BW.out)) (k : Int) (by omega) (by omega)
        subst e
        obtain ⟨b, hb⟩ : ∃ b, b = rd_TBd t.f5 (k : Int) := ⟨_, rfl⟩
        rw [← hb] at hx0 hx1
        rw [show ((k : Int)).toNat = k from rfl] at hx0 hx1
        clear hb
        have hkc : (k : Int) ≤ (c5 : Int) := by omega
        go_wp2_with (first
          | ((with_reducible refine gate_dst (N := 14) rfl ?_); refine wpList_load_cells rfl 70 _ rfl _ rfl [.string b.f0, .int .i64 b.f1] _ Try.underlying70 rfl sizeA_Bd (fun j v hj => by rcases j with _ | _ | j <;> first | (injection hj with hj; subst hj; first | exact hx0 | exact hx1) | (simp at hj)) ?_)
          | ((with_reducible refine gate_dst (N := 16) rfl ?_); (obtain ⟨w7, hw7⟩ : ∃ w7, w7 = wr.alloc (.cells #[.string b.f0, .int .i64 b.f1] 70) := ⟨_, rfl⟩); (obtain ⟨g7, hg7⟩ : ∃ g7, g7 = wr.heap.size := ⟨_, rfl⟩); rw [← hw7]; rw [← hg7]; (have hb7 : Below wr.heap.size wr w7 := (by rw [hw7]; exact (Below.refl _ _).alloc (Nat.le_refl _) _)); (have HX7 := Aside0.mk (show w7.heap[g7]? = some (.cells #[.string b.f0, .int .i64 b.f1] 70 (0, 0)) from (by rw [hw7, hg7]; exact blk_new _ _))); have HG7 := Aside0.mk hg7; clear hw7 hg7; replace c20 := (hb7.cell (World.block_lt_of_cell? _ _ c20)).trans c20; replace c30 := (hb7.cell (World.block_lt_of_cell? _ _ c30)).trans c30; clear hx0 hx1 c24))
        · go_roundg (t.f5.length - (k + 1))
          case measure => omega
          case rel => exact ⟨k + 1, _, by omega, by omega, by go_num, rfl, ⟨below_step BW.out hb7⟩⟩
        · go_roundg (t.f5.length - (k + 1))
          case measure => omega
          case rel => exact ⟨k + 1, _, by omega, by omega, by go_num, rfl, ⟨below_step BW.out hb7⟩⟩
      · go_wp2_with fail
        have hb := below_step HB3.out BW.out
        refine (containsFunc_Tm t.f4 A4 c4 17 #[.pointer (some ⟨g3, 0, none⟩)] (fun args w => enters_ Try.func17 (by kernel_rfl) rfl args w) (fun _ => false) wr (Kd.C_below HG4.out hb) ?_ HG4.out.2.1).mono ?_
        · intro j hj z W cs hW hK
          have hmem : t.f4.getD j z ∈ t.f4 := by rw [List.getD_eq_getElem?_getD, List.getElem?_eq_getElem hj]; exact List.getElem_mem hj
          refine (asks1_calls (t.f4.getD j z) objs false W (fun W' cs' hW' hK' => ih _ objs W' cs' ?_ (plainL_mem hmem HPL.out) hK') W cs (Below.refl _ _) hK g3 ((hW.cell (World.block_lt_of_cell? wr _ c30)).trans c30)).mono ?_
          · have := depthL_mem hmem; have := HD.out; omega
          · rintro e w' ⟨rfl, hb'⟩
            exact ⟨rfl, below_step hW hb'⟩
        · rintro e w' ⟨rfl, hb'⟩
          have HF := Aside0.mk (show t.f4.any (fun _ => false) = false from by simp)
          rw [HF.out]
          go_wp2
          go_ret
          exact ⟨rfl, below_step hb hb'⟩
end Go.Proofs.Ytiokmnabkccpcaa.Kit
