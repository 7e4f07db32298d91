/- Sorts and bound variables: term.sort, term.binds, walked. -/
import Derived.Test.YtiokmnabkccpcaaBa
set_option linter.unusedVariables false
set_option linter.unusedSimpArgs false
namespace Go.Proofs.Ytiokmnabkccpcaa.Kit
open Go.RowKit Go.Proofs.YtiokmnabkccpcaaW.PrintWords Go.Proofs.YtiokmnabkccpcaaW.PrintLast Go.Proofs.YtiokmnabkccpcaaW.PrintMore

def sortB (s : Int) : Bool := decide (1 ≤ s) && decide (s ≤ 3)
theorem sort_calls (s : Int) (w : World) : Calls Try.prog 62 #[.int .i64 s] w (Gives w (.bool (sortB s))) := by
  by_cases h1 : 1 ≤ s
  · have h1' : decide (1 ≤ s) = true := decide_eq_true h1
    have HF := Aside0.mk (show sortB s = decide (s ≤ 3) from by unfold sortB; rw [h1']; rfl)
    go_enter Try.func62, Try.ntmps62
    go_wp2
    go_ret
    exact ⟨by rw [HF.out]; rfl, Below.refl _ _⟩
  · have h1' : decide (1 ≤ s) = false := decide_eq_false h1
    have HF := Aside0.mk (show sortB s = false from by unfold sortB; rw [h1']; rfl)
    go_enter Try.func62, Try.ntmps62
    go_wp2
    go_ret
    exact ⟨by rw [HF.out]; rfl, Below.refl _ _⟩

theorem sizeA_Bd : (Try.prog.info? 70).map (·.size) = some 2 := by kernel_rfl
set_option maxHeartbeats 1000000 in
theorem binds1_calls (x b : Bd) (W : World) (B : Nat) (hB : W.heap[B]? = some (.cells #[.string b.f0, .int .i64 b.f1] 70 (0, 0))) :
    Calls Try.prog 64 #[.agg #[.string x.f0, .int .i64 x.f1], .pointer (some ⟨B, 0, none⟩)] W (Gives W (.bool (x.f0.toList == b.f0.toList))) := by
  have HB := Aside0.mk hB
  clear hB
  go_enter Try.func64, Try.ntmps64
  go_wp2_with ((with_reducible refine gate_dst (N := 2) rfl ?_); refine box_event rfl (N := 2) rfl (cs := #[.string x.f0, .int .i64 x.f1]) (t := 70) ?hr ?_; (case hr => first | (go_simp; done) | (go_simp; rfl)); intro g2 hg2 w2 hbox2 hb2; have HG2 := Aside0.mk hg2; have HX2 := Aside0.mk hbox2; clear hg2 hbox2; have c0 : w2.cell? ⟨g2, 0, none⟩ = some (.string x.f0) := (blk_cell HX2.out 0).trans rfl; have c1 : w2.cell? ⟨B, 0, none⟩ = some (.string b.f0) := (hb2.cell (blk_lt HB.out)).trans ((blk_cell HB.out 0).trans rfl))
  go_ret
  exact ⟨rfl, hb2⟩

def bindsTo (l : List Bd) : Nat → Bool
  | 0 => true
  | k + 1 => bindsTo l k && (namedS (l.getD k zBd).f0 && sortB (l.getD k zBd).f1 && !((l.take k).any fun x => x.f0.toList == (l.getD k zBd).f0.toList))
def bindsS (l : List Bd) : Bool := bindsTo l l.length && decide (0 < l.length)
theorem bindsTo_false (l : List Bd) (k n : Nat) (hk : k < n) (h : (namedS (l.getD k zBd).f0 && sortB (l.getD k zBd).f1 && !((l.take k).any fun x => x.f0.toList == (l.getD k zBd).f0.toList)) = false) : bindsTo l n = false := by
  induction n with
  | zero => omega
  | succ n ih =>
    rw [bindsTo]
    by_cases e : k = n
    · subst e; rw [h]; simp
    · rw [ih (by omega)]; rfl
set_option maxHeartbeats 4000000 in
set_option maxRecDepth 100000 in
theorem binds_calls (l : List Bd) (A : Option Addr) (c : Nat) (w : World) (hC : kBd.C w A l.length l) (hl : l.length ≤ c) (hn : ∀ x ∈ l, x.f0.size ≤ 9223372036854775807) :
    Calls Try.prog 50 #[.slice A l.length c] w (Gives w (.bool (bindsS l))) := by
  have HC := Aside0.mk hC
  have HN := Aside0.mk hn
  have hlen := hC.2.1
  have hmf : ∀ (fn : Fn) (first cap : Array Value) (w : World), (Instr.makeFunc fn first cap).run Try.prog w = .ok (.func fn first cap) w := fun _ _ _ _ => rfl
  clear hC hn
  go_enter Try.func50, Try.ntmps50
  go_wp2
  go_loopg [7] l.length (fun gg v7 wr => ∃ k : Nat, k ≤ l.length ∧ l.length - k ≤ gg ∧ v7 = .int .i64 k ∧ Aside0 (bindsTo l k = true) ∧ Aside0 (Below w.heap.size w wr))
  case atStart => exact ⟨0, Nat.zero_le _, by omega, rfl, ⟨rfl⟩, ⟨Below.refl _ _⟩⟩
  case round =>
    obtain ⟨k, hk, hkg, rfl, HT, BW⟩ := hrel
    by_cases hlt : k < l.length
    · obtain ⟨ad, e, hx0, hx1⟩ := at_TBd HC.out (k : Int) (by omega) (by omega)
      subst e
      obtain ⟨b, hb⟩ : ∃ b, b = rd_TBd l (k : Int) := ⟨_, rfl⟩
      rw [← hb] at hx0 hx1
      have HBB := Aside0.mk (show l.getD k zBd = b from by rw [hb]; rfl)
      have hbs := HN.out b (by rw [← HBB.out, List.getD_eq_getElem?_getD, List.getElem?_eq_getElem hlt]; exact List.getElem_mem hlt)
      rw [show ((k : Int)).toNat = k from rfl] at hx0 hx1
      replace hx0 := (BW.out.cell (World.block_lt_of_cell? w _ hx0)).trans hx0
      replace hx1 := (BW.out.cell (World.block_lt_of_cell? w _ hx1)).trans hx1
      clear hb
      have hkc : (k : Int) ≤ (c : Int) := by omega
      go_wp2_with (first | ((with_reducible refine gate_dst (N := 4) rfl ?_); refine box_event rfl (N := 4) rfl (cs := #[.string ⟨#[]⟩, .int .i64 0]) (t := 70) ?hr ?_; (case hr => first | (go_simp; done) | (go_simp; rfl)); intro g4 hg4 w4 hbox4 hb4; have HG4 := Aside0.mk hg4; have HX4 := Aside0.mk hbox4; clear hg4 hbox4; have HB4 := Aside0.mk hb4; clear hb4) | ((with_reducible refine gate_store (p := 4) rfl ?_); refine store_row_event rfl rfl 70 _ _ rfl g4 #[.string b.f0, .int .i64 b.f1] rfl rfl 70 _ HX4.out sizeA_Bd rfl rfl ?_; intro w5 hx5 hw5; have HX5 := Aside0.mk hx5; have BW5 := Aside0.mk (hw5.below _ _ (by have := HG4.out; have := BW.out.size; omega) (below_step BW.out HB4.out)); have c50 : w5.cell? ⟨g4, 0, none⟩ = some (.string b.f0) := (blk_cell hx5 0).trans rfl; have c51 : w5.cell? ⟨g4, 1, none⟩ = some (.int .i64 b.f1) := (blk_cell hx5 1).trans rfl; clear hx5 hw5))
      refine (named_calls b.f0 w5 hbs).mono ?_
      obtain ⟨q1, hq1⟩ : ∃ q, q = namedS b.f0 := ⟨_, rfl⟩
      rw [← hq1]
      have HQ1 := Aside0.mk hq1
      clear hq1
      rintro e w6 ⟨rfl, hb6⟩
      have c61 : w6.cell? ⟨g4, 1, none⟩ = some (.int .i64 b.f1) := (hb6.cell (World.block_lt_of_cell? w5 _ c51)).trans c51
      have BW6 := Aside0.mk (below_step BW5.out hb6)
      have HX6 := Aside0.mk ((hb6.block _ (blk_lt HX5.out)).trans HX5.out)
      clear hb6
      cases q1 with
      | false =>
        have HF := Aside0.mk (show bindsS l = false from by
          have := bindsTo_false l k l.length hlt (by rw [HBB.out, ← HQ1.out]; rfl)
          unfold bindsS; rw [this]; rfl)
        go_wp2
        go_ret
        exact ⟨by rw [HF.out]; rfl, BW6.out⟩
      | true =>
        go_wp2_with fail
        refine (sort_calls b.f1 w6).mono ?_
        obtain ⟨q2, hq2⟩ : ∃ q, q = sortB b.f1 := ⟨_, rfl⟩
        rw [← hq2]
        have HQ2 := Aside0.mk hq2
        clear hq2
        rintro e w7 ⟨rfl, hb7⟩
        have BW7 := Aside0.mk (below_step BW6.out hb7)
        have HX7 := Aside0.mk ((hb7.block _ (blk_lt HX6.out)).trans HX6.out)
        clear hb7
        cases q2 with
        | false =>
          have HF := Aside0.mk (show bindsS l = false from by
            have := bindsTo_false l k l.length hlt (by rw [HBB.out, ← HQ1.out, ← HQ2.out]; rfl)
            unfold bindsS; rw [this]; rfl)
          go_wp2
          go_ret
          exact ⟨by rw [HF.out]; rfl, BW7.out⟩
        | true =>
          have htl : (l.take k).length = k := by rw [List.length_take]; omega
          have hct := Kd.C_take (Kd.C_below HC.out BW7.out) (m := k) hk
          have hcf := containsFunc_Bd (l.take k) (some ad) c 64 #[.pointer (some ⟨g4, 0, none⟩)] (fun args w => enters_ Try.func64 (by kernel_rfl) rfl args w) (fun x => x.f0.toList == b.f0.toList) w7 hct (fun j hj z W cs hW hK => by
            have e := kBd_open hK
            subst e
            refine (binds1_calls _ b W g4 ((hW.block _ (blk_lt HX7.out)).trans HX7.out)).mono ?_
            rintro e w8 ⟨rfl, hb8⟩
            exact ⟨rfl, below_step hW hb8⟩) (by omega)
          rw [htl] at hcf
          obtain ⟨q3, hq3⟩ : ∃ q, q = (l.take k).any (fun x => x.f0.toList == b.f0.toList) := ⟨_, rfl⟩
          rw [← hq3] at hcf
          have HQ3 := Aside0.mk hq3
          have HCF := Aside0.mk hcf
          clear hq3 hcf hct htl
          go_wp2_with fail
          refine HCF.out.mono ?_
          rintro e w8 ⟨rfl, hb8⟩
          have BW8 := Aside0.mk (below_step BW7.out hb8)
          clear hb8
          cases q3 with
          | true =>
            have HF := Aside0.mk (show bindsS l = false from by
              have := bindsTo_false l k l.length hlt (by rw [HBB.out, ← HQ1.out, ← HQ2.out, ← HQ3.out]; rfl)
              unfold bindsS; rw [this]; rfl)
            go_wp2
            go_ret
            exact ⟨by rw [HF.out]; rfl, BW8.out⟩
          | false =>
            go_wp2
            go_roundg (l.length - (k + 1))
            case measure => omega
            case rel => exact ⟨k + 1, by omega, by omega, by go_num, ⟨by rw [bindsTo, HT.out, HBB.out, ← HQ1.out, ← HQ2.out, ← HQ3.out]; rfl⟩, BW8⟩
    · have hke : k = l.length := by omega
      have HF := Aside0.mk (show bindsS l = decide (0 < l.length) from by
        have h := HT.out
        rw [hke] at h
        unfold bindsS
        rw [h, Bool.true_and, ])
      clear hke
      go_wp2
      go_ret
      exact ⟨by rw [HF.out]; rfl, BW.out⟩
end Go.Proofs.Ytiokmnabkccpcaa.Kit
