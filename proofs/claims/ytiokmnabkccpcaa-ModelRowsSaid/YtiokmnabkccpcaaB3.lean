/- A term's size, as far as a bound: term.size, walked. -/
import Derived.Test.YtiokmnabkccpcaaB2
set_option linter.unusedVariables false
set_option linter.unusedSimpArgs false
namespace Go.Proofs.Ytiokmnabkccpcaa.Kit
open Go.RowKit Go.Proofs.YtiokmnabkccpcaaW.PrintWords Go.Proofs.YtiokmnabkccpcaaW.PrintLast Go.Proofs.YtiokmnabkccpcaaW.PrintMore
attribute [local go_sem] min2_int min_two max2_int max_two

mutual
def sizeT : Tm → Nat
  | ⟨_, _, _, _, l, _, _⟩ => sizeL l + 1
def sizeL : List Tm → Nat
  | [] => 0
  | x :: r => sizeT x + sizeL r
end
theorem sizeT_eq (t : Tm) : sizeT t = sizeL t.f4 + 1 := by cases t; rw [sizeT]
theorem sizeL_take (l : List Tm) (z : Tm) : ∀ k, k < l.length → sizeL (l.take (k + 1)) = sizeL (l.take k) + sizeT (l.getD k z) := by
  induction l with
  | nil => intro k h; cases h
  | cons y r ih =>
    intro k h
    cases k with
    | zero => simp [sizeL]
    | succ k =>
      have := ih k (by simpa using h)
      simp only [List.take_succ_cons, sizeL, this, List.getD_cons_succ]
      omega
theorem sizeL_take_le (l : List Tm) : ∀ k, sizeL (l.take k) ≤ sizeL l := by
  induction l with
  | nil => intro k; simp
  | cons y r ih =>
    intro k
    cases k with
    | zero => simp [sizeL]
    | succ k =>
      have := ih k
      simp only [List.take_succ_cons, sizeL]
      omega
/-- As far as a bound: more than it: one more. -/
def upTo (n : Nat) (most : Int) : Int := min (n : Int) (most + 1)

set_option maxHeartbeats 1000000 in
theorem size_calls (d : Nat) : ∀ (t : Tm) (most : Int) (w : World) (cs : List Value), depthT t ≤ d → 0 ≤ most → most ≤ 4611686018427387904 → kTm.K w t cs →
    Calls Try.prog 14 #[.agg cs.toArray, .int .i64 most] w (Gives w (.int .i64 (upTo (sizeT t) most))) := by
  induction d with
  | zero => intro t most w cs h; have := depthT_eq t; omega
  | succ d ih =>
    intro t most w cs hd h0 h1 hK
    have hdt := depthT_eq t
    obtain ⟨A4, c4, A5, c5, A6, c6, rfl, l4, g4, l5, g5, l6, g6⟩ := kTm_open hK
    have HG4 := Aside0.mk g4
    have HD := Aside0.mk hdt
    have hlen := g4.2.1
    clear g4 g5 g6 hK hdt
    go_enter Try.func14, Try.ntmps14
    go_wp2_with ((with_reducible refine gate_dst (N := 2) rfl ?_); refine box_event rfl (N := 2) rfl (cs := #[.int .i64 t.f0, .string t.f1, .int .i64 t.f2, .string t.f3, .slice A4 t.f4.length c4, .slice A5 t.f5.length c5, .slice A6 t.f6.length c6]) (t := 40) ?hr ?_; (case hr => first | (go_simp; done) | (go_simp; rfl)); intro g2 hg2 w2 hbox2 hb2; have HG2 := Aside0.mk hg2; have HX2 := Aside0.mk hbox2; clear hg2 hbox2)
    have HB := Aside0.mk hb2
    clear hb2
    go_loopg [5, 6] t.f4.length (fun gg v5 v6 wr => ∃ (kk : Nat) (n : Int), kk ≤ t.f4.length ∧ t.f4.length - kk ≤ gg ∧ v6 = .int .i64 kk ∧ v5 = .int .i64 n ∧ 1 ≤ n ∧ n ≤ most + 1 ∧ Aside0 (n = upTo (sizeL (t.f4.take kk) + 1) most) ∧ Aside0 (Below w2.heap.size w2 wr))
    case atStart => exact ⟨0, 1, Nat.zero_le _, by omega, rfl, rfl, by omega, by omega, ⟨by simp only [List.take_zero, sizeL, upTo]; omega⟩, ⟨Below.refl _ _⟩⟩
    case round =>
      obtain ⟨kk, n, hkk, hg, rfl, rfl, hn1, hn2, HE, BW⟩ := hrel
      have c24 : wr.cell? ⟨g2, 4, none⟩ = some (.slice A4 t.f4.length c4) := (BW.out.cell (blk_lt HX2.out)).trans ((blk_cell HX2.out 4).trans rfl)
      by_cases hlt : kk < t.f4.length
      · by_cases hle : n ≤ most
        · obtain ⟨ad, cs, e, hl, hK, hc⟩ := Kd.C_get HG4.out zTm (kk : Int) (by omega) (by omega)
          subst e
          have hbw := below_step HB.out BW.out
          have hK' := kTm.K_below hbw hK
          rw [show ((kk : Int)).toNat = kk from rfl] at hK' hc
          have HL := Aside0.mk (show ∀ j v, cs[j]? = some v → wr.cell? ((ad.add (kk * kTm.sz)).add j) = some v from fun j v hv => by
              have := hc j v hv
              rw [add_add]
              exact (hbw.cell (World.block_lt_of_cell? w _ this)).trans this)
          have HN := Aside0.mk (show (Try.prog.info? 40).map (·.size) = some cs.length from by rw [hl]; exact size_Tm)
          have HK := Aside0.mk hK'
          clear hc hK hK' hl hbw
          have hmem : t.f4.getD kk zTm ∈ t.f4 := by rw [List.getD_eq_getElem?_getD, List.getElem?_eq_getElem hlt]; exact List.getElem_mem hlt
          have HM := Aside0.mk hmem
          clear hmem
          go_wp2_with (((with_reducible refine gate_dst (N := 24) rfl ?_); refine wpList_load_cells rfl 40 _ rfl (ad.add (kk * kTm.sz)) rfl cs _ Try.underlying40 rfl HN.out HL.out ?_))
          refine (ih (t.f4.getD kk zTm) (most - n) wr cs (by have := depthL_mem HM.out; have := HD.out; omega) (by omega) (by omega) HK.out).mono ?_
          have hup : 0 ≤ upTo (sizeT (t.f4.getD kk zTm)) (most - n) ∧ upTo (sizeT (t.f4.getD kk zTm)) (most - n) ≤ most - n + 1 := by unfold upTo; omega
          obtain ⟨q, hq⟩ : ∃ q, q = upTo (sizeT (t.f4.getD kk zTm)) (most - n) := ⟨_, rfl⟩
          rw [← hq] at hup ⊢
          have HQ := Aside0.mk hq
          obtain ⟨hup1, hup2⟩ := hup
          clear hq
          rintro e w' ⟨rfl, hb'⟩
          go_wp2
          go_roundg (t.f4.length - (kk + 1))
          case measure => omega
          case rel =>
            refine ⟨kk + 1, n + q, by omega, by omega, by go_num, rfl, by omega, by omega, ⟨?_⟩, ⟨BW.out.trans (hb'.mono BW.out.size)⟩⟩
            rw [sizeL_take _ zTm kk hlt]
            have e1 := HE.out
            have e2 := HQ.out
            unfold upTo at *
            omega
        · have HF := Aside0.mk (show upTo (sizeT t) most = n from by
            have e1 := HE.out
            have := sizeL_take_le t.f4 kk
            have := sizeT_eq t
            unfold upTo at *
            omega)
          go_wp2
          go_ret
          exact ⟨by rw [HF.out]; rfl, below_step HB.out BW.out⟩
      · have HF := Aside0.mk (show upTo (sizeT t) most = n from by
          have e1 := HE.out
          have e : kk = t.f4.length := by omega
          rw [e, List.take_length] at e1
          have := sizeT_eq t
          unfold upTo at *
          omega)
        go_wp2
        go_ret
        exact ⟨by rw [HF.out]; rfl, below_step HB.out BW.out⟩
end Go.Proofs.Ytiokmnabkccpcaa.Kit
