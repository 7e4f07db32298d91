/- The model: Value of these terms; Holds where all are true. -/
import Derived.Test.YtiokmnabkccpcaaD9
set_option linter.unusedVariables false
set_option linter.unusedSimpArgs false
namespace Go.Proofs.Ytiokmnabkccpcaa.Kit
open Go.RowKit Go.Proofs.YtiokmnabkccpcaaW.PrintWords Go.Proofs.YtiokmnabkccpcaaW.PrintLast Go.Proofs.YtiokmnabkccpcaaW.PrintMore

theorem Value_ap (s : ByteArray) (hs : s.size ≤ bulkM) (hp : (parseS s).isSome = true) (tb : List Tb) (htb : smallT tb) (w : World) (cs : List Value) (hK : kTm.K w (apT s) cs) (AS AT : Option Addr) (cS cT : Nat) (mo : Int)
    (hlS : sigF.length ≤ cS) (hCS : kSg.C w AS sigF.length sigF) (hlT : tb.length ≤ cT) (hCT : kTb.C w AT tb.length tb) :
    Calls Try.prog 6 #[.slice AS sigF.length cS, .agg #[.slice AT tb.length cT, .int .i64 mo], .agg cs.toArray] w (GivesAns w ((fAt tb s).map .num)) :=
  Value_plain (apT s) (plain_ap s) (fine_ap hs) w cs hK sigF AS cS hlS hCS tb AT cT mo 1 (checkS_ap hp) _ (fun i => by cases fAt tb s <;> (intro e; cases e)) fun W cs' g hb hK' hg => by
    rw [← valT_ap]
    exact value_ap s hs tb htb W cs' hK' g AS AT cS cT mo (objsOf mo) hg hlS (Kd.C_below hCS hb) hlT (Kd.C_below hCT hb)
theorem Value_lt (a b : ByteArray) (ha : a.size ≤ bulkM) (hb : b.size ≤ bulkM) (hpa : (parseS a).isSome = true) (hpb : (parseS b).isSome = true) (tb : List Tb) (htb : smallT tb) (hab : fAt tb a = none ∨ (fAt tb b).isSome) (w : World) (cs : List Value) (hK : kTm.K w (ltT a b) cs) (AS AT : Option Addr) (cS cT : Nat) (mo : Int)
    (hlS : sigF.length ≤ cS) (hCS : kSg.C w AS sigF.length sigF) (hlT : tb.length ≤ cT) (hCT : kTb.C w AT tb.length tb) :
    Calls Try.prog 6 #[.slice AS sigF.length cS, .agg #[.slice AT tb.length cT, .int .i64 mo], .agg cs.toArray] w (GivesAns w ((ltAt tb a b).map .tru)) :=
  Value_plain (ltT a b) (plain_lt a b) (fine_lt ha hb) w cs hK sigF AS cS hlS hCS tb AT cT mo 2 (checkS_lt hpa hpb) _ (fun i => by cases ltAt tb a b <;> (intro e; cases e)) fun W cs' g hb' hK' hg =>
    value_lt a b ha hb tb htb hab W cs' hK' g AS AT cS cT mo (objsOf mo) hg hlS (Kd.C_below hCS hb') hlT (Kd.C_below hCT hb')
theorem Value_true (tb : List Tb) (w : World) (cs : List Value) (hK : kTm.K w truT cs) (AS AT : Option Addr) (cS cT : Nat) (mo : Int)
    (hlS : sigF.length ≤ cS) (hCS : kSg.C w AS sigF.length sigF) :
    Calls Try.prog 6 #[.slice AS sigF.length cS, .agg #[.slice AT tb.length cT, .int .i64 mo], .agg cs.toArray] w (GivesAns w (some (.tru true))) :=
  Value_plain truT plain_true fine_true w cs hK sigF AS cS hlS hCS tb AT cT mo 2 checkS_true _ (fun i => by intro e; cases e) fun W cs' g hb hK' hg => value_true W cs' hK' g

set_option maxHeartbeats 4000000 in
set_option maxRecDepth 100000 in
theorem Holds_all (l : List Tm) (w : World) (A : Option Addr) (c : Nat) (hl : l.length ≤ c) (hC : kTm.C w A l.length l) (sv mv1 mv2 : Value) (hm1 : (Value.agg #[mv1, mv2]).cells = #[mv1, mv2]) (hq1 : mv1.oneCell' = true) (hq2 : mv2.oneCell' = true)
    (H : ∀ x ∈ l, ∀ (W : World) (cs' : List Value), Below w.heap.size w W → kTm.K W x cs' → Calls Try.prog 6 #[sv, .agg #[mv1, mv2], .agg cs'.toArray] W (GivesVal W truS 0))
    (HC : ∀ x ∈ l, ∀ (W : World) (cs' : List Value), Below w.heap.size w W → kTm.K W x cs' → Calls Try.prog 9 #[sv, .agg cs'.toArray] W (GivesS W (.ok 2))) :
    Calls Try.prog 8 #[sv, .agg #[mv1, mv2], .slice A l.length c] w (fun e w' => e = .returned (.tuple #[.bool true, .int .i64 0]) ∧ Below w.heap.size w w') := by
  have HH := Aside0.mk H
  have HHC := Aside0.mk HC
  have HG := Aside0.mk hC
  have hll := hC.2.1
  clear H HC hC
  go_enter Try.func8, Try.ntmps8
  go_wp2_with ((with_reducible refine gate_dst (N := 4) rfl ?_); refine box_event rfl (N := 4) rfl (cs := #[mv1, mv2]) (t := 46) ?hr ?_; (case hr => first | (go_simp; done) | (go_simp; rfl)); intro g4 hg4 w4 hbox4 hb4; have HG4 := Aside0.mk hg4; have HX4 := Aside0.mk hbox4; clear hg4 hbox4)
  have HB4 := Aside0.mk hb4
  clear hb4
  go_loopg [6, 7, 8, 9, 11, 12, 13, 14, 15, 18, 22, 32] l.length (fun gg _ _ v8 v9 _ _ _ _ _ v18 _ _ wr => ∃ k : Nat, k ≤ l.length ∧ l.length - k ≤ gg ∧ v18 = .int .i64 k ∧ v8 = .bool true ∧ v9 = .bool true ∧ Aside0 (Below w4.heap.size w4 wr))
  case atStart => exact ⟨0, Nat.zero_le _, by omega, rfl, rfl, rfl, ⟨Below.refl _ _⟩⟩
  case round =>
    obtain ⟨k, hk, hgg, rfl, rfl, rfl, BW⟩ := hrel
    have HBR := Aside0.mk (below_step HB4.out BW.out)
    by_cases hlt : k < l.length
    · obtain ⟨ad, cs, e, hl', hK, hc⟩ := Kd.C_get HG.out zTm (k : Int) (by omega) (by omega)
      subst e
      have hK' := kTm.K_below HBR.out hK
      rw [show ((k : Int)).toNat = k from rfl] at hK' hc
      obtain ⟨x, hx⟩ : ∃ x, x = l.getD k zTm := ⟨_, rfl⟩
      rw [← hx] at hK'
      have HKx := Aside0.mk hK'
      obtain ⟨B4, d4, B5, d5, B6, d6, rfl, _, _, _, _, _, _⟩ := kTm_open hK'
      have HL := Aside0.mk (show ∀ j v, [.int .i64 x.f0, .string x.f1, .int .i64 x.f2, .string x.f3, .slice B4 x.f4.length d4, .slice B5 x.f5.length d5, .slice B6 x.f6.length d6][j]? = some v → wr.cell? ((ad.add (k * kTm.sz)).add j) = some v from fun j v hv => by
        have := hc j v hv
        rw [add_add]
        exact keepc HBR.out this)
      have HM := Aside0.mk (show x ∈ l by rw [hx, List.getD_eq_getElem?_getD, List.getElem?_eq_getElem hlt]; exact List.getElem_mem hlt)
      have HX4r := Aside0.mk (blk_below HX4.out BW.out)
      clear hc hK hK' hl' hx
      go_wp2_with (first
        | ((with_reducible refine gate_dst (N := 21) rfl ?_); refine wpList_load_cells rfl 40 _ rfl (ad.add (k * kTm.sz)) rfl [.int .i64 x.f0, .string x.f1, .int .i64 x.f2, .string x.f3, .slice B4 x.f4.length d4, .slice B5 x.f5.length d5, .slice B6 x.f6.length d6] _ Try.underlying40 rfl size_Tm HL.out ?_)
        | ((with_reducible refine gate_dst (N := 24) rfl ?_); (obtain ⟨w11, hw11⟩ : ∃ w11, w11 = wr.alloc (.cells #[.int .i64 x.f0, .string x.f1, .int .i64 x.f2, .string x.f3, .slice B4 x.f4.length d4, .slice B5 x.f5.length d5, .slice B6 x.f6.length d6] 40) := ⟨_, rfl⟩); (obtain ⟨g11, hg11⟩ : ∃ g11, g11 = wr.heap.size := ⟨_, rfl⟩); rw [← hw11]; rw [← hg11]; (have hb11 : Below wr.heap.size wr w11 := (by rw [hw11]; exact (Below.refl _ _).alloc (Nat.le_refl _) _)); (have HX11 := Aside0.mk (show w11.heap[g11]? = some (.cells #[.int .i64 x.f0, .string x.f1, .int .i64 x.f2, .string x.f3, .slice B4 x.f4.length d4, .slice B5 x.f5.length d5, .slice B6 x.f6.length d6] 40 (0, 0)) from (by rw [hw11, hg11]; exact blk_new _ _))); have HG11 := Aside0.mk hg11; clear hw11 hg11; have HX411 := Aside0.mk (blk_below HX4r.out hb11); have HB11 := Aside0.mk hb11; clear hb11)
        | ((with_reducible refine gate_dst (N := 24) rfl ?_); refine wpList_load_row rfl 46 _ rfl g4 rfl 46 #[mv1, mv2] (0, 0) _ HX411.out Try.underlying46 rfl size_Md ?_)
        | ((with_reducible refine gate_dst (N := 25) rfl ?_); refine wpList_load_row rfl 40 _ rfl g11 rfl 40 #[.int .i64 x.f0, .string x.f1, .int .i64 x.f2, .string x.f3, .slice B4 x.f4.length d4, .slice B5 x.f5.length d5, .slice B6 x.f6.length d6] (0, 0) _ HX11.out Try.underlying40 rfl size_Tm ?_))
      refine (HH.out x HM.out w11 _ (below_step HBR.out HB11.out) (kTm.K_below HB11.out HKx.out)).mono ?_
      rintro e w12 ⟨rfl, hb12⟩
      have HX1112 := Aside0.mk (blk_below HX11.out hb12)
      have HB12 := Aside0.mk (below_step HB11.out hb12)
      clear hb12
      go_wp2_with ((with_reducible refine gate_dst (N := 34) rfl ?_); refine wpList_load_row rfl 40 _ rfl g11 rfl 40 #[.int .i64 x.f0, .string x.f1, .int .i64 x.f2, .string x.f3, .slice B4 x.f4.length d4, .slice B5 x.f5.length d5, .slice B6 x.f6.length d6] (0, 0) _ HX1112.out Try.underlying40 rfl size_Tm ?_)
      refine (HHC.out x HM.out w12 _ (below_step HBR.out HB12.out) (kTm.K_below HB12.out HKx.out)).mono ?_
      rintro e w13 ⟨hb13, rfl⟩
      have HB13 := Aside0.mk (below_step BW.out (below_step HB12.out hb13))
      clear hb13
      unfold truS
      go_wp2
      go_roundg (l.length - (k + 1))
      case measure => omega
      case rel => exact ⟨k + 1, by omega, Nat.le_refl _, by go_num, rfl, rfl, HB13⟩
    · go_wp2
      go_ret2
      exact ⟨rfl, HBR.out⟩
end Go.Proofs.Ytiokmnabkccpcaa.Kit
