/- The law's known: its closure, and that it is true. -/
import Derived.Test.YtiokmnabkccpcaaDA
set_option linter.unusedVariables false
set_option linter.unusedSimpArgs false
namespace Go.Proofs.Ytiokmnabkccpcaa.Kit
open Go.RowKit Go.Proofs.YtiokmnabkccpcaaW.PrintWords Go.Proofs.YtiokmnabkccpcaaW.PrintLast Go.Proofs.YtiokmnabkccpcaaW.PrintMore

def GivesAp (w : World) (s : ByteArray) : Ending → World → Prop := fun e w' => ∃ A c, e = .returned (.agg #[.int .i64 17, .string fS, .int .i64 0, .string eS, .slice A 1 c, .slice none 0 0, .slice none 0 0]) ∧ kTm.K w' (apT s) [.int .i64 17, .string fS, .int .i64 0, .string eS, .slice A 1 c, .slice none 0 0, .slice none 0 0] ∧ Below w.heap.size w w'
set_option maxHeartbeats 4000000 in
set_option maxRecDepth 100000 in
theorem known1_calls (s : ByteArray) (w : World) : Calls Try.prog 7 #[.string s] w (GivesAp w s) := by
  go_enter Try.func7, Try.ntmps7
  go_wp2
  obtain ⟨g1, hg1⟩ : ∃ g1, g1 = w.heap.size := ⟨_, rfl⟩
  obtain ⟨g2, hg2⟩ : ∃ g2, g2 = w.heap.size + 1 := ⟨_, rfl⟩
  rw [← hg2, ← hg1]
  obtain ⟨w1, hw1⟩ : ∃ w1, w1 = w.alloc (.cells #[.int .i64 17, .string fS, .int .i64 0, .string eS, .slice (some ⟨g2, 0, none⟩) 1 1, .slice none 0 0, .slice none 0 0] 40) := ⟨_, rfl⟩
  obtain ⟨w2, hw2⟩ : ∃ w2, w2 = w1.alloc (.cells #[.int .i64 1, .string eS, .int .i64 0, .string s, .slice none 0 0, .slice none 0 0, .slice none 0 0] 40) := ⟨_, rfl⟩
  have hb1 : Below w.heap.size w w1 := by rw [hw1]; exact (Below.refl _ _).alloc (Nat.le_refl _) _
  have hb2 : Below w1.heap.size w1 w2 := by rw [hw2]; exact (Below.refl _ _).alloc (Nat.le_refl _) _
  have hx1 : w2.heap[g1]? = some (.cells #[.int .i64 17, .string fS, .int .i64 0, .string eS, .slice (some ⟨g2, 0, none⟩) 1 1, .slice none 0 0, .slice none 0 0] 40 (0, 0)) := blk_below (by rw [hw1, hg1]; exact blk_new _ _) hb2
  have hx2 : w2.heap[g2]? = some (.cells #[.int .i64 1, .string eS, .int .i64 0, .string s, .slice none 0 0, .slice none 0 0, .slice none 0 0] 40 (0, 0)) := by
    rw [hw2, hg2, show w.heap.size + 1 = w1.heap.size from by rw [hw1]; simp]
    exact blk_new _ _
  have hN : kTm.K w2 (numT s) (#[.int .i64 1, .string eS, .int .i64 0, .string s, .slice none 0 0, .slice none 0 0, .slice none 0 0] : Array Value).toList := kTm_mk w2 (numT s) (Nat.le_refl _) (Kd.C_nil _ _) (Nat.le_refl _) (Kd.C_nil _ _) (Nat.le_refl _) (Kd.C_nil _ _)
  have hA : kTm.K w2 (apT s) [.int .i64 17, .string fS, .int .i64 0, .string eS, .slice (some ⟨g2, 0, none⟩) 1 1, .slice none 0 0, .slice none 0 0] := kTm_mk w2 (apT s) (Nat.le_refl _) (lit_C1 hx2 (numT s) hN) (Nat.le_refl _) (Kd.C_nil _ _) (Nat.le_refl _) (Kd.C_nil _ _)
  have hfin := below_step hb1 hb2
  show bodyPost _ _ _ _ _ ((w.alloc (.cells #[.int .i64 17, .string fS, .int .i64 0, .string eS, .slice (some ⟨g2, 0, none⟩) 1 1, .slice none 0 0, .slice none 0 0] 40)).alloc (.cells #[.int .i64 1, .string eS, .int .i64 0, .string s, .slice none 0 0, .slice none 0 0, .slice none 0 0] 40))
  rw [← hw1, ← hw2]
  refine bodyPost_ret (results_cell_row rfl _ _ g1 40 _ (0, 0) _ rfl hx1 Try.underlying40 rfl size_Tm) rfl ?_
  exact ⟨_, _, rfl, hA, hfin⟩

def oneS : ByteArray := ⟨#[49]⟩
def twoS : ByteArray := ⟨#[50]⟩
def tbF : Tb := ⟨fS, [⟨[oneS], ⟨#[53]⟩⟩], ⟨#[48]⟩⟩
theorem parse_one : parseS oneS = some 1 := by rfl
theorem parse_two : parseS twoS = some 2 := by rfl
theorem dec_one : decS 1 = oneS := by rfl
theorem dec_two : decS 2 = twoS := by rfl
theorem tbF_idx : idxOf (fun x : Tb => x.f0.toList == fS.toList) [tbF] = 0 := idxOf_hit (fun x : Tb => x.f0.toList == fS.toList) [tbF] tbF 0 (by decide) (by show (fS.toList == fS.toList) = true; simp) (fun j hj => absurd hj (Nat.not_lt_zero _))
theorem lists_ne {a b : ByteArray} (h : a.data.toList ≠ b.data.toList) : decide (listsOf [a] = listsOf [b]) = false := decide_eq_false fun e => h (by
  have e1 : a.toList = b.toList := (List.cons.inj e).1
  rw [Go.ByteArray.toList_eq a, Go.ByteArray.toList_eq b] at e1
  exact e1)
theorem fAt_one : fAt [tbF] oneS = some 5 := by
  unfold fAt
  rw [tbF_idx, if_neg (by decide), parse_one]
  show parseS (rowS [⟨[oneS], ⟨#[53]⟩⟩] [decS 1] ⟨#[48]⟩) = some 5
  rw [dec_one]
  have : rowS [⟨[oneS], ⟨#[53]⟩⟩] [oneS] ⟨#[48]⟩ = ⟨#[53]⟩ := rowS_hit [⟨[oneS], ⟨#[53]⟩⟩] [oneS] ⟨#[48]⟩ 0 (by decide) (fun q hq => absurd hq (Nat.not_lt_zero _)) (decide_eq_true rfl)
  rw [this]
  rfl
theorem fAt_two : fAt [tbF] twoS = some 0 := by
  unfold fAt
  rw [tbF_idx, if_neg (by decide), parse_two]
  show parseS (rowS [⟨[oneS], ⟨#[53]⟩⟩] [decS 2] ⟨#[48]⟩) = some 0
  rw [dec_two]
  have : rowS [⟨[oneS], ⟨#[53]⟩⟩] [twoS] ⟨#[48]⟩ = ⟨#[48]⟩ := rowS_miss [⟨[oneS], ⟨#[53]⟩⟩] [twoS] ⟨#[48]⟩ (fun q hq => by
    have : q = 0 := by have : q < 1 := hq; omega
    subst this
    exact lists_ne (by decide))
  rw [this]
  rfl
theorem ltAt_known : ltAt [tbF] twoS oneS = some true := by unfold ltAt; rw [fAt_one, fAt_two]; rfl
theorem fAt_none (s : ByteArray) : fAt [] s = none := by
  unfold fAt
  rw [show idxOf (fun x : Tb => x.f0.toList == fS.toList) [] = -1 from idxOf_miss _ _ tbF (fun j hj => absurd hj (Nat.not_lt_zero _)), if_pos (by decide)]
theorem ltAt_none (a b : ByteArray) : ltAt [] a b = none := by unfold ltAt; rw [fAt_none]
theorem small_F : smallT [tbF] := fun b hb => by
  rw [List.mem_singleton.1 hb]
  exact ⟨by show 1 ≤ bulkM; decide, fun r hr => by
    have hr' : r ∈ [(⟨[oneS], ⟨#[53]⟩⟩ : Rw)] := hr
    rw [List.mem_singleton.1 hr']
    show 1 ≤ bulkM
    decide⟩

set_option maxHeartbeats 8000000 in
set_option maxRecDepth 100000 in
theorem known_calls (w : World) : Calls Try.prog 4 #[] w (Gives w (.bool true)) := by
  go_enter Try.func4, Try.ntmps4
  go_wp2_with fail
  obtain ⟨g11, hg11⟩ : ∃ g11, g11 = w.heap.size := ⟨_, rfl⟩
  obtain ⟨g13, hg13⟩ : ∃ g13, g13 = w.heap.size + 1 := ⟨_, rfl⟩
  obtain ⟨g14, hg14⟩ : ∃ g14, g14 = w.heap.size + 1 + 1 := ⟨_, rfl⟩
  obtain ⟨g16, hg16⟩ : ∃ g16, g16 = w.heap.size + 1 + 1 + 1 := ⟨_, rfl⟩
  obtain ⟨g18, hg18⟩ : ∃ g18, g18 = w.heap.size + 1 + 1 + 1 + 1 := ⟨_, rfl⟩
  obtain ⟨g2, hg2⟩ : ∃ g2, g2 = w.heap.size + 1 + 1 + 1 + 1 + 1 := ⟨_, rfl⟩
  rw [← hg2, ← hg18, ← hg16, ← hg14, ← hg13, ← hg11]
  obtain ⟨w11, hw11⟩ : ∃ w11, w11 = w.alloc (.cells #[.int .i64 1] 3) := ⟨_, rfl⟩
  rw [← hw11]
  have hb11 : Below w.heap.size w w11 := by rw [hw11]; exact (Below.refl _ _).alloc (Nat.le_refl _) _
  obtain ⟨w13, hw13⟩ : ∃ w13, w13 = w11.alloc (.cells #[.string ⟨#[102]⟩, .slice (some ⟨g11, 0, none⟩) 1 1, .int .i64 1] 35) := ⟨_, rfl⟩
  rw [← hw13]
  have hb13 : Below w11.heap.size w11 w13 := by rw [hw13]; exact (Below.refl _ _).alloc (Nat.le_refl _) _
  obtain ⟨w14, hw14⟩ : ∃ w14, w14 = w13.alloc (.cells #[.string ⟨#[49]⟩] 9) := ⟨_, rfl⟩
  rw [← hw14]
  have hb14 : Below w13.heap.size w13 w14 := by rw [hw14]; exact (Below.refl _ _).alloc (Nat.le_refl _) _
  obtain ⟨w16, hw16⟩ : ∃ w16, w16 = w14.alloc (.cells #[.slice (some ⟨g14, 0, none⟩) 1 1, .string ⟨#[53]⟩] 32) := ⟨_, rfl⟩
  rw [← hw16]
  have hb16 : Below w14.heap.size w14 w16 := by rw [hw16]; exact (Below.refl _ _).alloc (Nat.le_refl _) _
  obtain ⟨w18, hw18⟩ : ∃ w18, w18 = w16.alloc (.cells #[.string ⟨#[102]⟩, .slice (some ⟨g16, 0, none⟩) 1 1, .string ⟨#[48]⟩] 28) := ⟨_, rfl⟩
  rw [← hw18]
  have hb18 : Below w16.heap.size w16 w18 := by rw [hw18]; exact (Below.refl _ _).alloc (Nat.le_refl _) _
  obtain ⟨w2, hw2⟩ : ∃ w2, w2 = w18.alloc (.cells #[.slice (some ⟨g18, 0, none⟩) 1 1, .int .i64 0] 46) := ⟨_, rfl⟩
  rw [← hw2]
  have hb2 : Below w18.heap.size w18 w2 := by rw [hw2]; exact (Below.refl _ _).alloc (Nat.le_refl _) _
  have hz11 : g11 = w.heap.size := by rw [hg11]
  have hx11 : w11.heap[g11]? = some (.cells #[.int .i64 1] 3 (0, 0)) := by rw [hw11, hz11]; exact blk_new _ _
  have hz13 : g13 = w11.heap.size := by rw [hg13]; simp [hw11]
  have hx13 : w13.heap[g13]? = some (.cells #[.string ⟨#[102]⟩, .slice (some ⟨g11, 0, none⟩) 1 1, .int .i64 1] 35 (0, 0)) := by rw [hw13, hz13]; exact blk_new _ _
  have hz14 : g14 = w13.heap.size := by rw [hg14]; simp [hw11, hw13]
  have hx14 : w14.heap[g14]? = some (.cells #[.string ⟨#[49]⟩] 9 (0, 0)) := by rw [hw14, hz14]; exact blk_new _ _
  have hz16 : g16 = w14.heap.size := by rw [hg16]; simp [hw11, hw13, hw14]
  have hx16 : w16.heap[g16]? = some (.cells #[.slice (some ⟨g14, 0, none⟩) 1 1, .string ⟨#[53]⟩] 32 (0, 0)) := by rw [hw16, hz16]; exact blk_new _ _
  have hz18 : g18 = w16.heap.size := by rw [hg18]; simp [hw11, hw13, hw14, hw16]
  have hx18 : w18.heap[g18]? = some (.cells #[.string ⟨#[102]⟩, .slice (some ⟨g16, 0, none⟩) 1 1, .string ⟨#[48]⟩] 28 (0, 0)) := by rw [hw18, hz18]; exact blk_new _ _
  have hz2 : g2 = w18.heap.size := by rw [hg2]; simp [hw11, hw13, hw14, hw16, hw18]
  have hx2 : w2.heap[g2]? = some (.cells #[.slice (some ⟨g18, 0, none⟩) 1 1, .int .i64 0] 46 (0, 0)) := by rw [hw2, hz2]; exact blk_new _ _
  have HX11 := Aside0.mk (blk_below (blk_below (blk_below (blk_below (blk_below hx11 hb13) hb14) hb16) hb18) hb2)
  have HX13 := Aside0.mk (blk_below (blk_below (blk_below (blk_below hx13 hb14) hb16) hb18) hb2)
  have HX14 := Aside0.mk (blk_below (blk_below (blk_below hx14 hb16) hb18) hb2)
  have HX16 := Aside0.mk (blk_below (blk_below hx16 hb18) hb2)
  have HX18 := Aside0.mk (blk_below hx18 hb2)
  have HX2 := Aside0.mk hx2
  have HB2 := Aside0.mk (below_step (below_step (below_step (below_step (below_step hb11 hb13) hb14) hb16) hb18) hb2)
  have HG11 := Aside0.mk hg11
  have HG13 := Aside0.mk hg13
  have HG14 := Aside0.mk hg14
  have HG16 := Aside0.mk hg16
  have HG18 := Aside0.mk hg18
  have HG2 := Aside0.mk hg2
  clear hg2 hw2 hb2 hz2 hx2 hg18 hw18 hb18 hz18 hx18 hg16 hw16 hb16 hz16 hx16 hg14 hw14 hb14 hz14 hx14 hg13 hw13 hb13 hz13 hx13 hg11 hw11 hb11 hz11 hx11
  have hT : kTb.C w2 (some ⟨g18, 0, none⟩) 1 [tbF] := lit_C1 HX18.out tbF (kTb_mk w2 tbF (Nat.le_refl _) (lit_C1 HX16.out (⟨[oneS], ⟨#[53]⟩⟩ : Rw) (kRw_mk w2 ⟨[oneS], ⟨#[53]⟩⟩ (Nat.le_refl _) (lit_C1 HX14.out oneS rfl))))
  have hS : kSg.C w2 (some ⟨g13, 0, none⟩) 1 sigF := lit_C1 HX13.out (⟨fS, [1], 1⟩ : Sg) (kSg_mk w2 ⟨fS, [1], 1⟩ (Nat.le_refl _) (lit_C1 HX11.out (1 : Int) rfl))
  have HT := Aside0.mk hT
  have HS := Aside0.mk hS
  clear hT hS
  refine (known1_calls ⟨#[50]⟩ w2).mono ?_
  rintro e w21 ⟨A21, c21, rfl, hK21, hb21⟩
  have HK21 := Aside0.mk hK21
  have HB21 := Aside0.mk hb21
  clear hK21 hb21
  go_wp2_with fail
  refine (known1_calls ⟨#[49]⟩ w21).mono ?_
  rintro e w23 ⟨A23, c23, rfl, hK23, hb23⟩
  have HK23 := Aside0.mk hK23
  have HK21 := Aside0.mk (kTm.K_below hb23 HK21.out)
  have HB23 := Aside0.mk (below_step HB21.out hb23)
  clear hK23 hb23
  go_wp2_with (first
    | ((with_reducible refine gate_dst (N := 28) rfl ?_); (obtain ⟨g24, hg24⟩ : ∃ g24, g24 = w23.heap.size := ⟨_, rfl⟩); (obtain ⟨g4, hg4⟩ : ∃ g4, g4 = w23.heap.size + 1 := ⟨_, rfl⟩); rw [← hg4]; rw [← hg24]; (obtain ⟨w24, hw24⟩ : ∃ w24, w24 = w23.alloc (.cells #[.int .i64 17, .string fS, .int .i64 0, .string eS, .slice A21 1 c21, .slice none 0 0, .slice none 0 0, .int .i64 17, .string fS, .int .i64 0, .string eS, .slice A23 1 c23, .slice none 0 0, .slice none 0 0] 40) := ⟨_, rfl⟩); (obtain ⟨w4, hw4⟩ : ∃ w4, w4 = w24.alloc (.cells #[.int .i64 11, .string ⟨#[]⟩, .int .i64 0, .string ⟨#[]⟩, .slice (some ⟨g24, 0, none⟩) 2 2, .slice none 0 0, .slice none 0 0] 40) := ⟨_, rfl⟩); rw [← hw24]; rw [← hw4]; (have hb24 : Below w23.heap.size w23 w24 := (by rw [hw24]; exact (Below.refl _ _).alloc (Nat.le_refl _) _)); (have hb4 : Below w24.heap.size w24 w4 := (by rw [hw4]; exact (Below.refl _ _).alloc (Nat.le_refl _) _)); (have HX24 := Aside0.mk (show w24.heap[g24]? = some (.cells #[.int .i64 17, .string fS, .int .i64 0, .string eS, .slice A21 1 c21, .slice none 0 0, .slice none 0 0, .int .i64 17, .string fS, .int .i64 0, .string eS, .slice A23 1 c23, .slice none 0 0, .slice none 0 0] 40 (0, 0)) from (by rw [hw24, hg24]; exact blk_new _ _))); (have HX4 := Aside0.mk (show w4.heap[g4]? = some (.cells #[.int .i64 11, .string ⟨#[]⟩, .int .i64 0, .string ⟨#[]⟩, .slice (some ⟨g24, 0, none⟩) 2 2, .slice none 0 0, .slice none 0 0] 40 (0, 0)) from (by rw [hw4, hg4, show w23.heap.size + 1 = w24.heap.size from (by rw [hw24]; simp)]; exact blk_new _ _))); have HG24 := Aside0.mk hg24; have HG4 := Aside0.mk hg4; clear hw24 hw4 hg24 hg4; have HX24' := Aside0.mk (blk_below HX24.out hb4); have HB4 := Aside0.mk (below_step HB23.out (below_step hb24 hb4)); have HX2' := Aside0.mk (blk_below HX2.out HB4.out); have HK21' := Aside0.mk (kTm.K_below (below_step hb24 hb4) HK21.out); have HK23' := Aside0.mk (kTm.K_below (below_step hb24 hb4) HK23.out); clear hb24 hb4)
    | ((with_reducible refine gate_dst (N := 28) rfl ?_); refine wpList_load_row rfl 46 _ rfl g2 rfl 46 #[.slice (some ⟨g18, 0, none⟩) 1 1, .int .i64 0] (0, 0) _ HX2'.out Try.underlying46 rfl size_Md ?_)
    | ((with_reducible refine gate_dst (N := 29) rfl ?_); refine wpList_load_row rfl 40 _ rfl g4 rfl 40 #[.int .i64 11, .string ⟨#[]⟩, .int .i64 0, .string ⟨#[]⟩, .slice (some ⟨g24, 0, none⟩) 2 2, .slice none 0 0, .slice none 0 0] (0, 0) _ HX4.out Try.underlying40 rfl size_Tm ?_))
  have HKL := Aside0.mk (show kTm.K w4 (ltT twoS oneS) [.int .i64 11, .string ⟨#[]⟩, .int .i64 0, .string ⟨#[]⟩, .slice (some ⟨g24, 0, none⟩) 2 2, .slice none 0 0, .slice none 0 0] from kTm_mk w4 (ltT twoS oneS) (Nat.le_refl _) (lit_C2 HX24'.out (apT twoS) (apT oneS) _ _ rfl HK21'.out HK23'.out) (Nat.le_refl _) (Kd.C_nil _ _) (Nat.le_refl _) (Kd.C_nil _ _))
  have HV := Aside0.mk (fun (W : World) (hb : Below w4.heap.size w4 W) => Value_lt twoS oneS (by decide) (by decide) rfl rfl [tbF] small_F (.inr (by rw [fAt_one]; rfl)) W _ (kTm.K_below hb HKL.out) (some ⟨g13, 0, none⟩) (some ⟨g18, 0, none⟩) 1 1 0 (Nat.le_refl _) (Kd.C_below HS.out (below_step HB4.out hb)) (Nat.le_refl _) (Kd.C_below HT.out (below_step HB4.out hb)))
  rw [ltAt_known] at HV
  have HV' : Aside0 (∀ (W : World), Below w4.heap.size w4 W → Calls Try.prog 6 #[.slice (some ⟨g13, 0, none⟩) 1 1, .agg #[.slice (some ⟨g18, 0, none⟩) 1 1, .int .i64 0], .agg #[.int .i64 11, .string ⟨#[]⟩, .int .i64 0, .string ⟨#[]⟩, .slice (some ⟨g24, 0, none⟩) 2 2, .slice none 0 0, .slice none 0 0]] W (GivesVal W ⟨#[116, 114, 117, 101]⟩ 0)) := ⟨fun W hb => HV.out W hb⟩
  refine (HV'.out w4 (Below.refl _ _)).mono ?_
  rintro e w30 ⟨rfl, hb30⟩
  have HX430 := Aside0.mk (blk_below HX4.out hb30)
  have HB30 := Aside0.mk hb30
  clear hb30
  go_wp2_with ((with_reducible refine gate_dst (N := 36) rfl ?_); refine wpList_load_row rfl 40 _ rfl g4 rfl 40 #[.int .i64 11, .string ⟨#[]⟩, .int .i64 0, .string ⟨#[]⟩, .slice (some ⟨g24, 0, none⟩) 2 2, .slice none 0 0, .slice none 0 0] (0, 0) _ HX430.out Try.underlying40 rfl size_Tm ?_)
  have HN := Aside0.mk (Value_lt twoS oneS (by decide) (by decide) rfl rfl [] (fun b hb => by cases hb) (.inl (fAt_none _)) w30 _ (kTm.K_below HB30.out HKL.out) (some ⟨g13, 0, none⟩) none 1 0 0 (Nat.le_refl _) (Kd.C_below HS.out (below_step HB4.out HB30.out)) (Nat.le_refl _) (Kd.C_nil _ _))
  rw [ltAt_none] at HN
  have HN' : Aside0 (Calls Try.prog 6 #[.slice (some ⟨g13, 0, none⟩) 1 1, .agg #[.slice none 0 0, .int .i64 0], .agg #[.int .i64 11, .string ⟨#[]⟩, .int .i64 0, .string ⟨#[]⟩, .slice (some ⟨g24, 0, none⟩) 2 2, .slice none 0 0, .slice none 0 0]] w30 (GivesVal w30 ⟨#[]⟩ 40)) := ⟨HN.out⟩
  refine HN'.out.mono ?_
  rintro e w37 ⟨rfl, hb37⟩
  have HX437 := Aside0.mk (blk_below HX430.out hb37)
  have HB37 := Aside0.mk (below_step HB30.out hb37)
  have HX237 := Aside0.mk (blk_below HX2'.out HB37.out)
  clear hb37
  go_wp2_with (first
    | ((with_reducible refine gate_dst (N := 42) rfl ?_); refine wpList_load_row rfl 46 _ rfl g2 rfl 46 #[.slice (some ⟨g18, 0, none⟩) 1 1, .int .i64 0] (0, 0) _ HX237.out Try.underlying46 rfl size_Md ?_)
    | ((with_reducible refine gate_dst (N := 43) rfl ?_); refine wpList_load_row rfl 40 _ rfl g4 rfl 40 #[.int .i64 11, .string ⟨#[]⟩, .int .i64 0, .string ⟨#[]⟩, .slice (some ⟨g24, 0, none⟩) 2 2, .slice none 0 0, .slice none 0 0] (0, 0) _ HX437.out Try.underlying40 rfl size_Tm ?_))
  obtain ⟨g45, hg45⟩ : ∃ g45, g45 = w37.heap.size := ⟨_, rfl⟩
  rw [← hg45]
  obtain ⟨w45, hw45⟩ : ∃ w45, w45 = w37.alloc (.cells #[.int .i64 11, .string ⟨#[]⟩, .int .i64 0, .string ⟨#[]⟩, .slice (some ⟨g24, 0, none⟩) 2 2, .slice none 0 0, .slice none 0 0, .int .i64 2, .string ⟨#[]⟩, .int .i64 0, .string ⟨#[]⟩, .slice none 0 0, .slice none 0 0, .slice none 0 0] 40) := ⟨_, rfl⟩
  rw [← hw45]
  have hb45 : Below w37.heap.size w37 w45 := by rw [hw45]; exact (Below.refl _ _).alloc (Nat.le_refl _) _
  have hz45 : g45 = w37.heap.size := by rw [hg45]
  have hx45 : w45.heap[g45]? = some (.cells #[.int .i64 11, .string ⟨#[]⟩, .int .i64 0, .string ⟨#[]⟩, .slice (some ⟨g24, 0, none⟩) 2 2, .slice none 0 0, .slice none 0 0, .int .i64 2, .string ⟨#[]⟩, .int .i64 0, .string ⟨#[]⟩, .slice none 0 0, .slice none 0 0, .slice none 0 0] 40 (0, 0)) := by rw [hw45, hz45]; exact blk_new _ _
  have HX45 := Aside0.mk hx45
  have HB45 := Aside0.mk hb45
  have HG45 := Aside0.mk hg45
  clear hg45 hw45 hb45 hz45 hx45
  have hb45 := below_step HB37.out HB45.out
  have HKT := Aside0.mk (show kTm.K w45 truT [.int .i64 2, .string ⟨#[]⟩, .int .i64 0, .string ⟨#[]⟩, .slice none 0 0, .slice none 0 0, .slice none 0 0] from kTm_mk w45 truT (Nat.le_refl _) (Kd.C_nil _ _) (Nat.le_refl _) (Kd.C_nil _ _) (Nat.le_refl _) (Kd.C_nil _ _))
  have HC2 := Aside0.mk (show kTm.C w45 (some ⟨g45, 0, none⟩) [ltT twoS oneS, truT].length [ltT twoS oneS, truT] from lit_C2 HX45.out (ltT twoS oneS) truT _ _ rfl (kTm.K_below hb45 HKL.out) HKT.out)
  have HB445 := Aside0.mk hb45
  clear hb45
  have HH := Aside0.mk (Holds_all [ltT twoS oneS, truT] w45 (some ⟨g45, 0, none⟩) 2 (Nat.le_refl _) HC2.out (.slice (some ⟨g13, 0, none⟩) 1 1) (.slice (some ⟨g18, 0, none⟩) 1 1) (.int .i64 0) rfl rfl rfl
    (fun x hx W cs' hb hK => by
      have hb' := below_step HB445.out hb
      rcases List.mem_cons.1 hx with e | hx
      · rw [e] at hK
        have h := Value_lt twoS oneS (by decide) (by decide) rfl rfl [tbF] small_F (.inr (by rw [fAt_one]; rfl)) W _ hK (some ⟨g13, 0, none⟩) (some ⟨g18, 0, none⟩) 1 1 0 (Nat.le_refl _) (Kd.C_below HS.out (below_step HB4.out hb')) (Nat.le_refl _) (Kd.C_below HT.out (below_step HB4.out hb'))
        rw [ltAt_known] at h
        exact h
      · rw [List.mem_singleton.1 hx] at hK
        exact Value_true [tbF] W cs' hK (some ⟨g13, 0, none⟩) (some ⟨g18, 0, none⟩) 1 1 0 (Nat.le_refl _) (Kd.C_below HS.out (below_step HB4.out hb')))
    (fun x hx W cs' hb hK => by
      have hb' := below_step HB445.out hb
      rcases List.mem_cons.1 hx with e | hx
      · rw [e] at hK
        have h := Check_calls (ltT twoS oneS) (plain_lt _ _) (fine_lt (by decide) (by decide)) W cs' hK sigF (some ⟨g13, 0, none⟩) 1 (Nat.le_refl _) (Kd.C_below HS.out (below_step HB4.out hb'))
        rw [checkS_lt rfl rfl] at h
        exact h
      · rw [List.mem_singleton.1 hx] at hK
        have h := Check_calls truT plain_true fine_true W cs' hK sigF (some ⟨g13, 0, none⟩) 1 (Nat.le_refl _) (Kd.C_below HS.out (below_step HB4.out hb'))
        rw [checkS_true] at h
        exact h))
  refine HH.out.mono ?_
  rintro e w50 ⟨rfl, hb50⟩
  have HB50 := Aside0.mk (below_step HB2.out (below_step HB4.out (below_step HB445.out hb50)))
  clear hb50
  go_wp2
  go_ret
  exact ⟨rfl, HB50.out⟩
end Go.Proofs.Ytiokmnabkccpcaa.Kit
