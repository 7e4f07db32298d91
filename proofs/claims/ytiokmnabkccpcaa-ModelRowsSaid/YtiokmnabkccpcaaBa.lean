/- Numbers: num.Parse at every text. -/
import Derived.Test.YtiokmnabkccpcaaB9
set_option linter.unusedVariables false
set_option linter.unusedSimpArgs false
namespace Go.Proofs.Ytiokmnabkccpcaa.Kit
open Go.RowKit Go.Proofs.YtiokmnabkccpcaaW.PrintWords Go.Proofs.YtiokmnabkccpcaaW.PrintLast Go.Proofs.YtiokmnabkccpcaaW.PrintMore

set_option maxHeartbeats 4000000 in
set_option maxRecDepth 100000 in
theorem parse_calls (s : ByteArray) (w : World) (hs : s.size ≤ 1099511627776) :
    Calls Try.prog 18 #[.string s] w (GivesNumOk w (parseS s)) := by
  by_cases h0 : s.size = 0
  · have he : s.toList.isEmpty = true := by rw [toList_empty]; simpa using h0
    have hneg : negS s = false := by unfold negS; simp [bt, h0]
    have HF := Aside0.mk (show parseS s = none from by unfold parseS rightS restS; rw [hneg]; simp [h0])
    clear hneg
    go_enter Try.func18, Try.ntmps18
    go_wp2_with (first | ((with_reducible refine gate_dst (N := 2) rfl ?_); refine box_event rfl (N := 2) rfl (cs := #[.slice none 0 0, .bool false]) (t := 75) ?hr ?_; (case hr => first | (go_simp; done) | (go_simp; rfl)); intro g2 hg2 w2 hbox2 hb2; have HG2 := Aside0.mk hg2; have HX2 := Aside0.mk hbox2; clear hg2 hbox2) | ((with_reducible refine gate_store (p := 2) rfl ?_); refine store_row_event rfl rfl 75 _ _ rfl g2 #[.slice none 0 0, .bool false] rfl rfl 75 _ HX2.out size_NI rfl rfl ?_; intro w5 hx5 hw5; have HX5 := Aside0.mk hx5; have HW5 := Aside0.mk hw5; clear hx5 hw5))
    refine bodyPost_ret (results_cell_tmp_row rfl _ _ g2 75 _ (0, 0) _ rfl HX5.out Try.underlying75 rfl size_NI) rfl ?_
    exact ⟨none, 0, ⟨[], false⟩, by rw [HF.out]; rfl, by rw [HF.out]; exact NumAt.zero _, HW5.out.below _ _ (by have := HG2.out; omega) hb2⟩
  have hp : 0 < s.size := by omega
  have hb : bt s 0 = ((s[0]'hp).toNat : Int) := by simp [bt, hp]
  have he : s.toList.isEmpty = false := by rw [toList_empty]; exact decide_eq_false h0
  have he' : ¬ s.toList = [] := by intro h; rw [h] at he; cases he
  cases hneg : negS s with
  | false =>
    by_cases h48 : bt s 0 = 48
    · by_cases h1 : s.size = 1
      · exact parse_zero s w hs hp hneg h48 h1
      · have hr : restS s = s := by unfold restS; rw [hneg]; rfl
        have HF := Aside0.mk (show parseS s = none from by unfold parseS rightS; rw [hr, decide_eq_true h48, decide_eq_true (show 1 < s.size by omega)]; simp)
        have hn' : (((s[0]'hp).toNat : Int) == 45) = false := by rw [← hb, h48]; rfl
        have h48' : (((s[0]'hp).toNat : Int) == 48) = true := by rw [← hb, h48]; rfl
        have h1' : decide ((1 : Int) < (s.size : Int)) = true := decide_eq_true (by omega)
        have h1'' : 1 < s.size := by omega
        clear hneg h48 hr hb h0 h1
        go_enter Try.func18, Try.ntmps18
        go_wp2_with (first | ((with_reducible refine gate_dst (N := 2) rfl ?_); refine box_event rfl (N := 2) rfl (cs := #[.slice none 0 0, .bool false]) (t := 75) ?hr ?_; (case hr => first | (go_simp; done) | (go_simp; rfl)); intro g2 hg2 w2 hbox2 hb2; have HG2 := Aside0.mk hg2; have HX2 := Aside0.mk hbox2; clear hg2 hbox2) | ((with_reducible refine gate_store (p := 2) rfl ?_); refine store_row_event rfl rfl 75 _ _ rfl g2 #[.slice none 0 0, .bool false] rfl rfl 75 _ HX2.out size_NI rfl rfl ?_; intro w5 hx5 hw5; have HX5 := Aside0.mk hx5; have HW5 := Aside0.mk hw5; clear hx5 hw5))
        refine bodyPost_ret (results_cell_tmp_row rfl _ _ g2 75 _ (0, 0) _ rfl HX5.out Try.underlying75 rfl size_NI) rfl ?_
        exact ⟨none, 0, ⟨[], false⟩, by rw [HF.out]; rfl, by rw [HF.out]; exact NumAt.zero _, HW5.out.below _ _ (by have := HG2.out; omega) hb2⟩
    · exact parse_pos s w hs hp hneg h48
  | true =>
    have hr : restS s = s.extract 1 s.size := by unfold restS; rw [hneg]; rfl
    have hsz : (s.extract 1 s.size).size = s.size - 1 := by simp
    have hn' : (((s[0]'hp).toNat : Int) == 45) = true := by
      have : bt s 0 = 45 := by simpa [negS] using hneg
      rw [← hb, this]; rfl
    by_cases hp2 : 0 < (s.extract 1 s.size).size
    · by_cases h48 : bt (s.extract 1 s.size) 0 = 48
      · have HF := Aside0.mk (show parseS s = none from by unfold parseS rightS; rw [hr, decide_eq_true h48, hneg]; simp)
        obtain ⟨r, hrr⟩ : ∃ r, r = s.extract 1 s.size := ⟨_, rfl⟩
        rw [← hrr] at hr hsz hp2 h48
        have hb2 : bt r 0 = ((r[0]'hp2).toNat : Int) := by simp [bt, hp2]
        have h48' : (((r[0]'hp2).toNat : Int) == 48) = true := by rw [← hb2, h48]; rfl
        have her : r.toList.isEmpty = false := by rw [toList_empty]; exact decide_eq_false (by omega)
        have her' : ¬ r.toList = [] := by intro h; rw [h] at her; cases her
        have hrx := hrr.symm
        by_cases h1 : 1 < r.size
        · have h1' : decide ((1 : Int) < (r.size : Int)) = true := decide_eq_true (by omega)
          clear hneg h48 hr hb hb2 hrr hsz h0
          go_enter Try.func18, Try.ntmps18
          go_wp2_with (first | ((with_reducible refine gate_dst (N := 2) rfl ?_); refine box_event rfl (N := 2) rfl (cs := #[.slice none 0 0, .bool false]) (t := 75) ?hr ?_; (case hr => first | (go_simp; done) | (go_simp; rfl)); intro g2 hg2 w2 hbox2 hb2; have HG2 := Aside0.mk hg2; have HX2 := Aside0.mk hbox2; clear hg2 hbox2) | ((with_reducible refine gate_store (p := 2) rfl ?_); refine store_row_event rfl rfl 75 _ _ rfl g2 #[.slice none 0 0, .bool false] rfl rfl 75 _ HX2.out size_NI rfl rfl ?_; intro w5 hx5 hw5; have HX5 := Aside0.mk hx5; have HW5 := Aside0.mk hw5; clear hx5 hw5))
          refine bodyPost_ret (results_cell_tmp_row rfl _ _ g2 75 _ (0, 0) _ rfl HX5.out Try.underlying75 rfl size_NI) rfl ?_
          exact ⟨none, 0, ⟨[], false⟩, by rw [HF.out]; rfl, by rw [HF.out]; exact NumAt.zero _, HW5.out.below _ _ (by have := HG2.out; omega) hb2⟩
        · have h1' : decide ((1 : Int) < (r.size : Int)) = false := decide_eq_false (by omega)
          clear hneg h48 hr hb hb2 hrr hsz h0
          go_enter Try.func18, Try.ntmps18
          go_wp2_with (first | ((with_reducible refine gate_dst (N := 2) rfl ?_); refine box_event rfl (N := 2) rfl (cs := #[.slice none 0 0, .bool false]) (t := 75) ?hr ?_; (case hr => first | (go_simp; done) | (go_simp; rfl)); intro g2 hg2 w2 hbox2 hb2; have HG2 := Aside0.mk hg2; have HX2 := Aside0.mk hbox2; clear hg2 hbox2) | ((with_reducible refine gate_store (p := 2) rfl ?_); refine store_row_event rfl rfl 75 _ _ rfl g2 #[.slice none 0 0, .bool false] rfl rfl 75 _ HX2.out size_NI rfl rfl ?_; intro w5 hx5 hw5; have HX5 := Aside0.mk hx5; have HW5 := Aside0.mk hw5; clear hx5 hw5))
          refine bodyPost_ret (results_cell_tmp_row rfl _ _ g2 75 _ (0, 0) _ rfl HX5.out Try.underlying75 rfl size_NI) rfl ?_
          exact ⟨none, 0, ⟨[], false⟩, by rw [HF.out]; rfl, by rw [HF.out]; exact NumAt.zero _, HW5.out.below _ _ (by have := HG2.out; omega) hb2⟩
      · exact parse_neg s w hs hp hneg hp2 h48
    · have HF := Aside0.mk (show parseS s = none from by
        have : (s.extract 1 s.size).size = 0 := by omega
        unfold parseS rightS; rw [hr, this]; simp)
      obtain ⟨r, hrr⟩ : ∃ r, r = s.extract 1 s.size := ⟨_, rfl⟩
      rw [← hrr] at hr hsz hp2
      have her : r.toList.isEmpty = true := by rw [toList_empty]; exact decide_eq_true (by omega)
      have hrx := hrr.symm
      clear hneg hr hb hrr hsz h0
      go_enter Try.func18, Try.ntmps18
      go_wp2_with (first | ((with_reducible refine gate_dst (N := 2) rfl ?_); refine box_event rfl (N := 2) rfl (cs := #[.slice none 0 0, .bool false]) (t := 75) ?hr ?_; (case hr => first | (go_simp; done) | (go_simp; rfl)); intro g2 hg2 w2 hbox2 hb2; have HG2 := Aside0.mk hg2; have HX2 := Aside0.mk hbox2; clear hg2 hbox2) | ((with_reducible refine gate_store (p := 2) rfl ?_); refine store_row_event rfl rfl 75 _ _ rfl g2 #[.slice none 0 0, .bool false] rfl rfl 75 _ HX2.out size_NI rfl rfl ?_; intro w5 hx5 hw5; have HX5 := Aside0.mk hx5; have HW5 := Aside0.mk hw5; clear hx5 hw5))
      refine bodyPost_ret (results_cell_tmp_row rfl _ _ g2 75 _ (0, 0) _ rfl HX5.out Try.underlying75 rfl size_NI) rfl ?_
      exact ⟨none, 0, ⟨[], false⟩, by rw [HF.out]; rfl, by rw [HF.out]; exact NumAt.zero _, HW5.out.below _ _ (by have := HG2.out; omega) hb2⟩
end Go.Proofs.Ytiokmnabkccpcaa.Kit
