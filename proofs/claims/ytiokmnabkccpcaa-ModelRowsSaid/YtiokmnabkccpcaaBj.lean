/- Terms: check and Check of every term in which no variable is bound. -/
import Derived.Test.YtiokmnabkccpcaaBi
set_option linter.unusedVariables false
set_option linter.unusedSimpArgs false
namespace Go.Proofs.Ytiokmnabkccpcaa.Kit
open Go.RowKit Go.Proofs.YtiokmnabkccpcaaW.PrintWords Go.Proofs.YtiokmnabkccpcaaW.PrintLast Go.Proofs.YtiokmnabkccpcaaW.PrintMore

theorem sizeT_pos (t : Tm) : 1 ≤ sizeT t := by have := sizeT_eq t; omega
theorem len_le_size (l : List Tm) : l.length ≤ sizeL l := by
  induction l with
  | nil => simp
  | cons x r ih => rw [sizeL]; have := sizeT_pos x; simp; omega
theorem sizeL_mem {l : List Tm} {x : Tm} (h : x ∈ l) : sizeT x ≤ sizeL l := by
  induction l with
  | nil => cases h
  | cons y r ih =>
    rw [sizeL]
    cases h with
    | head => omega
    | tail _ h => have := ih h; omega
theorem ofS_inv {sig : List Sg} {bs : List Bd} {t : Tm} {nd : Nd} (h : ofS sig bs t = .ok nd) : (t.f0 = 9 ∨ nd ≠ .eq) ∧ (t.f0 = 16 ∨ nd ≠ .ite) ∧ (t.f0 = 19 ∨ nd ≠ .bind) := by
  unfold ofS at h
  by_cases hc : t.f0 = 1
  · rw [if_pos hc] at h; injection h with h; subst h; exact ⟨by first | exact .inl hc | exact .inr (fun e => by cases e), by first | exact .inl hc | exact .inr (fun e => by cases e), by first | exact .inl hc | exact .inr (fun e => by cases e)⟩
  rw [if_neg hc] at h; clear hc
  by_cases hc : t.f0 = 2 ∨ t.f0 = 3
  · rw [if_pos hc] at h; injection h with h; subst h; exact ⟨by first | exact .inl hc | exact .inr (fun e => by cases e), by first | exact .inl hc | exact .inr (fun e => by cases e), by first | exact .inl hc | exact .inr (fun e => by cases e)⟩
  rw [if_neg hc] at h; clear hc
  by_cases hc : t.f0 = 9
  · rw [if_pos hc] at h; injection h with h; subst h; exact ⟨by first | exact .inl hc | exact .inr (fun e => by cases e), by first | exact .inl hc | exact .inr (fun e => by cases e), by first | exact .inl hc | exact .inr (fun e => by cases e)⟩
  rw [if_neg hc] at h; clear hc
  by_cases hc : t.f0 = 10 ∨ t.f0 = 11
  · rw [if_pos hc] at h; injection h with h; subst h; exact ⟨by first | exact .inl hc | exact .inr (fun e => by cases e), by first | exact .inl hc | exact .inr (fun e => by cases e), by first | exact .inl hc | exact .inr (fun e => by cases e)⟩
  rw [if_neg hc] at h; clear hc
  by_cases hc : t.f0 = 12 ∨ t.f0 = 13 ∨ t.f0 = 14 ∨ t.f0 = 15
  · rw [if_pos hc] at h; injection h with h; subst h; exact ⟨by first | exact .inl hc | exact .inr (fun e => by cases e), by first | exact .inl hc | exact .inr (fun e => by cases e), by first | exact .inl hc | exact .inr (fun e => by cases e)⟩
  rw [if_neg hc] at h; clear hc
  by_cases hc : t.f0 = 16
  · rw [if_pos hc] at h; injection h with h; subst h; exact ⟨by first | exact .inl hc | exact .inr (fun e => by cases e), by first | exact .inl hc | exact .inr (fun e => by cases e), by first | exact .inl hc | exact .inr (fun e => by cases e)⟩
  rw [if_neg hc] at h; clear hc
  by_cases hc : t.f0 = 19
  · rw [if_pos hc] at h; injection h with h; subst h; exact ⟨by first | exact .inl hc | exact .inr (fun e => by cases e), by first | exact .inl hc | exact .inr (fun e => by cases e), by first | exact .inl hc | exact .inr (fun e => by cases e)⟩
  rw [if_neg hc] at h; clear hc
  by_cases hc : t.f0 = 18
  · rw [if_pos hc] at h
    cases hl : lastB bs t.f1 with
    | none => rw [hl] at h; cases h
    | some b =>
      rw [hl] at h
      by_cases hd : b.f1 = t.f2
      · simp only [] at h; rw [if_pos hd] at h; injection h with h; subst h; exact ⟨by first | exact .inl hc | exact .inr (fun e => by cases e), by first | exact .inl hc | exact .inr (fun e => by cases e), by first | exact .inl hc | exact .inr (fun e => by cases e)⟩
      · simp only [] at h; rw [if_neg hd] at h; cases h
  rw [if_neg hc] at h; clear hc
  by_cases hc : t.f0 = 17
  · rw [if_pos hc] at h
    by_cases hd : idxOf (fun f => f.f0.toList == t.f1.toList) sig < 0
    · rw [if_pos hd] at h; cases h
    · rw [if_neg hd] at h
      by_cases he : t.f4.length = (rd_TSg sig (idxOf (fun f => f.f0.toList == t.f1.toList) sig)).f1.length
      · rw [if_pos he] at h; injection h with h; subst h; exact ⟨by first | exact .inl hc | exact .inr (fun e => by cases e), by first | exact .inl hc | exact .inr (fun e => by cases e), by first | exact .inl hc | exact .inr (fun e => by cases e)⟩
      · rw [if_neg he] at h; cases h
  rw [if_neg hc] at h
  injection h with h; subst h; exact ⟨by first | exact .inl hc | exact .inr (fun e => by cases e), by first | exact .inl hc | exact .inr (fun e => by cases e), by first | exact .inl hc | exact .inr (fun e => by cases e)⟩
theorem ofS_err {sig : List Sg} {bs : List Bd} {t : Tm} {e : Int} (h : ofS sig bs t = .error e) : e ≠ 0 := by
  unfold ofS at h
  by_cases hc : t.f0 = 1
  · rw [if_pos hc] at h; cases h
  rw [if_neg hc] at h; clear hc
  by_cases hc : t.f0 = 2 ∨ t.f0 = 3
  · rw [if_pos hc] at h; cases h
  rw [if_neg hc] at h; clear hc
  by_cases hc : t.f0 = 9
  · rw [if_pos hc] at h; cases h
  rw [if_neg hc] at h; clear hc
  by_cases hc : t.f0 = 10 ∨ t.f0 = 11
  · rw [if_pos hc] at h; cases h
  rw [if_neg hc] at h; clear hc
  by_cases hc : t.f0 = 12 ∨ t.f0 = 13 ∨ t.f0 = 14 ∨ t.f0 = 15
  · rw [if_pos hc] at h; cases h
  rw [if_neg hc] at h; clear hc
  by_cases hc : t.f0 = 16
  · rw [if_pos hc] at h; cases h
  rw [if_neg hc] at h; clear hc
  by_cases hc : t.f0 = 19
  · rw [if_pos hc] at h; cases h
  rw [if_neg hc] at h; clear hc
  by_cases hc : t.f0 = 18
  · rw [if_pos hc] at h
    cases hl : lastB bs t.f1 with
    | none => rw [hl] at h; injection h with h; omega
    | some b =>
      rw [hl] at h
      by_cases hd : b.f1 = t.f2
      · simp only [] at h; rw [if_pos hd] at h; cases h
      · simp only [] at h; rw [if_neg hd] at h; injection h with h; omega
  rw [if_neg hc] at h; clear hc
  by_cases hc : t.f0 = 17
  · rw [if_pos hc] at h
    by_cases hd : idxOf (fun f => f.f0.toList == t.f1.toList) sig < 0
    · rw [if_pos hd] at h; injection h with h; omega
    · rw [if_neg hd] at h
      by_cases he : t.f4.length = (rd_TSg sig (idxOf (fun f => f.f0.toList == t.f1.toList) sig)).f1.length
      · rw [if_pos he] at h; cases h
      · rw [if_neg he] at h; injection h with h; omega
  rw [if_neg hc] at h; cases h
theorem ofS_eq {sig : List Sg} {bs : List Bd} {t : Tm} (h : ofS sig bs t = .ok .eq) : t.f0 = 9 := (ofS_inv h).1.resolve_right (fun e => e rfl)
theorem ofS_ite {sig : List Sg} {bs : List Bd} {t : Tm} (h : ofS sig bs t = .ok .ite) : t.f0 = 16 := (ofS_inv h).2.1.resolve_right (fun e => e rfl)
theorem ofS_bind {sig : List Sg} {bs : List Bd} {t : Tm} (h : ofS sig bs t = .ok .bind) : t.f0 = 19 := (ofS_inv h).2.2.resolve_right (fun e => e rfl)
theorem shape_9 {t : Tm} (h : shapeS t = true) (e : t.f0 = 9) : t.f4.length = 2 := by
  unfold shapeS at h
  simp [e] at h
  omega
theorem shape_16 {t : Tm} (h : shapeS t = true) (e : t.f0 = 16) : t.f4.length = 3 := by
  unfold shapeS at h
  simp [e] at h
  omega

set_option maxHeartbeats 4000000 in
set_option maxRecDepth 100000 in
theorem check_bad (t : Tm) (w : World) (cs : List Value) (hK : kTm.K w t cs) (hs : shapeS t = false) (hf : fineT t) (g : Nat) (sig : List Sg) (bs : List Bd) :
    Calls Try.prog 15 #[.pointer (some ⟨g, 0, none⟩), .agg cs.toArray] w (GivesS w (checkT sig bs t)) := by
  have HF := Aside0.mk (show checkT sig bs t = .error 30 from by rw [checkT_eq, hs]; rfl)
  have hK0 := hK
  obtain ⟨A4, c4, A5, c5, A6, c6, rfl, l4, g4, l5, g5, l6, g6⟩ := kTm_open hK
  have HK := Aside0.mk hK0
  have HS := Aside0.mk hs
  have HFN := Aside0.mk hf
  clear hK hK0 hs hf g4 g5 g6
  go_enter Try.func15, Try.ntmps15
  go_wp2_with (first
    | ((with_reducible refine gate_dst (N := 3) rfl ?_); refine box_event rfl (N := 3) rfl (cs := #[.int .i64 t.f0, .string t.f1, .int .i64 t.f2, .string t.f3, .slice A4 t.f4.length c4, .slice A5 t.f5.length c5, .slice A6 t.f6.length c6]) (t := 40) ?hr ?_; (case hr => first | (go_simp; done) | (go_simp; rfl)); intro g3 hg3 w3 hbox3 hb3; have HG3 := Aside0.mk hg3; have HX3 := Aside0.mk hbox3; clear hg3 hbox3)
    | ((with_reducible refine gate_dst (N := 19) rfl ?_); refine wpList_load_row rfl 40 _ rfl g3 rfl 40 #[.int .i64 t.f0, .string t.f1, .int .i64 t.f2, .string t.f3, .slice A4 t.f4.length c4, .slice A5 t.f5.length c5, .slice A6 t.f6.length c6] (0, 0) _ HX3.out Try.underlying40 rfl size_Tm ?_))
  refine (shape_calls t w3 _ (kTm.K_below hb3 HK.out) HFN.out).mono ?_
  rw [HS.out]
  rintro e w4 ⟨rfl, hb4⟩
  have HB4 := Aside0.mk (below_step hb3 hb4)
  clear hb3 hb4
  go_wp2
  go_ret2
  exact ⟨HB4.out, by rw [HF.out]; exact ⟨by decide, rfl⟩⟩
set_option maxHeartbeats 4000000 in
set_option maxRecDepth 100000 in
theorem check_oferr (t : Tm) (w : World) (cs : List Value) (hK : kTm.K w t cs) (hs : shapeS t = true) (hp : ¬ t.f0 = 18) (hf : fineT t) (g : Nat) (sig : List Sg) (bs : List Bd)
    (AS : Option Addr) (cS : Nat) (hg : w.cell? ⟨g, 0, none⟩ = some (.slice AS sig.length cS)) (hlS : sig.length ≤ cS) (hCS : kSg.C w AS sig.length sig) (k : Int)
    (hof : ofS sig bs t = .error k) :
    Calls Try.prog 15 #[.pointer (some ⟨g, 0, none⟩), .agg cs.toArray] w (GivesS w (checkT sig bs t)) := by
  have HF := Aside0.mk (show checkT sig bs t = .error k from by rw [checkT_eq, hs, hof]; rfl)
  have hK0 := hK
  obtain ⟨A4, c4, A5, c5, A6, c6, rfl, l4, g4, l5, g5, l6, g6⟩ := kTm_open hK
  have HK := Aside0.mk hK0
  have HS := Aside0.mk hs
  have HFN := Aside0.mk hf
  have HOF := Aside0.mk hof
  have HP := Aside0.mk hp
  have HCS := Aside0.mk hCS
  have hne := ofS_err hof
  have hne' : (k != 0) = true := by simpa using hne
  clear hK hK0 hs hf g4 g5 g6 hof hp hCS
  go_enter Try.func15, Try.ntmps15
  go_wp2_with (first
    | ((with_reducible refine gate_dst (N := 3) rfl ?_); refine box_event rfl (N := 3) rfl (cs := #[.int .i64 t.f0, .string t.f1, .int .i64 t.f2, .string t.f3, .slice A4 t.f4.length c4, .slice A5 t.f5.length c5, .slice A6 t.f6.length c6]) (t := 40) ?hr ?_; (case hr => first | (go_simp; done) | (go_simp; rfl)); intro g3 hg3 w3 hbox3 hb3; have HG3 := Aside0.mk hg3; have HX3 := Aside0.mk hbox3; clear hg3 hbox3)
    | ((with_reducible refine gate_dst (N := 19) rfl ?_); refine wpList_load_row rfl 40 _ rfl g3 rfl 40 #[.int .i64 t.f0, .string t.f1, .int .i64 t.f2, .string t.f3, .slice A4 t.f4.length c4, .slice A5 t.f5.length c5, .slice A6 t.f6.length c6] (0, 0) _ HX3.out Try.underlying40 rfl size_Tm ?_))
  refine (shape_calls t w3 _ (kTm.K_below hb3 HK.out) HFN.out).mono ?_
  rw [HS.out]
  rintro e w4 ⟨rfl, hb4⟩
  have HX4 := Aside0.mk (blk_below HX3.out hb4)
  have HB4 := Aside0.mk (below_step hb3 hb4)
  clear hb3 hb4
  go_wp2_with (first
    | ((with_reducible refine gate_dst (N := 24) rfl ?_); refine wpList_load_row rfl 40 _ rfl g3 rfl 40 #[.int .i64 t.f0, .string t.f1, .int .i64 t.f2, .string t.f3, .slice A4 t.f4.length c4, .slice A5 t.f5.length c5, .slice A6 t.f6.length c6] (0, 0) _ HX4.out Try.underlying40 rfl size_Tm ?_))
  refine (of_calls t w4 _ (kTm.K_below HB4.out HK.out) HS.out HP.out g sig bs AS cS ((HB4.out.cell (World.block_lt_of_cell? _ _ hg)).trans hg) hlS (Kd.C_below HCS.out HB4.out)).mono ?_
  rw [HOF.out]
  rintro e w5 ⟨hb5, _, rfl⟩
  have HB5 := Aside0.mk (below_step HB4.out hb5)
  clear hb5
  go_wp2
  go_ret2
  exact ⟨HB5.out, by rw [HF.out]; exact ⟨hne, rfl⟩⟩

theorem check_plain (n : Nat) : ∀ (t : Tm), depthT t ≤ n → plainT t → fineT t → sizeT t ≤ 1000000 → ∀ (w : World) (cs : List Value), kTm.K w t cs → ∀ (g : Nat) (sig : List Sg) (AS : Option Addr) (cS : Nat),
    w.heap[g]? = some (.cells #[.slice AS sig.length cS, .slice none 0 0] 67 (0, 0)) → sig.length ≤ cS → kSg.C w AS sig.length sig →
    Calls Try.prog 15 #[.pointer (some ⟨g, 0, none⟩), .agg cs.toArray] w (GivesS w (checkT sig [] t)) := by
  induction n with
  | zero => intro t h; have := depthT_eq t; omega
  | succ n ih =>
    intro t hd hpl hf hsz w cs hK g sig AS cS hg hlS hCS
    obtain ⟨p18, p19, pl⟩ := (plainT_eq t).1 hpl
    obtain ⟨_, _, _, fl, _⟩ := (fineT_eq t).1 hf
    have hdt := depthT_eq t
    have hst := sizeT_eq t
    have hll : t.f4.length ≤ 1000000 := by have := len_le_size t.f4; omega
    cases hs : shapeS t with
    | false => exact check_bad t w cs hK hs hf g sig []
    | true =>
      have IH : ∀ x ∈ t.f4, ∀ (W : World) (cs' : List Value), Below w.heap.size w W → kTm.K W x cs' → Calls Try.prog 15 #[.pointer (some ⟨g, 0, none⟩), .agg cs'.toArray] W (GivesS W (checkT sig [] x)) := fun x hx W cs' hW hK' =>
        ih x (by have := depthL_mem hx; omega) (plainL_mem hx pl) (fineL_mem hx fl) (by have := sizeL_mem hx; omega) W cs' hK' g sig AS cS (blk_below hg hW) hlS (Kd.C_below hCS hW)
      cases hof : ofS sig [] t with
      | error k => exact check_oferr t w cs hK hs p18 hf g sig [] AS cS ((blk_cell hg 0).trans rfl) hlS hCS k hof
      | ok nd =>
        cases nd with
        | leaf s => exact check_leaf s t w cs hK hs p18 hf hll g sig AS cS hg hlS hCS hof trivial IH
        | fix i o => exact check_fix i o t w cs hK hs p18 hf hll g sig AS cS hg hlS hCS hof trivial IH
        | eq => exact check_equal () t w cs hK hs p18 hf hll g sig AS cS hg hlS hCS hof (shape_9 hs (ofS_eq hof)) IH
        | ite => exact check_ite () t w cs hK hs p18 hf hll g sig AS cS hg hlS hCS hof (shape_16 hs (ofS_ite hof)) IH
        | fn f => exact check_fun f t w cs hK hs p18 hf hll g sig AS cS hg hlS hCS hof trivial IH
        | bind => exact absurd (ofS_bind hof) p19

/-- What Check answers. -/
def checkS (sig : List Sg) (t : Tm) : Except Int Int := if 200 < depthT t then .error 33 else if 50000 < sizeT t then .error 34 else checkT sig [] t
theorem size_checker : (Try.prog.info? 67).map (·.size) = some 2 := by kernel_rfl
set_option maxHeartbeats 4000000 in
set_option maxRecDepth 100000 in
theorem Check_calls (t : Tm) (hpl : plainT t) (hf : fineT t) (w : World) (cs : List Value) (hK : kTm.K w t cs) (sig : List Sg) (AS : Option Addr) (cS : Nat) (hlS : sig.length ≤ cS) (hCS : kSg.C w AS sig.length sig) :
    Calls Try.prog 9 #[.slice AS sig.length cS, .agg cs.toArray] w (GivesS w (checkS sig t)) := by
  have hK0 := hK
  obtain ⟨A4, c4, A5, c5, A6, c6, rfl, l4, g4, l5, g5, l6, g6⟩ := kTm_open hK
  have HK := Aside0.mk hK0
  have HFN := Aside0.mk hf
  have HPL := Aside0.mk hpl
  have HCS := Aside0.mk hCS
  clear hK hK0 hf g4 g5 g6 hpl hCS
  go_enter Try.func9, Try.ntmps9
  go_wp2_with (first
    | ((with_reducible refine gate_dst (N := 3) rfl ?_); refine box_event rfl (N := 3) rfl (cs := #[.int .i64 t.f0, .string t.f1, .int .i64 t.f2, .string t.f3, .slice A4 t.f4.length c4, .slice A5 t.f5.length c5, .slice A6 t.f6.length c6]) (t := 40) ?hr ?_; (case hr => first | (go_simp; done) | (go_simp; rfl)); intro g3 hg3 w3 hbox3 hb3; have HG3 := Aside0.mk hg3; have HX3 := Aside0.mk hbox3; clear hg3 hbox3)
    | ((with_reducible refine gate_dst (N := 7) rfl ?_); refine wpList_load_row rfl 40 _ rfl g3 rfl 40 #[.int .i64 t.f0, .string t.f1, .int .i64 t.f2, .string t.f3, .slice A4 t.f4.length c4, .slice A5 t.f5.length c5, .slice A6 t.f6.length c6] (0, 0) _ HX3.out Try.underlying40 rfl size_Tm ?_))
  refine (deeper_calls (depthT t) t 200 w3 _ (Nat.le_refl _) (by omega) (by omega) (kTm.K_below hb3 HK.out)).mono ?_
  obtain ⟨q, hq⟩ : ∃ q, q = decide ((200 : Int) < depthT t) := ⟨_, rfl⟩
  rw [← hq]
  have HQ := Aside0.mk hq
  clear hq
  rintro e w4 ⟨rfl, hb4⟩
  have HX4 := Aside0.mk (blk_below HX3.out hb4)
  have HB4 := Aside0.mk (below_step hb3 hb4)
  clear hb3 hb4
  cases q with
  | true =>
    have HF := Aside0.mk (show checkS sig t = .error 33 from by
      have := of_decide_eq_true HQ.out.symm
      unfold checkS
      rw [if_pos (by omega)])
    go_wp2
    go_ret2
    exact ⟨HB4.out, by rw [HF.out]; exact ⟨by decide, rfl⟩⟩
  | false =>
    have HD := Aside0.mk (of_decide_eq_false HQ.out.symm)
    go_wp2_with ((with_reducible refine gate_dst (N := 10) rfl ?_); refine wpList_load_row rfl 40 _ rfl g3 rfl 40 #[.int .i64 t.f0, .string t.f1, .int .i64 t.f2, .string t.f3, .slice A4 t.f4.length c4, .slice A5 t.f5.length c5, .slice A6 t.f6.length c6] (0, 0) _ HX4.out Try.underlying40 rfl size_Tm ?_)
    refine (size_calls (depthT t) t 50000 w4 _ (Nat.le_refl _) (by omega) (by omega) (kTm.K_below HB4.out HK.out)).mono ?_
    obtain ⟨q, hq⟩ : ∃ q, q = upTo (sizeT t) 50000 := ⟨_, rfl⟩
    rw [← hq]
    have HU := Aside0.mk hq
    clear hq
    rintro e w5 ⟨rfl, hb5⟩
    have HX5 := Aside0.mk (blk_below HX4.out hb5)
    have HB5 := Aside0.mk (below_step HB4.out hb5)
    clear hb5
    by_cases hm : 50000 < q
    · have hm' : decide (50000 < q) = true := decide_eq_true hm
      have HF := Aside0.mk (show checkS sig t = .error 34 from by
        have := HU.out
        have := HD.out
        unfold upTo at *
        unfold checkS
        rw [if_neg (by omega), if_pos (by omega)])
      clear hm
      go_wp2
      go_ret2
      exact ⟨HB5.out, by rw [HF.out]; exact ⟨by decide, rfl⟩⟩
    · have hm' : decide (50000 < q) = false := decide_eq_false hm
      have HSZ := Aside0.mk (show sizeT t ≤ 50000 from by
        have := HU.out
        unfold upTo at *
        omega)
      have HF := Aside0.mk (show checkS sig t = checkT sig [] t from by
        have := HSZ.out
        have := HD.out
        unfold checkS
        rw [if_neg (by omega), if_neg (by omega)])
      clear hm
      go_wp2_with (first
        | ((with_reducible refine gate_dst (N := 15) rfl ?_); refine box_event rfl (N := 15) rfl (cs := #[.slice AS sig.length cS, .slice none 0 0]) (t := 67) ?hr ?_; (case hr => first | (go_simp; done) | (go_simp; rfl)); intro g15 hg15 w15 hbox15 hb15; have HG15 := Aside0.mk hg15; have HX15 := Aside0.mk hbox15; clear hg15 hbox15; have HX15' := Aside0.mk (blk_below HX5.out hb15); have HB15 := Aside0.mk (below_step HB5.out hb15); clear hb15)
        | ((with_reducible refine gate_dst (N := 16) rfl ?_); refine wpList_load_row rfl 40 _ rfl g3 rfl 40 #[.int .i64 t.f0, .string t.f1, .int .i64 t.f2, .string t.f3, .slice A4 t.f4.length c4, .slice A5 t.f5.length c5, .slice A6 t.f6.length c6] (0, 0) _ HX15'.out Try.underlying40 rfl size_Tm ?_))
      refine (check_plain (depthT t) t (Nat.le_refl _) HPL.out HFN.out (Nat.le_trans HSZ.out (by omega)) w15 _ (kTm.K_below HB15.out HK.out) g15 sig AS cS HX15.out hlS (Kd.C_below HCS.out HB15.out)).mono ?_
      cases hr : checkT sig [] t with
      | ok s =>
        have HR := Aside0.mk hr
        clear hr
        rintro e w6 ⟨hb6, rfl⟩
        go_wp2
        go_ret2
        exact ⟨below_step HB15.out hb6, by rw [HF.out, HR.out]; rfl⟩
      | error k =>
        have HR := Aside0.mk hr
        clear hr
        rintro e w6 ⟨hb6, hk, rfl⟩
        go_wp2
        go_ret2
        exact ⟨below_step HB15.out hb6, by rw [HF.out, HR.out]; exact ⟨hk, rfl⟩⟩
end Go.Proofs.Ytiokmnabkccpcaa.Kit
