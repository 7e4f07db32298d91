/- The model: app. -/
import Derived.Test.YtiokmnabkccpcaaD2
set_option linter.unusedVariables false
set_option linter.unusedSimpArgs false
namespace Go.Proofs.Ytiokmnabkccpcaa.Kit
open Go.RowKit Go.Proofs.YtiokmnabkccpcaaW.PrintWords Go.Proofs.YtiokmnabkccpcaaW.PrintLast Go.Proofs.YtiokmnabkccpcaaW.PrintMore

theorem size_Rw : (Try.prog.info? 32).map (·.size) = some 2 := by kernel_rfl
theorem rd_mem (l : List Rw) (m : Nat) (h : m < l.length) : rd_TRw l (m : Int) ∈ l := by
  show l.getD m _ ∈ l
  rw [List.getD_eq_getElem?_getD, List.getElem?_eq_getElem h]
  exact List.getElem_mem h
theorem rowS_hit (rows : List Rw) (ss : List ByteArray) (els : ByteArray) (m : Nat) (hm : m < rows.length) (hb : ∀ q, q < m → decide (listsOf (rd_TRw rows (q : Int)).f0 = listsOf ss) = false) (h : decide (listsOf (rd_TRw rows (m : Int)).f0 = listsOf ss) = true) :
    rowS rows ss els = (rd_TRw rows (m : Int)).f1 := by
  induction rows generalizing m with
  | nil => simp at hm
  | cons x r ih =>
    unfold rowS
    rw [List.find?_cons]
    cases m with
    | zero =>
      have h' : decide (listsOf x.f0 = listsOf ss) = true := h
      rw [h']
      rfl
    | succ m =>
      have h0 : decide (listsOf x.f0 = listsOf ss) = false := hb 0 (by omega)
      rw [h0]
      exact ih m (by simpa using hm) (fun q hq => hb (q + 1) (by omega)) h
theorem rowS_miss (rows : List Rw) (ss : List ByteArray) (els : ByteArray) (hb : ∀ q, q < rows.length → decide (listsOf (rd_TRw rows (q : Int)).f0 = listsOf ss) = false) : rowS rows ss els = els := by
  induction rows with
  | nil => rfl
  | cons x r ih =>
    unfold rowS
    rw [List.find?_cons]
    have h0 : decide (listsOf x.f0 = listsOf ss) = false := hb 0 (by simp)
    rw [h0]
    exact ih (fun q hq => hb (q + 1) (by simpa using hq))
theorem info_str : (Try.prog.info? 9).map (fun i => (i.zero, i.size, i.bytes)) = some (some (.string ⟨#[]⟩), 1, 16) := by kernel_rfl
theorem own_Cstr {w : World} {base : Nat} {v : Value} {xs : List ByteArray} (h : w.ownsRow base 9 1 v xs.length (xs.map Value.string)) : ∃ A c, v = .slice A xs.length c ∧ xs.length ≤ c ∧ Kd.string.C w A xs.length xs :=
  Kd.R_reads (Kd.R_of_own (h1 := fun _ => rfl) (enc := Value.string) (ok := fun _ => True) h (fun _ _ => trivial))
set_option maxHeartbeats 1000000 in
theorem app1_calls (x : Sg) (name : ByteArray) (W : World) (cs : List Value) (hK : kSg.K W x cs) (B : Nat) (hB : W.cell? ⟨B, 1, none⟩ = some (.string name)) :
    Calls Try.prog 38 #[.agg cs.toArray, .pointer (some ⟨B, 0, none⟩)] W (Gives W (.bool (x.f0.toList == name.toList))) := by
  obtain ⟨A1, c1, rfl, l1, g1⟩ := kSg_open hK
  clear hK g1
  go_enter Try.func38, Try.ntmps38
  go_wp2_with ((with_reducible refine gate_dst (N := 2) rfl ?_); refine box_event rfl (N := 2) rfl (cs := #[.string x.f0, .slice A1 x.f1.length c1, .int .i64 x.f2]) (t := 35) ?hr ?_; (case hr => first | (go_simp; done) | (go_simp; rfl)); intro g2 hg2 w2 hbox2 hb2; have HG2 := Aside0.mk hg2; have HX2 := Aside0.mk hbox2; clear hg2 hbox2; have c0 : w2.cell? ⟨g2, 0, none⟩ = some (.string x.f0) := (blk_cell HX2.out 0).trans rfl; have c1 : w2.cell? ⟨B, 1, none⟩ = some (.string name) := (hb2.cell (World.block_lt_of_cell? _ _ hB)).trans hB)
  go_ret
  exact ⟨rfl, hb2⟩
set_option maxHeartbeats 1000000 in
theorem app2_calls (x : Tb) (name : ByteArray) (W : World) (cs : List Value) (hK : kTb.K W x cs) (B : Nat) (hB : W.cell? ⟨B, 1, none⟩ = some (.string name)) :
    Calls Try.prog 40 #[.agg cs.toArray, .pointer (some ⟨B, 0, none⟩)] W (Gives W (.bool (x.f0.toList == name.toList))) := by
  obtain ⟨A1, c1, rfl, l1, g1⟩ := kTb_open hK
  clear hK g1
  go_enter Try.func40, Try.ntmps40
  go_wp2_with ((with_reducible refine gate_dst (N := 2) rfl ?_); refine box_event rfl (N := 2) rfl (cs := #[.string x.f0, .slice A1 x.f1.length c1, .string x.f2]) (t := 28) ?hr ?_; (case hr => first | (go_simp; done) | (go_simp; rfl)); intro g2 hg2 w2 hbox2 hb2; have HG2 := Aside0.mk hg2; have HX2 := Aside0.mk hbox2; clear hg2 hbox2; have c0 : w2.cell? ⟨g2, 0, none⟩ = some (.string x.f0) := (blk_cell HX2.out 0).trans rfl; have c1 : w2.cell? ⟨B, 1, none⟩ = some (.string name) := (hb2.cell (World.block_lt_of_cell? _ _ hB)).trans hB)
  go_ret
  exact ⟨rfl, hb2⟩
theorem readS_noobj {s : ByteArray} {k i : Int} (h : readS s k = some (.obj i)) : False := by
  unfold readS at h
  split at h
  · cases hp : parseS s with
    | none => rw [hp] at h; cases h
    | some z => rw [hp] at h; injection h with h; cases h
  · split at h
    · split at h
      · injection h with h; cases h
      · split at h
        · injection h with h; cases h
        · cases h
    · cases h

theorem valL_take (sig : List Sg) (tb : List Tb) (l : List Tm) (k : Nat) (hk : k < l.length) (us : List Vl) (h : valL sig tb (l.take k) = some us) :
    (∀ u, valT sig tb (l.getD k zTm) = some u → valL sig tb (l.take (k + 1)) = some (us ++ [u])) ∧ (valT sig tb (l.getD k zTm) = none → valL sig tb l = none) := by
  induction l generalizing k us with
  | nil => simp at hk
  | cons x r ih =>
    cases k with
    | zero =>
      simp only [List.take_zero, valL] at h
      injection h with h
      subst h
      constructor
      · intro s hs
        have hs' : valT sig tb x = some s := hs
        simp [valL, hs']
      · intro he
        have he' : valT sig tb x = none := he
        simp [valL, he']
    | succ k =>
      simp only [List.take_succ_cons, valL] at h
      cases hx : valT sig tb x with
      | none => rw [hx] at h; cases h
      | some s0 =>
        rw [hx] at h
        cases hr : valL sig tb (r.take k) with
        | none => rw [hr] at h; cases h
        | some s1 =>
          rw [hr] at h
          injection h with h
          subst h
          obtain ⟨a, b⟩ := ih k (by simpa using hk) s1 hr
          constructor
          · intro s hs
            have := a s hs
            simp only [List.take_succ_cons, valL, hx, this, List.cons_append]
          · intro he
            have := b he
            simp only [valL, hx, this]

set_option maxHeartbeats 4000000 in
set_option maxRecDepth 100000 in
theorem app_calls (t : Tm) (w : World) (cs : List Value) (hK : kTm.K w t cs) (hll : t.f4.length ≤ 1000000) (g : Nat) (sig : List Sg) (tb : List Tb) (AS AT : Option Addr) (cS cT : Nat) (mo objs : Int)
    (hg : w.heap[g]? = some (.cells #[.slice AS sig.length cS, .slice AT tb.length cT, .int .i64 mo, .int .i64 objs, .slice none 0 0, .slice none 0 0] 56 (0, 0)))
    (hlS : sig.length ≤ cS) (hCS : kSg.C w AS sig.length sig) (hlT : tb.length ≤ cT) (hCT : kTb.C w AT tb.length tb)
    (hsi : 0 ≤ idxOf (fun f : Sg => f.f0.toList == t.f1.toList) sig)
    (htx : ∀ b ∈ tb, b.f2.size ≤ bulkM ∧ ∀ r ∈ b.f1, r.f1.size ≤ bulkM)
    (hrd : ∀ (s : ByteArray) (W : World), s.size ≤ bulkM → Calls Try.prog 42 #[.string s, .int .i64 (rd_TSg sig (idxOf (fun f => f.f0.toList == t.f1.toList) sig)).f2, .int .i64 objs] W (GivesRd W (readS s (rd_TSg sig (idxOf (fun f => f.f0.toList == t.f1.toList) sig)).f2)))
    (hno : ∀ x ∈ t.f4, ∀ i, valT sig tb x ≠ some (.obj i))
    (IH : ∀ x ∈ t.f4, ∀ (W : World) (cs' : List Value), Below w.heap.size w W → kTm.K W x cs' → Calls Try.prog 12 #[.pointer (some ⟨g, 0, none⟩), .agg cs'.toArray] W (GivesVl W (valT sig tb x))) :
    Calls Try.prog 25 #[.pointer (some ⟨g, 0, none⟩), .agg cs.toArray] w (GivesVl w (match valL sig tb t.f4 with | none => none | some vs => appS sig tb t.f1 (vs.map txtS))) := by
  obtain ⟨R, hR⟩ : ∃ R, R = (match valL sig tb t.f4 with | none => none | some vs => appS sig tb t.f1 (vs.map txtS)) := ⟨_, rfl⟩
  rw [← hR]
  have HRR := Aside0.mk hR
  clear hR
  have HIH := Aside0.mk IH
  have HNO := Aside0.mk hno
  have HTX := Aside0.mk htx
  have HRD0 := Aside0.mk hrd
  clear htx hrd
  have HSI := Aside0.mk hsi
  clear hsi
  have hK0 := hK
  obtain ⟨A4, c4, A5, c5, A6, c6, rfl, l4, g4, l5, g5, l6, g6⟩ := kTm_open hK
  have HG4 := Aside0.mk g4
  have HG := Aside0.mk hg
  have HCS := Aside0.mk hCS
  have HCT := Aside0.mk hCT
  have hlen : t.f4.length ≤ 9223372036854775807 := by omega
  have hmf : ∀ (fn : Fn) (first cap : Array Value) (w : World), (Instr.makeFunc fn first cap).run Try.prog w = .ok (.func fn first cap) w := fun _ _ _ _ => rfl
  have hm1 : ∀ v W, (Go.method 282 79 v "avow/model.text").run Try.prog W = .ok (88, v) W := fun v W => by kernel_rfl
  have hm2 : ∀ v W, (Go.method 282 86 v "avow/model.text").run Try.prog W = .ok (91, v) W := fun v W => by kernel_rfl
  have he1 : ∀ args W, (callFunc 88 args).run Try.prog W = .ok (.enter 88 args) W := fun args W => enters_ Try.func88 (by kernel_rfl) rfl args W
  have he2 : ∀ args W, (callFunc 91 args).run Try.prog W = .ok (.enter 91 args) W := fun args W => enters_ Try.func91 (by kernel_rfl) rfl args W
  clear IH hno hK hK0 hg hCS hCT g4 g5 g6
  go_enter Try.func25, Try.ntmps25
  go_wp2_with ((with_reducible refine gate_dst (N := 3) rfl ?_); refine box_event rfl (N := 3) rfl (cs := #[.int .i64 t.f0, .string t.f1, .int .i64 t.f2, .string t.f3, .slice A4 t.f4.length c4, .slice A5 t.f5.length c5, .slice A6 t.f6.length c6]) (t := 40) ?hr ?_; (case hr => first | (go_simp; done) | (go_simp; rfl)); intro g3 hg3 w3 hbox3 hb3; have HG3 := Aside0.mk hg3; have HX3 := Aside0.mk hbox3; clear hg3 hbox3; have HB3 := Aside0.mk hb3; have c34 : w3.cell? ⟨g3, 4, none⟩ = some (.slice A4 t.f4.length c4) := (blk_cell HX3.out 4).trans rfl; clear hb3)
  clear c34
  go_loopg [5, 7, 18] t.f4.length (fun gg v5 _ v18 wr => ∃ (k : Nat) (ss : List ByteArray) (us : List Vl), k ≤ t.f4.length ∧ t.f4.length - k ≤ gg ∧ v18 = .int .i64 k ∧ Aside0 (ss = us.map txtS ∧ us.length = k ∧ valL sig tb (t.f4.take k) = some us) ∧ Aside0 (Below w3.heap.size w3 wr) ∧ Aside0 (wr.ownsRow w3.heap.size 9 1 v5 (ss.map Value.string).length (ss.map Value.string)))
  case atStart => exact ⟨0, [], [], Nat.zero_le _, by omega, rfl, ⟨rfl, rfl, by simp [valL]⟩, ⟨Below.refl _ _⟩, ⟨own_nil _ _ _ _⟩⟩
  case round =>
    obtain ⟨k, ss, us, hk, hgg, rfl, HS, BW, HO⟩ := hrel
    by_cases hlt : k < t.f4.length
    · obtain ⟨ad, cs, e, hl, hK, hc⟩ := Kd.C_get HG4.out zTm (k : Int) (by omega) (by omega)
      subst e
      have hbw := below_step HB3.out BW.out
      have hK' := kTm.K_below hbw hK
      rw [show ((k : Int)).toNat = k from rfl] at hK' hc
      obtain ⟨x, hx⟩ : ∃ x, x = t.f4.getD k zTm := ⟨_, rfl⟩
      rw [← hx] at hK'
      have HXE := Aside0.mk hx
      have HKx := Aside0.mk hK'
      obtain ⟨B4, d4, B5, d5, B6, d6, rfl, _, _, _, _, _, _⟩ := kTm_open hK'
      have HL := Aside0.mk (show ∀ j v, [.int .i64 x.f0, .string x.f1, .int .i64 x.f2, .string x.f3, .slice B4 x.f4.length d4, .slice B5 x.f5.length d5, .slice B6 x.f6.length d6][j]? = some v → wr.cell? ((ad.add (k * kTm.sz)).add j) = some v from fun j v hv => by
        have := hc j v hv
        rw [add_add]
        exact (hbw.cell (World.block_lt_of_cell? w _ this)).trans this)
      have HM := Aside0.mk (show x ∈ t.f4 by rw [hx, List.getD_eq_getElem?_getD, List.getElem?_eq_getElem hlt]; exact List.getElem_mem hlt)
      clear hc hK hK' hl hbw hx
      go_wp2_with (first
        | ((with_reducible refine gate_dst (N := 21) rfl ?_); refine wpList_load_cells rfl 40 _ rfl (ad.add (k * kTm.sz)) rfl [.int .i64 x.f0, .string x.f1, .int .i64 x.f2, .string x.f3, .slice B4 x.f4.length d4, .slice B5 x.f5.length d5, .slice B6 x.f6.length d6] _ Try.underlying40 rfl size_Tm HL.out ?_)
        | ((with_reducible refine gate_dst (N := 24) rfl ?_); (obtain ⟨w7, hw7⟩ : ∃ w7, w7 = wr.alloc (.cells #[.int .i64 x.f0, .string x.f1, .int .i64 x.f2, .string x.f3, .slice B4 x.f4.length d4, .slice B5 x.f5.length d5, .slice B6 x.f6.length d6] 40) := ⟨_, rfl⟩); (obtain ⟨g7, hg7⟩ : ∃ g7, g7 = wr.heap.size := ⟨_, rfl⟩); rw [← hw7]; rw [← hg7]; (have hb7 : Below wr.heap.size wr w7 := (by rw [hw7]; exact (Below.refl _ _).alloc (Nat.le_refl _) _)); (have HX7 := Aside0.mk (show w7.heap[g7]? = some (.cells #[.int .i64 x.f0, .string x.f1, .int .i64 x.f2, .string x.f3, .slice B4 x.f4.length d4, .slice B5 x.f5.length d5, .slice B6 x.f6.length d6] 40 (0, 0)) from (by rw [hw7, hg7]; exact blk_new _ _))); have HG7 := Aside0.mk hg7; clear hw7 hg7)
        | ((with_reducible refine gate_dst (N := 24) rfl ?_); refine wpList_load_row rfl 40 _ rfl g7 rfl 40 #[.int .i64 x.f0, .string x.f1, .int .i64 x.f2, .string x.f3, .slice B4 x.f4.length d4, .slice B5 x.f5.length d5, .slice B6 x.f6.length d6] (0, 0) _ HX7.out Try.underlying40 rfl size_Tm ?_))
      refine (HIH.out x HM.out w7 _ (below_step HB3.out (below_step BW.out hb7)) (kTm.K_below hb7 HKx.out)).mono ?_
      cases hr : valT sig tb x with
      | none =>
        rintro e0 w8 ⟨hb8, rfl⟩
        have HF := Aside0.mk (show R = none from by
          rw [HRR.out]
          have := (valL_take sig tb t.f4 k hlt us HS.out.2.2).2 (by rw [← HXE.out]; exact hr)
          rw [this])
        have HB8 := Aside0.mk (below_step HB3.out (below_step BW.out (below_step hb7 hb8)))
        clear hr hb7 hb8
        go_wp2_with fail
        exact ⟨rfl, by rw [HF.out]; exact ⟨HB8.out, rfl⟩⟩
      | some u =>
        cases u with
        | obj i => exact absurd hr (HNO.out x HM.out i)
        | num z =>
          have HVT := Aside0.mk ((valL_take sig tb t.f4 k hlt us HS.out.2.2).1 _ (by rw [← HXE.out]; exact hr))
          clear hr
          rintro e0 w8 ⟨hb8, v, rfl, A, c, y, rfl, hy, hyl⟩
          have HB8 := Aside0.mk (below_step BW.out (below_step hb7 hb8))
          have HO8 := Aside0.mk (pw_own_below (pw_own_below HO.out hb7) hb8)
          have HY := Aside0.mk hy
          clear hb7 hb8 hy
          go_wp2_with fail
          refine (numtext_calls A c y z w8 HY.out hyl).mono ?_
          rintro e1 w9 ⟨rfl, hb9⟩
          have HB9 := Aside0.mk (below_step HB8.out hb9)
          have HO9 := Aside0.mk (pw_own_below HO8.out hb9)
          have HSX := Aside0.mk (show decS z = txtS (.num z) from rfl)
          rw [HSX.out]
          obtain ⟨u, hu⟩ : ∃ u, u = Vl.num z := ⟨_, rfl⟩
          rw [← hu]
          rw [← hu] at HVT
          clear hb9 hu
          go_wp2_with ((with_reducible refine gate_dst (N := 28) rfl ?_); refine print_append (w0 := w3) w3.heap.size rfl _ _ 30 9 (.string ⟨#[]⟩) 16 rfl Try.underlying30 info_str rfl (by decide) u5 (ss.map Value.string) (.string (txtS u)) rfl rfl rfl HO9.out HB9.out HB9.out.size ?hl ?_; (case hl => have := HS.out.1; have := HS.out.2.1; simp [HS.out.1]; omega); intro v1 w10 hown hb10 hg10 hat10; have HO10 := Aside0.mk hown; have HB10 := Aside0.mk hb10; clear hown hb10 hg10 hat10)
          go_roundg (t.f4.length - (k + 1))
          case measure => omega
          case rel =>
            obtain ⟨s1, s2, s3⟩ := HS.out
            exact ⟨k + 1, ss ++ [txtS u], us ++ [u], by omega, Nat.le_refl _, by go_num, ⟨by rw [s1, List.map_append]; rfl, by rw [List.length_append, s2]; rfl, HVT.out⟩, HB10, ⟨by rw [List.map_append]; exact HO10.out⟩⟩
        | tru b =>
          have HVT := Aside0.mk ((valL_take sig tb t.f4 k hlt us HS.out.2.2).1 _ (by rw [← HXE.out]; exact hr))
          clear hr
          rintro e0 w8 ⟨hb8, v, rfl, hv⟩
          obtain rfl : v = .iface 86 (.bool b) := hv
          have HB8 := Aside0.mk (below_step BW.out (below_step hb7 hb8))
          have HO8 := Aside0.mk (pw_own_below (pw_own_below HO.out hb7) hb8)
          clear hb7 hb8
          go_wp2_with fail
          refine (trutext_calls b w8).mono ?_
          rintro e1 w9 ⟨rfl, hb9⟩
          have HB9 := Aside0.mk (below_step HB8.out hb9)
          have HO9 := Aside0.mk (pw_own_below HO8.out hb9)
          have HSX := Aside0.mk (show truthS b = txtS (.tru b) from rfl)
          rw [HSX.out]
          obtain ⟨u, hu⟩ : ∃ u, u = Vl.tru b := ⟨_, rfl⟩
          rw [← hu]
          rw [← hu] at HVT
          clear hb9 hu
          go_wp2_with ((with_reducible refine gate_dst (N := 28) rfl ?_); refine print_append (w0 := w3) w3.heap.size rfl _ _ 30 9 (.string ⟨#[]⟩) 16 rfl Try.underlying30 info_str rfl (by decide) u5 (ss.map Value.string) (.string (txtS u)) rfl rfl rfl HO9.out HB9.out HB9.out.size ?hl ?_; (case hl => have := HS.out.1; have := HS.out.2.1; simp [HS.out.1]; omega); intro v1 w10 hown hb10 hg10 hat10; have HO10 := Aside0.mk hown; have HB10 := Aside0.mk hb10; clear hown hb10 hg10 hat10)
          go_roundg (t.f4.length - (k + 1))
          case measure => omega
          case rel =>
            obtain ⟨s1, s2, s3⟩ := HS.out
            exact ⟨k + 1, ss ++ [txtS u], us ++ [u], by omega, Nat.le_refl _, by go_num, ⟨by rw [s1, List.map_append]; rfl, by rw [List.length_append, s2]; rfl, HVT.out⟩, HB10, ⟨by rw [List.map_append]; exact HO10.out⟩⟩
    · have hke : k = t.f4.length := by omega
      have HUS := Aside0.mk (show valL sig tb t.f4 = some us from by
        have := HS.out.2.2
        rwa [hke, List.take_length] at this)
      have HSS := Aside0.mk (show ss = us.map txtS from HS.out.1)
      clear hke
      obtain ⟨A9, c9, rfl, hl9, hC9⟩ := own_Cstr (xs := ss) (by have := HO.out; rwa [List.length_map] at this)
      have HC9 := Aside0.mk hC9
      clear hC9
      have hq0 := idxOf_lt (fun f : Sg => f.f0.toList == t.f1.toList) sig
      have HWR := Aside0.mk (below_step HB3.out BW.out)
      obtain ⟨i, hi⟩ : ∃ i : Nat, idxOf (fun f : Sg => f.f0.toList == t.f1.toList) sig = i := ⟨_, (Int.toNat_of_nonneg HSI.out).symm⟩
      rw [hi] at hq0
      have HI := Aside0.mk hi
      clear hi
      have hil : i < sig.length := by omega
      obtain ⟨ad, B1, d1, e, hy0, hy1, hy2, hyl, hyC⟩ := at_TSg HCS.out (i : Int) (by omega) (by omega)
      subst e
      clear hyC hy0 hy1
      obtain ⟨f, hf⟩ : ∃ f, f = rd_TSg sig (i : Int) := ⟨_, rfl⟩
      rw [← hf] at hy2
      rw [show ((i : Int)).toNat = i from rfl] at hy2
      have HFE := Aside0.mk hf
      clear hf
      replace hy2 := (HWR.out.cell (World.block_lt_of_cell? _ _ hy2)).trans hy2
      have cg0 : wr.cell? ⟨g, 0, none⟩ = some (.slice (some ad) sig.length cS) := (blk_cell (blk_below HG.out HWR.out) 0).trans rfl
      have HX3r := Aside0.mk (blk_below HX3.out BW.out)
      have hi1 : (i : Int) < (sig.length : Int) := by omega
      have HCALL := Aside0.mk (show Calls Try.prog 37 #[.slice (some ad) sig.length cS, .func (.func 38) #[] #[.pointer (some ⟨g3, 0, none⟩)]] wr.drew (fun e w' => e = .returned (.int .i64 i) ∧ Below wr.heap.size wr w') from by
        rw [← HI.out]
        refine (indexFunc_Sg sig (some ad) cS 38 #[.pointer (some ⟨g3, 0, none⟩)] (fun args w => enters_ Try.func38 (by kernel_rfl) rfl args w) (fun f => f.f0.toList == t.f1.toList) wr.drew (Kd.C_below HCS.out HWR.out.drew) (fun j hj z W cs hW hK => by
          refine (app1_calls _ t.f1 W cs hK g3 ((hW.cell (blk_lt HX3r.out)).trans ((blk_cell HX3r.out 1).trans rfl))).mono ?_
          rintro e w' ⟨rfl, hb'⟩
          exact ⟨rfl, below_step hW hb'⟩) HCS.out.2.1).mono ?_
        rintro e w' ⟨rfl, hb'⟩
        exact ⟨rfl, (Below.refl _ _).drew.trans hb'⟩)
      go_wp2_with fail
      go_region_held3 (fun w' => w'.cell? ⟨g, 0, none⟩ = some (.slice (some ad) sig.length cS) ∧ w'.cell? ⟨(ad.add (i * 3)).block, (ad.add (i * 3)).off + 2, none⟩ = some (.int .i64 f.f2) ∧ Below wr.heap.size wr w')
        (first | exact ⟨cg0, hy2, (Below.refl _ _).drew⟩ | exact hSn | assumption)
        (first | (go_at_call 37; refine HCALL.out.mono ?_; rintro e w9 ⟨rfl, hb9⟩; have hSn : w9.cell? ⟨g, 0, none⟩ = some (.slice (some ad) sig.length cS) ∧ w9.cell? ⟨(ad.add (i * 3)).block, (ad.add (i * 3)).off + 2, none⟩ = some (.int .i64 f.f2) ∧ Below wr.heap.size wr w9 := ⟨(hb9.cell (World.block_lt_of_cell? _ _ cg0)).trans cg0, (hb9.cell (World.block_lt_of_cell? _ _ hy2)).trans hy2, hb9⟩))
      have HB9 := Aside0.mk (below_step HWR.out hSn.2.2)
      have HX39 := Aside0.mk (blk_below HX3r.out hSn.2.2)
      have HC99 := Aside0.mk (Kd.C_below HC9.out hSn.2.2)
      have cg1 : w9.cell? ⟨g, 1, none⟩ = some (.slice AT tb.length cT) := (blk_cell (blk_below HG.out HB9.out) 1).trans rfl
      have HFO := Aside0.mk (show f.f2 = (rd_TSg sig (idxOf (fun f => f.f0.toList == t.f1.toList) sig)).f2 from by rw [HI.out, HFE.out])
      obtain ⟨out, hout⟩ : ∃ out, out = f.f2 := ⟨_, rfl⟩
      rw [← hout]
      rw [← hout] at HFO
      clear hSn hb9 hy2 cg0 hout
      go_wp2_with fail
      refine (indexFunc_Tb tb AT cT 40 #[.pointer (some ⟨g3, 0, none⟩)] (fun args w => enters_ Try.func40 (by kernel_rfl) rfl args w) (fun x => x.f0.toList == t.f1.toList) w9 (Kd.C_below HCT.out HB9.out) (fun j hj z W cs hW hK => by
        refine (app2_calls _ t.f1 W cs hK g3 ((hW.cell (blk_lt HX39.out)).trans ((blk_cell HX39.out 1).trans rfl))).mono ?_
        rintro e w' ⟨rfl, hb'⟩
        exact ⟨rfl, below_step hW hb'⟩) HCT.out.2.1).mono ?_
      rintro e w10 ⟨rfl, hb10⟩
      have HB10 := Aside0.mk (below_step HB9.out hb10)
      have HC10 := Aside0.mk (Kd.C_below HC99.out hb10)
      clear hb10 cg1
      have hq0 := idxOf_lt (fun x : Tb => x.f0.toList == t.f1.toList) tb
      obtain ⟨ti, hti⟩ : ∃ ti, ti = idxOf (fun x : Tb => x.f0.toList == t.f1.toList) tb := ⟨_, rfl⟩
      rw [← hti] at hq0
      rw [← hti]
      have HTI := Aside0.mk hti
      clear hti
      by_cases hneg : ti < 0
      · have hneg' : decide (ti < 0) = true := decide_eq_true hneg
        have HF := Aside0.mk (show R = none from by
          rw [HRR.out, HUS.out]
          simp only [appS]
          rw [← HTI.out, if_pos hneg])
        clear hneg
        go_wp2_with fail
        exact ⟨rfl, by rw [HF.out]; exact ⟨HB10.out, rfl⟩⟩
      · have hneg' : decide (ti < 0) = false := decide_eq_false hneg
        obtain ⟨j, rfl⟩ : ∃ j : Nat, ti = (j : Int) := ⟨ti.toNat, by omega⟩
        have hjl : j < tb.length := by omega
        obtain ⟨ad2, C1, e1, e, hz0, hz1, hz2, hzl, hzC⟩ := at_TTb HCT.out (j : Int) (by omega) (by omega)
        subst e
        obtain ⟨b, hb⟩ : ∃ b, b = rd_TTb tb (j : Int) := ⟨_, rfl⟩
        rw [← hb] at hz1 hz2 hzl hzC
        rw [show ((j : Int)).toNat = j from rfl] at hz1 hz2
        have HBE := Aside0.mk hb
        have HBM := Aside0.mk (show b ∈ tb from by rw [hb]; show tb.getD j _ ∈ tb; rw [List.getD_eq_getElem?_getD, List.getElem?_eq_getElem hjl]; exact List.getElem_mem hjl)
        have HRD := Aside0.mk (show ∀ (s : ByteArray) (W : World), s.size ≤ bulkM → Calls Try.prog 42 #[.string s, .int .i64 out, .int .i64 objs] W (GivesRd W (readS s out)) from by rw [HFO.out]; exact HRD0.out)
        have HZC := Aside0.mk hzC
        clear hz0 hzC hb hneg
        replace hz1 := (HB10.out.cell (World.block_lt_of_cell? _ _ hz1)).trans hz1
        replace hz2 := (HB10.out.cell (World.block_lt_of_cell? _ _ hz2)).trans hz2
        have cg1 : w10.cell? ⟨g, 1, none⟩ = some (.slice (some ad2) tb.length cT) := (blk_cell (blk_below HG.out HB10.out) 1).trans rfl
        have hj1 : (j : Int) < (tb.length : Int) := by omega
        have HRX := Aside0.mk (show R = readS (rowS b.f1 ss b.f2) out from by
          rw [HRR.out, HUS.out]
          simp only [appS]
          rw [← HTI.out, if_neg (by omega), ← HBE.out, HFO.out, HSS.out])
        go_wp2_with fail
        obtain ⟨s0, hs0⟩ : ∃ s0, s0 = b.f2 := ⟨_, rfl⟩
        rw [← hs0]
        have HS0 := Aside0.mk hs0
        clear hs0 hz1 hz2
        have hbl : b.f1.length ≤ 9223372036854775807 := HZC.out.2.1
        go_loopg [10, 12, 73] b.f1.length (fun gg v10 _ v73 wr2 => ∃ m : Nat, m ≤ b.f1.length ∧ b.f1.length - m ≤ gg ∧ v73 = .int .i64 m ∧ v10 = .string s0 ∧ Aside0 (∀ q, q < m → decide (listsOf (rd_TRw b.f1 (q : Int)).f0 = listsOf ss) = false) ∧ Aside0 (Below w10.heap.size w10 wr2))
        case atStart => exact ⟨0, Nat.zero_le _, by omega, rfl, rfl, ⟨fun q hq => absurd hq (Nat.not_lt_zero _)⟩, ⟨Below.refl _ _⟩⟩
        case round =>
          obtain ⟨m, hm, hmg, rfl, rfl, HQ, BW2⟩ := hrel
          have HBW2 := Aside0.mk (below_step HB10.out BW2.out)
          have cg3 : wr.cell? ⟨g, 3, none⟩ = some (.int .i64 objs) := (blk_cell (blk_below HG.out HBW2.out) 3).trans rfl
          by_cases hlt2 : m < b.f1.length
          · obtain ⟨ad3, D1, f1, e, hr0, hr1, hrl, hrC⟩ := at_TRw HZC.out (m : Int) (by omega) (by omega)
            subst e
            obtain ⟨r, hr⟩ : ∃ r, r = rd_TRw b.f1 (m : Int) := ⟨_, rfl⟩
            rw [← hr] at hr0 hr1 hrl hrC
            rw [show ((m : Int)).toNat = m from rfl] at hr0 hr1
            have HRE := Aside0.mk hr
            have HRC := Aside0.mk (Kd.C_below hrC HBW2.out)
            replace hr0 := (HBW2.out.cell (World.block_lt_of_cell? _ _ hr0)).trans hr0
            replace hr1 := (HBW2.out.cell (World.block_lt_of_cell? _ _ hr1)).trans hr1
            clear hr hrC
            go_wp2_with (first
              | ((with_reducible refine gate_dst (N := 76) rfl ?_); refine wpList_load_cells rfl 32 _ rfl (ad3.add (m * 2)) rfl [.slice D1 r.f0.length f1, .string r.f1] _ Try.underlying32 rfl size_Rw (fun j v hj => by rcases j with _ | _ | j <;> first | (injection hj with hj; subst hj; first | exact hr0 | exact hr1) | (simp at hj)) ?_)
              | ((with_reducible refine gate_dst (N := 78) rfl ?_); (obtain ⟨w12, hw12⟩ : ∃ w12, w12 = wr.alloc (.cells #[.slice D1 r.f0.length f1, .string r.f1] 32) := ⟨_, rfl⟩); (obtain ⟨g12, hg12⟩ : ∃ g12, g12 = wr.heap.size := ⟨_, rfl⟩); rw [← hw12]; rw [← hg12]; (have hb12 : Below wr.heap.size wr w12 := (by rw [hw12]; exact (Below.refl _ _).alloc (Nat.le_refl _) _)); (have HX12 := Aside0.mk (show w12.heap[g12]? = some (.cells #[.slice D1 r.f0.length f1, .string r.f1] 32 (0, 0)) from (by rw [hw12, hg12]; exact blk_new _ _))); have HG12 := Aside0.mk hg12; clear hw12 hg12; have c120 : w12.cell? ⟨g12, 0, none⟩ = some (.slice D1 r.f0.length f1) := (blk_cell HX12.out 0).trans rfl; have c121 : w12.cell? ⟨g12, 1, none⟩ = some (.string r.f1) := (blk_cell HX12.out 1).trans rfl; clear hr0 hr1 cg3))
            refine (equalStr_calls r.f0 ss D1 A9 f1 c9 w12 (Kd.C_below HRC.out hb12) (Kd.C_below HC10.out (below_step BW2.out hb12)) hrl hl9).mono ?_
            obtain ⟨q, hq⟩ : ∃ q, q = decide (listsOf r.f0 = listsOf ss) := ⟨_, rfl⟩
            rw [← hq]
            have HQQ := Aside0.mk hq
            clear hq
            rintro e w13 ⟨rfl, hb13⟩
            have HBW := Aside0.mk (below_step (below_step HBW2.out hb12) hb13)
            have BW13 := Aside0.mk (below_step (below_step BW2.out hb12) hb13)
            replace c121 := (hb13.cell (World.block_lt_of_cell? _ _ c121)).trans c121
            have cg3 : w13.cell? ⟨g, 3, none⟩ = some (.int .i64 objs) := (blk_cell (blk_below HG.out HBW.out) 3).trans rfl
            clear hb12 hb13 c120
            cases q with
            | false =>
              clear cg3 c121
              go_wp2
              go_roundg (b.f1.length - (m + 1))
              case measure => omega
              case rel =>
                refine ⟨m + 1, by omega, Nat.le_refl _, by first | rfl | go_num, rfl, ⟨fun q hq => ?_⟩, BW13⟩
                by_cases e : q = m
                · rw [e, ← HRE.out]; exact HQQ.out.symm
                · exact HQ.out q (by have h1 : q < m + 1 := hq; omega)
            | true =>
              have HROW := Aside0.mk (show rowS b.f1 ss b.f2 = r.f1 from by
                rw [rowS_hit b.f1 ss b.f2 m hlt2 HQ.out (by rw [← HRE.out]; exact HQQ.out.symm), ← HRE.out])
              go_wp2_with fail
              refine (HRD.out r.f1 w13 ((HTX.out b HBM.out).2 r (by rw [HRE.out]; exact rd_mem b.f1 m hlt2))).mono ?_
              cases hv : readS r.f1 out with
              | none =>
                rintro e0 w20 ⟨hb20, v, rfl, _⟩
                have HF := Aside0.mk (show R = none from by rw [HRX.out, HROW.out, hv])
                have HB20 := Aside0.mk (below_step HBW.out hb20)
                clear hv hb20
                go_wp2_with fail
                exact ⟨rfl, by rw [HF.out]; exact ⟨HB20.out, rfl⟩⟩
              | some u =>
                rintro e0 w20 ⟨hb20, v, rfl, hvv⟩
                have HF := Aside0.mk (show R = some u from by rw [HRX.out, HROW.out, hv])
                have HB20 := Aside0.mk (below_step HBW.out hb20)
                have HVV := Aside0.mk (hvv u rfl)
                clear hv hb20 hvv
                go_wp2
                go_ret
                exact ⟨HB20.out, by rw [HF.out]; exact ⟨_, rfl, HVV.out⟩⟩
          · have hme : m = b.f1.length := by omega
            have HROW := Aside0.mk (show rowS b.f1 ss b.f2 = s0 from by rw [HS0.out]; exact rowS_miss b.f1 ss b.f2 (fun q hq => HQ.out q (by omega)))
            have HBW := HBW2
            clear hme
            go_wp2_with fail
            refine (HRD.out s0 wr (by rw [HS0.out]; exact (HTX.out b HBM.out).1)).mono ?_
            cases hv : readS s0 out with
            | none =>
              rintro e0 w20 ⟨hb20, v, rfl, _⟩
              have HF := Aside0.mk (show R = none from by rw [HRX.out, HROW.out, hv])
              have HB20 := Aside0.mk (below_step HBW.out hb20)
              clear hv hb20
              go_wp2_with fail
              exact ⟨rfl, by rw [HF.out]; exact ⟨HB20.out, rfl⟩⟩
            | some u =>
              rintro e0 w20 ⟨hb20, v, rfl, hvv⟩
              have HF := Aside0.mk (show R = some u from by rw [HRX.out, HROW.out, hv])
              have HB20 := Aside0.mk (below_step HBW.out hb20)
              have HVV := Aside0.mk (hvv u rfl)
              clear hv hb20 hvv
              go_wp2
              go_ret
              exact ⟨HB20.out, by rw [HF.out]; exact ⟨_, rfl, HVV.out⟩⟩
end Go.Proofs.Ytiokmnabkccpcaa.Kit
