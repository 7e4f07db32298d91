/- Terms: the checker's of, operators that ask for no name. -/
import Derived.Test.YtiokmnabkccpcaaBd
set_option linter.unusedVariables false
set_option linter.unusedSimpArgs false
namespace Go.Proofs.Ytiokmnabkccpcaa.Kit
open Go.RowKit Go.Proofs.YtiokmnabkccpcaaW.PrintWords Go.Proofs.YtiokmnabkccpcaaW.PrintLast Go.Proofs.YtiokmnabkccpcaaW.PrintMore

section
variable {P : Program} {ops : Array Oper} {rest : List Oper} {o : Oper} {a : Act} {Q : Exit → Act → World → Prop} {W : World}
/-- A store of one cell into a block of the call's own, of one cell. -/
theorem store_one_event (hgd : o.guard = none) (hN : o.dst = none) (ty : TypeId) (x y : Operand) (ho : o.op = .store ty x y)
    (g : Nat) (v : Value) (hx : a.eval x = .pointer (some ⟨g, 0, none⟩)) (hy : a.eval y = v) (hv : v.cells = #[v]) (h1 : v.oneCell' = true)
    (t : TypeId) (old : Value) (hg : W.heap[g]? = some (.cells #[old] t (0, 0))) (hi : (P.info? ty).map (·.size) = some 1)
    (h : ∀ w1, w1.heap[g]? = some (.cells #[v] t (0, 0)) → Wrote g W w1 → wpList P ops Q rest a w1) : wpList P ops Q (o :: rest) a W := by
  refine wpList_plain hgd fun K hK => ?_
  have hs := run_storeCells_at (P := P) g 0 t [v] 0 #[old] W hg (by simp) (by simpa using h1)
  cases hq : P.info? ty with
  | none => simp [hq] at hi
  | some i =>
    have hz : i.size = 1 := by simpa [hq] using hi
    have hst : (storeVar ty ⟨g, 0, none⟩ v).run P W = .ok () (W.setRow g #[v]) := by
      simp only [List.take_zero, Nat.zero_add, List.nil_append, Nat.add_zero, List.length_cons, List.length_nil, List.drop_one, List.tail_cons, List.append_nil, show (#[old] : Array Value).toList = [old] from rfl] at hs
      simp [storeVar, sizeOf, typeInfo, hq, hz, hv, hs]
    unfold Oper.wp execOp
    simp only [ho, hx, hy, Instr.storeAt, Instr.sureAddr, Sem.run_bind, Sem.run_pure, Result.andThen_ok, hst]
    show K (a.put o.dst undef) _
    rw [hN]
    exact hK _ _ (h _ (wrote_setRow (P := P) W g #[v] #[old] t hg).1 (wrote_setRow (P := P) W g #[v] #[old] t hg).2)
end
theorem run_loadVar_one {P : Program} (w : World) (g : Nat) (ty t : TypeId) (v : Value) (d : TypeDesc) (hg : w.heap[g]? = some (.cells #[v] t (0, 0)))
    (hu : P.underlying ty = some d) (hd : (match d with | .struct _ | .array _ _ => true | _ => false) = false) : (loadVar ty ⟨g, 0, none⟩).run P w = .ok v w := by
  have hagg : (isAgg ty).run P w = .ok false w := by
    unfold isAgg
    rw [Sem.run_bind, run_underlying hu w]
    cases d <;> simp_all
  have hc : w.cell? ⟨g, 0, none⟩ = some v := (blk_cell hg 0).trans rfl
  simp [loadVar, Sem.run_bind, hagg, run_load, hc]
theorem results_two_ones {P : Program} {fn : Func} {p q : Tmp} {ty ty' : TypeId} (h : fn.results = #[.cell p ty, .cell q ty']) (tmps : Array Value) (w : World) (g g' : Nat) (t t' : TypeId) (v v' : Value) (d d' : TypeDesc)
    (hp : tmps.getD p undef = .pointer (some ⟨g, 0, none⟩)) (hg : w.heap[g]? = some (.cells #[v] t (0, 0))) (hu : P.underlying ty = some d) (hd : (match d with | .struct _ | .array _ _ => true | _ => false) = false)
    (hp' : tmps.getD q undef = .pointer (some ⟨g', 0, none⟩)) (hg' : w.heap[g']? = some (.cells #[v'] t' (0, 0))) (hu' : P.underlying ty' = some d') (hd' : (match d' with | .struct _ | .array _ _ => true | _ => false) = false) :
    (results fn tmps).run P w = .ok (.tuple #[v, v']) w := by
  rw [Array.getD_eq_getD_getElem?] at hp hp'
  simp only [results, h]
  simp [Sem.run_bind, Result.andThen, hp, hp', asAddr, run_loadVar_one w g ty t v d hg hu hd, run_loadVar_one w g' ty' t' v' d' hg' hu' hd']

/-- What an operator asks for. -/
inductive Nd where
  | fix (i o : Int)
  | eq
  | ite
  | fn (f : Sg)
  | leaf (s : Int)
  | bind
/-- What it asks for, as a value. -/
def NdV (w : World) (v : Value) : Nd → Prop
  | .fix i o => v = .iface 92 (.agg #[.int .i64 i, .int .i64 o])
  | .eq => v = .iface 121 (.agg #[])
  | .ite => v = .iface 122 (.agg #[])
  | .leaf s => v = .iface 119 (.agg #[.int .i64 s])
  | .bind => v = .iface 94 (.agg #[.int .i64 2, .int .i64 2])
  | .fn f => ∃ cs, v = .iface 127 (.agg cs.toArray) ∧ kSg.K w f cs
/-- The last variable bound of that name. -/
def lastB (bs : List Bd) (name : ByteArray) : Option Bd := bs.reverse.find? (fun b => b.f0.toList == name.toList)
def ofS (sig : List Sg) (bs : List Bd) (t : Tm) : Except Int Nd :=
  if t.f0 = 1 then .ok (.leaf 1)
  else if t.f0 = 2 ∨ t.f0 = 3 then .ok (.leaf 2)
  else if t.f0 = 9 then .ok .eq
  else if t.f0 = 10 ∨ t.f0 = 11 then .ok (.fix 1 2)
  else if t.f0 = 12 ∨ t.f0 = 13 ∨ t.f0 = 14 ∨ t.f0 = 15 then .ok (.fix 1 1)
  else if t.f0 = 16 then .ok .ite
  else if t.f0 = 19 then .ok .bind
  else if t.f0 = 18 then match lastB bs t.f1 with
    | none => .error 32
    | some b => if b.f1 = t.f2 then .ok (.leaf b.f1) else .error 31
  else if t.f0 = 17 then
    if idxOf (fun f => f.f0.toList == t.f1.toList) sig < 0 then .error 32
    else if t.f4.length = (rd_TSg sig (idxOf (fun f => f.f0.toList == t.f1.toList) sig)).f1.length then .ok (.fn (rd_TSg sig (idxOf (fun f => f.f0.toList == t.f1.toList) sig))) else .error 30
  else .ok (.fix 2 2)
/-- What the checker's of hands back. -/
def GivesNd (w : World) (r : Except Int Nd) : Ending → World → Prop := fun e w' => Below w.heap.size w w' ∧ match r with
  | .ok n => ∃ v, e = .returned (.tuple #[v, .int .i64 0]) ∧ NdV w' v n
  | .error k => k ≠ 0 ∧ e = .returned (.tuple #[.nilIface, .int .i64 k])

theorem one_node : (Try.prog.info? 88).map (·.size) = some 1 := by kernel_rfl
theorem one_errno : (Try.prog.info? 41).map (·.size) = some 1 := by kernel_rfl
theorem size_fixed : (Try.prog.info? 92).map (·.size) = some 2 := by kernel_rfl
set_option maxHeartbeats 4000000 in
set_option maxRecDepth 100000 in
theorem of_o1 (name : ByteArray) (sort : Int) (n : ByteArray) (l : List Tm) (vs : List Bd) (ps : List Tm) (w : World) (g : Nat) (A4 : Option Addr) (c4 : Nat) (A5 : Option Addr) (c5 : Nat) (A6 : Option Addr) (c6 : Nat) (l4 : l.length ≤ c4) (l5 : vs.length ≤ c5) (l6 : ps.length ≤ c6) (sig : List Sg) (bs : List Bd) :
    Calls Try.prog 31 #[.pointer (some ⟨g, 0, none⟩), .agg #[.int .i64 1, .string name, .int .i64 sort, .string n, .slice A4 l.length c4, .slice A5 vs.length c5, .slice A6 ps.length c6]] w (GivesNd w (ofS sig bs ⟨1, name, sort, n, l, vs, ps⟩)) := by
  have HF := Aside0.mk (show ofS sig bs ⟨1, name, sort, n, l, vs, ps⟩ = .ok (.leaf 1) from rfl)
  go_enter Try.func31, Try.ntmps31
  go_wp2_with (first
    | ((with_reducible refine gate_dst (N := 3) rfl ?_); refine box_event rfl (N := 3) rfl (cs := #[.int .i64 1, .string name, .int .i64 sort, .string n, .slice A4 l.length c4, .slice A5 vs.length c5, .slice A6 ps.length c6]) (t := 40) ?hr ?_; (case hr => first | (go_simp; done) | (go_simp; rfl)); intro g3 hg3 w3 hbox3 hb3; have HG3 := Aside0.mk hg3; have HX3 := Aside0.mk hbox3; clear hg3 hbox3)
    | ((with_reducible refine gate_dst (N := 4) rfl ?_); refine box_event rfl (N := 4) rfl (cs := #[.nilIface]) (t := 88) ?hr ?_; (case hr => first | (go_simp; done) | (go_simp; rfl)); intro g4 hg4 w4 hbox4 hb4; have HG4 := Aside0.mk hg4; have HX4 := Aside0.mk hbox4; clear hg4 hbox4)
    | ((with_reducible refine gate_dst (N := 5) rfl ?_); refine box_event rfl (N := 5) rfl (cs := #[.int .i64 0]) (t := 41) ?hr ?_; (case hr => first | (go_simp; done) | (go_simp; rfl)); intro g5 hg5 w5 hbox5 hb5; have HG5 := Aside0.mk hg5; have HX5 := Aside0.mk hbox5; clear hg5 hbox5)
    | ((with_reducible refine gate_dst (N := 12) rfl ?_); (obtain ⟨w6, hw6⟩ : ∃ w6, w6 = w5.alloc (.cells #[.int .i64 2, .int .i64 2] 92) := ⟨_, rfl⟩); (obtain ⟨g6, hg6⟩ : ∃ g6, g6 = w5.heap.size := ⟨_, rfl⟩); rw [← hw6]; rw [← hg6]; (have hb6 : Below w5.heap.size w5 w6 := (by rw [hw6]; exact (Below.refl _ _).alloc (Nat.le_refl _) _)); (have HX6 := Aside0.mk (show w6.heap[g6]? = some (.cells #[.int .i64 2, .int .i64 2] 92 (0, 0)) from (by rw [hw6, hg6]; exact blk_new _ _))); have HG6 := Aside0.mk hg6; clear hw6 hg6; have hbb := Aside0.mk (below_step (below_step (below_step hb3 hb4) hb5) hb6); have c30 : w6.cell? ⟨g3, 0, none⟩ = some (.int .i64 1) := (blk_cell (blk_below (blk_below (blk_below HX3.out hb4) hb5) hb6) 0).trans rfl; have hx4 := blk_below (blk_below HX4.out hb5) hb6; have hx5 := blk_below HX5.out hb6; have hg3 := HG3.out; have hg4 := HG4.out; have hg5 := HG5.out; have hg6 := HG6.out; have hs4 := hb3.size; have hs5 := hb4.size; have HNE := Aside0.mk (show g4 ≠ g5 ∧ w.heap.size ≤ g4 ∧ w.heap.size ≤ g5 from ⟨by have := blk_lt HX4.out; omega, by omega, by omega⟩); clear hb3 hb4 hb5 hb6 hg3 hg4 hg5 hg6 hs4 hs5)
    | ((with_reducible refine gate_dst (N := 44) rfl ?_); refine wpList_load_row rfl 92 _ rfl g6 rfl 92 #[.int .i64 2, .int .i64 2] (0, 0) _ HX6.out Try.underlying92 rfl size_fixed ?_)
    | ((with_reducible refine gate_dst (N := 102) rfl ?_); refine wpList_load_row rfl 92 _ rfl g6 rfl 92 #[.int .i64 2, .int .i64 2] (0, 0) _ HX6.out Try.underlying92 rfl size_fixed ?_)
    | ((with_reducible refine gate_store (p := 4) rfl ?_); refine store_one_event rfl rfl 88 _ _ rfl g4 _ rfl rfl rfl rfl 88 _ hx4 one_node ?_; intro w7 hx7 hw7; have hx57 := (hw7.other _ HNE.out.1.symm).trans hx5)
    | ((with_reducible refine gate_store (p := 5) rfl ?_); refine store_one_event rfl rfl 41 _ _ rfl g5 _ rfl rfl rfl rfl 41 _ hx57 one_errno ?_; intro w8 hx8 hw8; have hx48 := (hw8.other _ HNE.out.1).trans hx7))
  refine bodyPost_ret (results_two_ones rfl _ _ g4 g5 88 41 _ _ _ _ rfl hx48 Try.underlying88 rfl rfl hx8 Try.underlying41 rfl) rfl ?_
  exact ⟨hw8.below _ _ HNE.out.2.2 (hw7.below _ _ HNE.out.2.1 hbb.out), by rw [HF.out]; exact ⟨_, rfl, rfl⟩⟩
set_option maxHeartbeats 4000000 in
set_option maxRecDepth 100000 in
theorem of_o2 (name : ByteArray) (sort : Int) (n : ByteArray) (l : List Tm) (vs : List Bd) (ps : List Tm) (w : World) (g : Nat) (A4 : Option Addr) (c4 : Nat) (A5 : Option Addr) (c5 : Nat) (A6 : Option Addr) (c6 : Nat) (l4 : l.length ≤ c4) (l5 : vs.length ≤ c5) (l6 : ps.length ≤ c6) (sig : List Sg) (bs : List Bd) :
    Calls Try.prog 31 #[.pointer (some ⟨g, 0, none⟩), .agg #[.int .i64 2, .string name, .int .i64 sort, .string n, .slice A4 l.length c4, .slice A5 vs.length c5, .slice A6 ps.length c6]] w (GivesNd w (ofS sig bs ⟨2, name, sort, n, l, vs, ps⟩)) := by
  have HF := Aside0.mk (show ofS sig bs ⟨2, name, sort, n, l, vs, ps⟩ = .ok (.leaf 2) from rfl)
  go_enter Try.func31, Try.ntmps31
  go_wp2_with (first
    | ((with_reducible refine gate_dst (N := 3) rfl ?_); refine box_event rfl (N := 3) rfl (cs := #[.int .i64 2, .string name, .int .i64 sort, .string n, .slice A4 l.length c4, .slice A5 vs.length c5, .slice A6 ps.length c6]) (t := 40) ?hr ?_; (case hr => first | (go_simp; done) | (go_simp; rfl)); intro g3 hg3 w3 hbox3 hb3; have HG3 := Aside0.mk hg3; have HX3 := Aside0.mk hbox3; clear hg3 hbox3)
    | ((with_reducible refine gate_dst (N := 4) rfl ?_); refine box_event rfl (N := 4) rfl (cs := #[.nilIface]) (t := 88) ?hr ?_; (case hr => first | (go_simp; done) | (go_simp; rfl)); intro g4 hg4 w4 hbox4 hb4; have HG4 := Aside0.mk hg4; have HX4 := Aside0.mk hbox4; clear hg4 hbox4)
    | ((with_reducible refine gate_dst (N := 5) rfl ?_); refine box_event rfl (N := 5) rfl (cs := #[.int .i64 0]) (t := 41) ?hr ?_; (case hr => first | (go_simp; done) | (go_simp; rfl)); intro g5 hg5 w5 hbox5 hb5; have HG5 := Aside0.mk hg5; have HX5 := Aside0.mk hbox5; clear hg5 hbox5)
    | ((with_reducible refine gate_dst (N := 12) rfl ?_); (obtain ⟨w6, hw6⟩ : ∃ w6, w6 = w5.alloc (.cells #[.int .i64 2, .int .i64 2] 92) := ⟨_, rfl⟩); (obtain ⟨g6, hg6⟩ : ∃ g6, g6 = w5.heap.size := ⟨_, rfl⟩); rw [← hw6]; rw [← hg6]; (have hb6 : Below w5.heap.size w5 w6 := (by rw [hw6]; exact (Below.refl _ _).alloc (Nat.le_refl _) _)); (have HX6 := Aside0.mk (show w6.heap[g6]? = some (.cells #[.int .i64 2, .int .i64 2] 92 (0, 0)) from (by rw [hw6, hg6]; exact blk_new _ _))); have HG6 := Aside0.mk hg6; clear hw6 hg6; have hbb := Aside0.mk (below_step (below_step (below_step hb3 hb4) hb5) hb6); have c30 : w6.cell? ⟨g3, 0, none⟩ = some (.int .i64 2) := (blk_cell (blk_below (blk_below (blk_below HX3.out hb4) hb5) hb6) 0).trans rfl; have hx4 := blk_below (blk_below HX4.out hb5) hb6; have hx5 := blk_below HX5.out hb6; have hg3 := HG3.out; have hg4 := HG4.out; have hg5 := HG5.out; have hg6 := HG6.out; have hs4 := hb3.size; have hs5 := hb4.size; have HNE := Aside0.mk (show g4 ≠ g5 ∧ w.heap.size ≤ g4 ∧ w.heap.size ≤ g5 from ⟨by have := blk_lt HX4.out; omega, by omega, by omega⟩); clear hb3 hb4 hb5 hb6 hg3 hg4 hg5 hg6 hs4 hs5)
    | ((with_reducible refine gate_dst (N := 44) rfl ?_); refine wpList_load_row rfl 92 _ rfl g6 rfl 92 #[.int .i64 2, .int .i64 2] (0, 0) _ HX6.out Try.underlying92 rfl size_fixed ?_)
    | ((with_reducible refine gate_dst (N := 102) rfl ?_); refine wpList_load_row rfl 92 _ rfl g6 rfl 92 #[.int .i64 2, .int .i64 2] (0, 0) _ HX6.out Try.underlying92 rfl size_fixed ?_)
    | ((with_reducible refine gate_store (p := 4) rfl ?_); refine store_one_event rfl rfl 88 _ _ rfl g4 _ rfl rfl rfl rfl 88 _ hx4 one_node ?_; intro w7 hx7 hw7; have hx57 := (hw7.other _ HNE.out.1.symm).trans hx5)
    | ((with_reducible refine gate_store (p := 5) rfl ?_); refine store_one_event rfl rfl 41 _ _ rfl g5 _ rfl rfl rfl rfl 41 _ hx57 one_errno ?_; intro w8 hx8 hw8; have hx48 := (hw8.other _ HNE.out.1).trans hx7))
  refine bodyPost_ret (results_two_ones rfl _ _ g4 g5 88 41 _ _ _ _ rfl hx48 Try.underlying88 rfl rfl hx8 Try.underlying41 rfl) rfl ?_
  exact ⟨hw8.below _ _ HNE.out.2.2 (hw7.below _ _ HNE.out.2.1 hbb.out), by rw [HF.out]; exact ⟨_, rfl, rfl⟩⟩
set_option maxHeartbeats 4000000 in
set_option maxRecDepth 100000 in
theorem of_o3 (name : ByteArray) (sort : Int) (n : ByteArray) (l : List Tm) (vs : List Bd) (ps : List Tm) (w : World) (g : Nat) (A4 : Option Addr) (c4 : Nat) (A5 : Option Addr) (c5 : Nat) (A6 : Option Addr) (c6 : Nat) (l4 : l.length ≤ c4) (l5 : vs.length ≤ c5) (l6 : ps.length ≤ c6) (sig : List Sg) (bs : List Bd) :
    Calls Try.prog 31 #[.pointer (some ⟨g, 0, none⟩), .agg #[.int .i64 3, .string name, .int .i64 sort, .string n, .slice A4 l.length c4, .slice A5 vs.length c5, .slice A6 ps.length c6]] w (GivesNd w (ofS sig bs ⟨3, name, sort, n, l, vs, ps⟩)) := by
  have HF := Aside0.mk (show ofS sig bs ⟨3, name, sort, n, l, vs, ps⟩ = .ok (.leaf 2) from rfl)
  go_enter Try.func31, Try.ntmps31
  go_wp2_with (first
    | ((with_reducible refine gate_dst (N := 3) rfl ?_); refine box_event rfl (N := 3) rfl (cs := #[.int .i64 3, .string name, .int .i64 sort, .string n, .slice A4 l.length c4, .slice A5 vs.length c5, .slice A6 ps.length c6]) (t := 40) ?hr ?_; (case hr => first | (go_simp; done) | (go_simp; rfl)); intro g3 hg3 w3 hbox3 hb3; have HG3 := Aside0.mk hg3; have HX3 := Aside0.mk hbox3; clear hg3 hbox3)
    | ((with_reducible refine gate_dst (N := 4) rfl ?_); refine box_event rfl (N := 4) rfl (cs := #[.nilIface]) (t := 88) ?hr ?_; (case hr => first | (go_simp; done) | (go_simp; rfl)); intro g4 hg4 w4 hbox4 hb4; have HG4 := Aside0.mk hg4; have HX4 := Aside0.mk hbox4; clear hg4 hbox4)
    | ((with_reducible refine gate_dst (N := 5) rfl ?_); refine box_event rfl (N := 5) rfl (cs := #[.int .i64 0]) (t := 41) ?hr ?_; (case hr => first | (go_simp; done) | (go_simp; rfl)); intro g5 hg5 w5 hbox5 hb5; have HG5 := Aside0.mk hg5; have HX5 := Aside0.mk hbox5; clear hg5 hbox5)
    | ((with_reducible refine gate_dst (N := 12) rfl ?_); (obtain ⟨w6, hw6⟩ : ∃ w6, w6 = w5.alloc (.cells #[.int .i64 2, .int .i64 2] 92) := ⟨_, rfl⟩); (obtain ⟨g6, hg6⟩ : ∃ g6, g6 = w5.heap.size := ⟨_, rfl⟩); rw [← hw6]; rw [← hg6]; (have hb6 : Below w5.heap.size w5 w6 := (by rw [hw6]; exact (Below.refl _ _).alloc (Nat.le_refl _) _)); (have HX6 := Aside0.mk (show w6.heap[g6]? = some (.cells #[.int .i64 2, .int .i64 2] 92 (0, 0)) from (by rw [hw6, hg6]; exact blk_new _ _))); have HG6 := Aside0.mk hg6; clear hw6 hg6; have hbb := Aside0.mk (below_step (below_step (below_step hb3 hb4) hb5) hb6); have c30 : w6.cell? ⟨g3, 0, none⟩ = some (.int .i64 3) := (blk_cell (blk_below (blk_below (blk_below HX3.out hb4) hb5) hb6) 0).trans rfl; have hx4 := blk_below (blk_below HX4.out hb5) hb6; have hx5 := blk_below HX5.out hb6; have hg3 := HG3.out; have hg4 := HG4.out; have hg5 := HG5.out; have hg6 := HG6.out; have hs4 := hb3.size; have hs5 := hb4.size; have HNE := Aside0.mk (show g4 ≠ g5 ∧ w.heap.size ≤ g4 ∧ w.heap.size ≤ g5 from ⟨by have := blk_lt HX4.out; omega, by omega, by omega⟩); clear hb3 hb4 hb5 hb6 hg3 hg4 hg5 hg6 hs4 hs5)
    | ((with_reducible refine gate_dst (N := 44) rfl ?_); refine wpList_load_row rfl 92 _ rfl g6 rfl 92 #[.int .i64 2, .int .i64 2] (0, 0) _ HX6.out Try.underlying92 rfl size_fixed ?_)
    | ((with_reducible refine gate_dst (N := 102) rfl ?_); refine wpList_load_row rfl 92 _ rfl g6 rfl 92 #[.int .i64 2, .int .i64 2] (0, 0) _ HX6.out Try.underlying92 rfl size_fixed ?_)
    | ((with_reducible refine gate_store (p := 4) rfl ?_); refine store_one_event rfl rfl 88 _ _ rfl g4 _ rfl rfl rfl rfl 88 _ hx4 one_node ?_; intro w7 hx7 hw7; have hx57 := (hw7.other _ HNE.out.1.symm).trans hx5)
    | ((with_reducible refine gate_store (p := 5) rfl ?_); refine store_one_event rfl rfl 41 _ _ rfl g5 _ rfl rfl rfl rfl 41 _ hx57 one_errno ?_; intro w8 hx8 hw8; have hx48 := (hw8.other _ HNE.out.1).trans hx7))
  refine bodyPost_ret (results_two_ones rfl _ _ g4 g5 88 41 _ _ _ _ rfl hx48 Try.underlying88 rfl rfl hx8 Try.underlying41 rfl) rfl ?_
  exact ⟨hw8.below _ _ HNE.out.2.2 (hw7.below _ _ HNE.out.2.1 hbb.out), by rw [HF.out]; exact ⟨_, rfl, rfl⟩⟩
set_option maxHeartbeats 4000000 in
set_option maxRecDepth 100000 in
theorem of_o9 (name : ByteArray) (sort : Int) (n : ByteArray) (l : List Tm) (vs : List Bd) (ps : List Tm) (w : World) (g : Nat) (A4 : Option Addr) (c4 : Nat) (A5 : Option Addr) (c5 : Nat) (A6 : Option Addr) (c6 : Nat) (l4 : l.length ≤ c4) (l5 : vs.length ≤ c5) (l6 : ps.length ≤ c6) (sig : List Sg) (bs : List Bd) :
    Calls Try.prog 31 #[.pointer (some ⟨g, 0, none⟩), .agg #[.int .i64 9, .string name, .int .i64 sort, .string n, .slice A4 l.length c4, .slice A5 vs.length c5, .slice A6 ps.length c6]] w (GivesNd w (ofS sig bs ⟨9, name, sort, n, l, vs, ps⟩)) := by
  have HF := Aside0.mk (show ofS sig bs ⟨9, name, sort, n, l, vs, ps⟩ = .ok (.eq) from rfl)
  go_enter Try.func31, Try.ntmps31
  go_wp2_with (first
    | ((with_reducible refine gate_dst (N := 3) rfl ?_); refine box_event rfl (N := 3) rfl (cs := #[.int .i64 9, .string name, .int .i64 sort, .string n, .slice A4 l.length c4, .slice A5 vs.length c5, .slice A6 ps.length c6]) (t := 40) ?hr ?_; (case hr => first | (go_simp; done) | (go_simp; rfl)); intro g3 hg3 w3 hbox3 hb3; have HG3 := Aside0.mk hg3; have HX3 := Aside0.mk hbox3; clear hg3 hbox3)
    | ((with_reducible refine gate_dst (N := 4) rfl ?_); refine box_event rfl (N := 4) rfl (cs := #[.nilIface]) (t := 88) ?hr ?_; (case hr => first | (go_simp; done) | (go_simp; rfl)); intro g4 hg4 w4 hbox4 hb4; have HG4 := Aside0.mk hg4; have HX4 := Aside0.mk hbox4; clear hg4 hbox4)
    | ((with_reducible refine gate_dst (N := 5) rfl ?_); refine box_event rfl (N := 5) rfl (cs := #[.int .i64 0]) (t := 41) ?hr ?_; (case hr => first | (go_simp; done) | (go_simp; rfl)); intro g5 hg5 w5 hbox5 hb5; have HG5 := Aside0.mk hg5; have HX5 := Aside0.mk hbox5; clear hg5 hbox5)
    | ((with_reducible refine gate_dst (N := 12) rfl ?_); (obtain ⟨w6, hw6⟩ : ∃ w6, w6 = w5.alloc (.cells #[.int .i64 2, .int .i64 2] 92) := ⟨_, rfl⟩); (obtain ⟨g6, hg6⟩ : ∃ g6, g6 = w5.heap.size := ⟨_, rfl⟩); rw [← hw6]; rw [← hg6]; (have hb6 : Below w5.heap.size w5 w6 := (by rw [hw6]; exact (Below.refl _ _).alloc (Nat.le_refl _) _)); (have HX6 := Aside0.mk (show w6.heap[g6]? = some (.cells #[.int .i64 2, .int .i64 2] 92 (0, 0)) from (by rw [hw6, hg6]; exact blk_new _ _))); have HG6 := Aside0.mk hg6; clear hw6 hg6; have hbb := Aside0.mk (below_step (below_step (below_step hb3 hb4) hb5) hb6); have c30 : w6.cell? ⟨g3, 0, none⟩ = some (.int .i64 9) := (blk_cell (blk_below (blk_below (blk_below HX3.out hb4) hb5) hb6) 0).trans rfl; have hx4 := blk_below (blk_below HX4.out hb5) hb6; have hx5 := blk_below HX5.out hb6; have hg3 := HG3.out; have hg4 := HG4.out; have hg5 := HG5.out; have hg6 := HG6.out; have hs4 := hb3.size; have hs5 := hb4.size; have HNE := Aside0.mk (show g4 ≠ g5 ∧ w.heap.size ≤ g4 ∧ w.heap.size ≤ g5 from ⟨by have := blk_lt HX4.out; omega, by omega, by omega⟩); clear hb3 hb4 hb5 hb6 hg3 hg4 hg5 hg6 hs4 hs5)
    | ((with_reducible refine gate_dst (N := 44) rfl ?_); refine wpList_load_row rfl 92 _ rfl g6 rfl 92 #[.int .i64 2, .int .i64 2] (0, 0) _ HX6.out Try.underlying92 rfl size_fixed ?_)
    | ((with_reducible refine gate_dst (N := 102) rfl ?_); refine wpList_load_row rfl 92 _ rfl g6 rfl 92 #[.int .i64 2, .int .i64 2] (0, 0) _ HX6.out Try.underlying92 rfl size_fixed ?_)
    | ((with_reducible refine gate_store (p := 4) rfl ?_); refine store_one_event rfl rfl 88 _ _ rfl g4 _ rfl rfl rfl rfl 88 _ hx4 one_node ?_; intro w7 hx7 hw7; have hx57 := (hw7.other _ HNE.out.1.symm).trans hx5)
    | ((with_reducible refine gate_store (p := 5) rfl ?_); refine store_one_event rfl rfl 41 _ _ rfl g5 _ rfl rfl rfl rfl 41 _ hx57 one_errno ?_; intro w8 hx8 hw8; have hx48 := (hw8.other _ HNE.out.1).trans hx7))
  refine bodyPost_ret (results_two_ones rfl _ _ g4 g5 88 41 _ _ _ _ rfl hx48 Try.underlying88 rfl rfl hx8 Try.underlying41 rfl) rfl ?_
  exact ⟨hw8.below _ _ HNE.out.2.2 (hw7.below _ _ HNE.out.2.1 hbb.out), by rw [HF.out]; exact ⟨_, rfl, rfl⟩⟩
set_option maxHeartbeats 4000000 in
set_option maxRecDepth 100000 in
theorem of_o10 (name : ByteArray) (sort : Int) (n : ByteArray) (l : List Tm) (vs : List Bd) (ps : List Tm) (w : World) (g : Nat) (A4 : Option Addr) (c4 : Nat) (A5 : Option Addr) (c5 : Nat) (A6 : Option Addr) (c6 : Nat) (l4 : l.length ≤ c4) (l5 : vs.length ≤ c5) (l6 : ps.length ≤ c6) (sig : List Sg) (bs : List Bd) :
    Calls Try.prog 31 #[.pointer (some ⟨g, 0, none⟩), .agg #[.int .i64 10, .string name, .int .i64 sort, .string n, .slice A4 l.length c4, .slice A5 vs.length c5, .slice A6 ps.length c6]] w (GivesNd w (ofS sig bs ⟨10, name, sort, n, l, vs, ps⟩)) := by
  have HF := Aside0.mk (show ofS sig bs ⟨10, name, sort, n, l, vs, ps⟩ = .ok (.fix 1 2) from rfl)
  go_enter Try.func31, Try.ntmps31
  go_wp2_with (first
    | ((with_reducible refine gate_dst (N := 3) rfl ?_); refine box_event rfl (N := 3) rfl (cs := #[.int .i64 10, .string name, .int .i64 sort, .string n, .slice A4 l.length c4, .slice A5 vs.length c5, .slice A6 ps.length c6]) (t := 40) ?hr ?_; (case hr => first | (go_simp; done) | (go_simp; rfl)); intro g3 hg3 w3 hbox3 hb3; have HG3 := Aside0.mk hg3; have HX3 := Aside0.mk hbox3; clear hg3 hbox3)
    | ((with_reducible refine gate_dst (N := 4) rfl ?_); refine box_event rfl (N := 4) rfl (cs := #[.nilIface]) (t := 88) ?hr ?_; (case hr => first | (go_simp; done) | (go_simp; rfl)); intro g4 hg4 w4 hbox4 hb4; have HG4 := Aside0.mk hg4; have HX4 := Aside0.mk hbox4; clear hg4 hbox4)
    | ((with_reducible refine gate_dst (N := 5) rfl ?_); refine box_event rfl (N := 5) rfl (cs := #[.int .i64 0]) (t := 41) ?hr ?_; (case hr => first | (go_simp; done) | (go_simp; rfl)); intro g5 hg5 w5 hbox5 hb5; have HG5 := Aside0.mk hg5; have HX5 := Aside0.mk hbox5; clear hg5 hbox5)
    | ((with_reducible refine gate_dst (N := 12) rfl ?_); (obtain ⟨w6, hw6⟩ : ∃ w6, w6 = w5.alloc (.cells #[.int .i64 2, .int .i64 2] 92) := ⟨_, rfl⟩); (obtain ⟨g6, hg6⟩ : ∃ g6, g6 = w5.heap.size := ⟨_, rfl⟩); rw [← hw6]; rw [← hg6]; (have hb6 : Below w5.heap.size w5 w6 := (by rw [hw6]; exact (Below.refl _ _).alloc (Nat.le_refl _) _)); (have HX6 := Aside0.mk (show w6.heap[g6]? = some (.cells #[.int .i64 2, .int .i64 2] 92 (0, 0)) from (by rw [hw6, hg6]; exact blk_new _ _))); have HG6 := Aside0.mk hg6; clear hw6 hg6; have hbb := Aside0.mk (below_step (below_step (below_step hb3 hb4) hb5) hb6); have c30 : w6.cell? ⟨g3, 0, none⟩ = some (.int .i64 10) := (blk_cell (blk_below (blk_below (blk_below HX3.out hb4) hb5) hb6) 0).trans rfl; have hx4 := blk_below (blk_below HX4.out hb5) hb6; have hx5 := blk_below HX5.out hb6; have hg3 := HG3.out; have hg4 := HG4.out; have hg5 := HG5.out; have hg6 := HG6.out; have hs4 := hb3.size; have hs5 := hb4.size; have HNE := Aside0.mk (show g4 ≠ g5 ∧ w.heap.size ≤ g4 ∧ w.heap.size ≤ g5 from ⟨by have := blk_lt HX4.out; omega, by omega, by omega⟩); clear hb3 hb4 hb5 hb6 hg3 hg4 hg5 hg6 hs4 hs5)
    | ((with_reducible refine gate_dst (N := 44) rfl ?_); refine wpList_load_row rfl 92 _ rfl g6 rfl 92 #[.int .i64 2, .int .i64 2] (0, 0) _ HX6.out Try.underlying92 rfl size_fixed ?_)
    | ((with_reducible refine gate_dst (N := 102) rfl ?_); refine wpList_load_row rfl 92 _ rfl g6 rfl 92 #[.int .i64 2, .int .i64 2] (0, 0) _ HX6.out Try.underlying92 rfl size_fixed ?_)
    | ((with_reducible refine gate_store (p := 4) rfl ?_); refine store_one_event rfl rfl 88 _ _ rfl g4 _ rfl rfl rfl rfl 88 _ hx4 one_node ?_; intro w7 hx7 hw7; have hx57 := (hw7.other _ HNE.out.1.symm).trans hx5)
    | ((with_reducible refine gate_store (p := 5) rfl ?_); refine store_one_event rfl rfl 41 _ _ rfl g5 _ rfl rfl rfl rfl 41 _ hx57 one_errno ?_; intro w8 hx8 hw8; have hx48 := (hw8.other _ HNE.out.1).trans hx7))
  refine bodyPost_ret (results_two_ones rfl _ _ g4 g5 88 41 _ _ _ _ rfl hx48 Try.underlying88 rfl rfl hx8 Try.underlying41 rfl) rfl ?_
  exact ⟨hw8.below _ _ HNE.out.2.2 (hw7.below _ _ HNE.out.2.1 hbb.out), by rw [HF.out]; exact ⟨_, rfl, rfl⟩⟩
set_option maxHeartbeats 4000000 in
set_option maxRecDepth 100000 in
theorem of_o11 (name : ByteArray) (sort : Int) (n : ByteArray) (l : List Tm) (vs : List Bd) (ps : List Tm) (w : World) (g : Nat) (A4 : Option Addr) (c4 : Nat) (A5 : Option Addr) (c5 : Nat) (A6 : Option Addr) (c6 : Nat) (l4 : l.length ≤ c4) (l5 : vs.length ≤ c5) (l6 : ps.length ≤ c6) (sig : List Sg) (bs : List Bd) :
    Calls Try.prog 31 #[.pointer (some ⟨g, 0, none⟩), .agg #[.int .i64 11, .string name, .int .i64 sort, .string n, .slice A4 l.length c4, .slice A5 vs.length c5, .slice A6 ps.length c6]] w (GivesNd w (ofS sig bs ⟨11, name, sort, n, l, vs, ps⟩)) := by
  have HF := Aside0.mk (show ofS sig bs ⟨11, name, sort, n, l, vs, ps⟩ = .ok (.fix 1 2) from rfl)
  go_enter Try.func31, Try.ntmps31
  go_wp2_with (first
    | ((with_reducible refine gate_dst (N := 3) rfl ?_); refine box_event rfl (N := 3) rfl (cs := #[.int .i64 11, .string name, .int .i64 sort, .string n, .slice A4 l.length c4, .slice A5 vs.length c5, .slice A6 ps.length c6]) (t := 40) ?hr ?_; (case hr => first | (go_simp; done) | (go_simp; rfl)); intro g3 hg3 w3 hbox3 hb3; have HG3 := Aside0.mk hg3; have HX3 := Aside0.mk hbox3; clear hg3 hbox3)
    | ((with_reducible refine gate_dst (N := 4) rfl ?_); refine box_event rfl (N := 4) rfl (cs := #[.nilIface]) (t := 88) ?hr ?_; (case hr => first | (go_simp; done) | (go_simp; rfl)); intro g4 hg4 w4 hbox4 hb4; have HG4 := Aside0.mk hg4; have HX4 := Aside0.mk hbox4; clear hg4 hbox4)
    | ((with_reducible refine gate_dst (N := 5) rfl ?_); refine box_event rfl (N := 5) rfl (cs := #[.int .i64 0]) (t := 41) ?hr ?_; (case hr => first | (go_simp; done) | (go_simp; rfl)); intro g5 hg5 w5 hbox5 hb5; have HG5 := Aside0.mk hg5; have HX5 := Aside0.mk hbox5; clear hg5 hbox5)
    | ((with_reducible refine gate_dst (N := 12) rfl ?_); (obtain ⟨w6, hw6⟩ : ∃ w6, w6 = w5.alloc (.cells #[.int .i64 2, .int .i64 2] 92) := ⟨_, rfl⟩); (obtain ⟨g6, hg6⟩ : ∃ g6, g6 = w5.heap.size := ⟨_, rfl⟩); rw [← hw6]; rw [← hg6]; (have hb6 : Below w5.heap.size w5 w6 := (by rw [hw6]; exact (Below.refl _ _).alloc (Nat.le_refl _) _)); (have HX6 := Aside0.mk (show w6.heap[g6]? = some (.cells #[.int .i64 2, .int .i64 2] 92 (0, 0)) from (by rw [hw6, hg6]; exact blk_new _ _))); have HG6 := Aside0.mk hg6; clear hw6 hg6; have hbb := Aside0.mk (below_step (below_step (below_step hb3 hb4) hb5) hb6); have c30 : w6.cell? ⟨g3, 0, none⟩ = some (.int .i64 11) := (blk_cell (blk_below (blk_below (blk_below HX3.out hb4) hb5) hb6) 0).trans rfl; have hx4 := blk_below (blk_below HX4.out hb5) hb6; have hx5 := blk_below HX5.out hb6; have hg3 := HG3.out; have hg4 := HG4.out; have hg5 := HG5.out; have hg6 := HG6.out; have hs4 := hb3.size; have hs5 := hb4.size; have HNE := Aside0.mk (show g4 ≠ g5 ∧ w.heap.size ≤ g4 ∧ w.heap.size ≤ g5 from ⟨by have := blk_lt HX4.out; omega, by omega, by omega⟩); clear hb3 hb4 hb5 hb6 hg3 hg4 hg5 hg6 hs4 hs5)
    | ((with_reducible refine gate_dst (N := 44) rfl ?_); refine wpList_load_row rfl 92 _ rfl g6 rfl 92 #[.int .i64 2, .int .i64 2] (0, 0) _ HX6.out Try.underlying92 rfl size_fixed ?_)
    | ((with_reducible refine gate_dst (N := 102) rfl ?_); refine wpList_load_row rfl 92 _ rfl g6 rfl 92 #[.int .i64 2, .int .i64 2] (0, 0) _ HX6.out Try.underlying92 rfl size_fixed ?_)
    | ((with_reducible refine gate_store (p := 4) rfl ?_); refine store_one_event rfl rfl 88 _ _ rfl g4 _ rfl rfl rfl rfl 88 _ hx4 one_node ?_; intro w7 hx7 hw7; have hx57 := (hw7.other _ HNE.out.1.symm).trans hx5)
    | ((with_reducible refine gate_store (p := 5) rfl ?_); refine store_one_event rfl rfl 41 _ _ rfl g5 _ rfl rfl rfl rfl 41 _ hx57 one_errno ?_; intro w8 hx8 hw8; have hx48 := (hw8.other _ HNE.out.1).trans hx7))
  refine bodyPost_ret (results_two_ones rfl _ _ g4 g5 88 41 _ _ _ _ rfl hx48 Try.underlying88 rfl rfl hx8 Try.underlying41 rfl) rfl ?_
  exact ⟨hw8.below _ _ HNE.out.2.2 (hw7.below _ _ HNE.out.2.1 hbb.out), by rw [HF.out]; exact ⟨_, rfl, rfl⟩⟩
set_option maxHeartbeats 4000000 in
set_option maxRecDepth 100000 in
theorem of_o12 (name : ByteArray) (sort : Int) (n : ByteArray) (l : List Tm) (vs : List Bd) (ps : List Tm) (w : World) (g : Nat) (A4 : Option Addr) (c4 : Nat) (A5 : Option Addr) (c5 : Nat) (A6 : Option Addr) (c6 : Nat) (l4 : l.length ≤ c4) (l5 : vs.length ≤ c5) (l6 : ps.length ≤ c6) (sig : List Sg) (bs : List Bd) :
    Calls Try.prog 31 #[.pointer (some ⟨g, 0, none⟩), .agg #[.int .i64 12, .string name, .int .i64 sort, .string n, .slice A4 l.length c4, .slice A5 vs.length c5, .slice A6 ps.length c6]] w (GivesNd w (ofS sig bs ⟨12, name, sort, n, l, vs, ps⟩)) := by
  have HF := Aside0.mk (show ofS sig bs ⟨12, name, sort, n, l, vs, ps⟩ = .ok (.fix 1 1) from rfl)
  go_enter Try.func31, Try.ntmps31
  go_wp2_with (first
    | ((with_reducible refine gate_dst (N := 3) rfl ?_); refine box_event rfl (N := 3) rfl (cs := #[.int .i64 12, .string name, .int .i64 sort, .string n, .slice A4 l.length c4, .slice A5 vs.length c5, .slice A6 ps.length c6]) (t := 40) ?hr ?_; (case hr => first | (go_simp; done) | (go_simp; rfl)); intro g3 hg3 w3 hbox3 hb3; have HG3 := Aside0.mk hg3; have HX3 := Aside0.mk hbox3; clear hg3 hbox3)
    | ((with_reducible refine gate_dst (N := 4) rfl ?_); refine box_event rfl (N := 4) rfl (cs := #[.nilIface]) (t := 88) ?hr ?_; (case hr => first | (go_simp; done) | (go_simp; rfl)); intro g4 hg4 w4 hbox4 hb4; have HG4 := Aside0.mk hg4; have HX4 := Aside0.mk hbox4; clear hg4 hbox4)
    | ((with_reducible refine gate_dst (N := 5) rfl ?_); refine box_event rfl (N := 5) rfl (cs := #[.int .i64 0]) (t := 41) ?hr ?_; (case hr => first | (go_simp; done) | (go_simp; rfl)); intro g5 hg5 w5 hbox5 hb5; have HG5 := Aside0.mk hg5; have HX5 := Aside0.mk hbox5; clear hg5 hbox5)
    | ((with_reducible refine gate_dst (N := 12) rfl ?_); (obtain ⟨w6, hw6⟩ : ∃ w6, w6 = w5.alloc (.cells #[.int .i64 2, .int .i64 2] 92) := ⟨_, rfl⟩); (obtain ⟨g6, hg6⟩ : ∃ g6, g6 = w5.heap.size := ⟨_, rfl⟩); rw [← hw6]; rw [← hg6]; (have hb6 : Below w5.heap.size w5 w6 := (by rw [hw6]; exact (Below.refl _ _).alloc (Nat.le_refl _) _)); (have HX6 := Aside0.mk (show w6.heap[g6]? = some (.cells #[.int .i64 2, .int .i64 2] 92 (0, 0)) from (by rw [hw6, hg6]; exact blk_new _ _))); have HG6 := Aside0.mk hg6; clear hw6 hg6; have hbb := Aside0.mk (below_step (below_step (below_step hb3 hb4) hb5) hb6); have c30 : w6.cell? ⟨g3, 0, none⟩ = some (.int .i64 12) := (blk_cell (blk_below (blk_below (blk_below HX3.out hb4) hb5) hb6) 0).trans rfl; have hx4 := blk_below (blk_below HX4.out hb5) hb6; have hx5 := blk_below HX5.out hb6; have hg3 := HG3.out; have hg4 := HG4.out; have hg5 := HG5.out; have hg6 := HG6.out; have hs4 := hb3.size; have hs5 := hb4.size; have HNE := Aside0.mk (show g4 ≠ g5 ∧ w.heap.size ≤ g4 ∧ w.heap.size ≤ g5 from ⟨by have := blk_lt HX4.out; omega, by omega, by omega⟩); clear hb3 hb4 hb5 hb6 hg3 hg4 hg5 hg6 hs4 hs5)
    | ((with_reducible refine gate_dst (N := 44) rfl ?_); refine wpList_load_row rfl 92 _ rfl g6 rfl 92 #[.int .i64 2, .int .i64 2] (0, 0) _ HX6.out Try.underlying92 rfl size_fixed ?_)
    | ((with_reducible refine gate_dst (N := 102) rfl ?_); refine wpList_load_row rfl 92 _ rfl g6 rfl 92 #[.int .i64 2, .int .i64 2] (0, 0) _ HX6.out Try.underlying92 rfl size_fixed ?_)
    | ((with_reducible refine gate_store (p := 4) rfl ?_); refine store_one_event rfl rfl 88 _ _ rfl g4 _ rfl rfl rfl rfl 88 _ hx4 one_node ?_; intro w7 hx7 hw7; have hx57 := (hw7.other _ HNE.out.1.symm).trans hx5)
    | ((with_reducible refine gate_store (p := 5) rfl ?_); refine store_one_event rfl rfl 41 _ _ rfl g5 _ rfl rfl rfl rfl 41 _ hx57 one_errno ?_; intro w8 hx8 hw8; have hx48 := (hw8.other _ HNE.out.1).trans hx7))
  refine bodyPost_ret (results_two_ones rfl _ _ g4 g5 88 41 _ _ _ _ rfl hx48 Try.underlying88 rfl rfl hx8 Try.underlying41 rfl) rfl ?_
  exact ⟨hw8.below _ _ HNE.out.2.2 (hw7.below _ _ HNE.out.2.1 hbb.out), by rw [HF.out]; exact ⟨_, rfl, rfl⟩⟩
set_option maxHeartbeats 4000000 in
set_option maxRecDepth 100000 in
theorem of_o13 (name : ByteArray) (sort : Int) (n : ByteArray) (l : List Tm) (vs : List Bd) (ps : List Tm) (w : World) (g : Nat) (A4 : Option Addr) (c4 : Nat) (A5 : Option Addr) (c5 : Nat) (A6 : Option Addr) (c6 : Nat) (l4 : l.length ≤ c4) (l5 : vs.length ≤ c5) (l6 : ps.length ≤ c6) (sig : List Sg) (bs : List Bd) :
    Calls Try.prog 31 #[.pointer (some ⟨g, 0, none⟩), .agg #[.int .i64 13, .string name, .int .i64 sort, .string n, .slice A4 l.length c4, .slice A5 vs.length c5, .slice A6 ps.length c6]] w (GivesNd w (ofS sig bs ⟨13, name, sort, n, l, vs, ps⟩)) := by
  have HF := Aside0.mk (show ofS sig bs ⟨13, name, sort, n, l, vs, ps⟩ = .ok (.fix 1 1) from rfl)
  go_enter Try.func31, Try.ntmps31
  go_wp2_with (first
    | ((with_reducible refine gate_dst (N := 3) rfl ?_); refine box_event rfl (N := 3) rfl (cs := #[.int .i64 13, .string name, .int .i64 sort, .string n, .slice A4 l.length c4, .slice A5 vs.length c5, .slice A6 ps.length c6]) (t := 40) ?hr ?_; (case hr => first | (go_simp; done) | (go_simp; rfl)); intro g3 hg3 w3 hbox3 hb3; have HG3 := Aside0.mk hg3; have HX3 := Aside0.mk hbox3; clear hg3 hbox3)
    | ((with_reducible refine gate_dst (N := 4) rfl ?_); refine box_event rfl (N := 4) rfl (cs := #[.nilIface]) (t := 88) ?hr ?_; (case hr => first | (go_simp; done) | (go_simp; rfl)); intro g4 hg4 w4 hbox4 hb4; have HG4 := Aside0.mk hg4; have HX4 := Aside0.mk hbox4; clear hg4 hbox4)
    | ((with_reducible refine gate_dst (N := 5) rfl ?_); refine box_event rfl (N := 5) rfl (cs := #[.int .i64 0]) (t := 41) ?hr ?_; (case hr => first | (go_simp; done) | (go_simp; rfl)); intro g5 hg5 w5 hbox5 hb5; have HG5 := Aside0.mk hg5; have HX5 := Aside0.mk hbox5; clear hg5 hbox5)
    | ((with_reducible refine gate_dst (N := 12) rfl ?_); (obtain ⟨w6, hw6⟩ : ∃ w6, w6 = w5.alloc (.cells #[.int .i64 2, .int .i64 2] 92) := ⟨_, rfl⟩); (obtain ⟨g6, hg6⟩ : ∃ g6, g6 = w5.heap.size := ⟨_, rfl⟩); rw [← hw6]; rw [← hg6]; (have hb6 : Below w5.heap.size w5 w6 := (by rw [hw6]; exact (Below.refl _ _).alloc (Nat.le_refl _) _)); (have HX6 := Aside0.mk (show w6.heap[g6]? = some (.cells #[.int .i64 2, .int .i64 2] 92 (0, 0)) from (by rw [hw6, hg6]; exact blk_new _ _))); have HG6 := Aside0.mk hg6; clear hw6 hg6; have hbb := Aside0.mk (below_step (below_step (below_step hb3 hb4) hb5) hb6); have c30 : w6.cell? ⟨g3, 0, none⟩ = some (.int .i64 13) := (blk_cell (blk_below (blk_below (blk_below HX3.out hb4) hb5) hb6) 0).trans rfl; have hx4 := blk_below (blk_below HX4.out hb5) hb6; have hx5 := blk_below HX5.out hb6; have hg3 := HG3.out; have hg4 := HG4.out; have hg5 := HG5.out; have hg6 := HG6.out; have hs4 := hb3.size; have hs5 := hb4.size; have HNE := Aside0.mk (show g4 ≠ g5 ∧ w.heap.size ≤ g4 ∧ w.heap.size ≤ g5 from ⟨by have := blk_lt HX4.out; omega, by omega, by omega⟩); clear hb3 hb4 hb5 hb6 hg3 hg4 hg5 hg6 hs4 hs5)
    | ((with_reducible refine gate_dst (N := 44) rfl ?_); refine wpList_load_row rfl 92 _ rfl g6 rfl 92 #[.int .i64 2, .int .i64 2] (0, 0) _ HX6.out Try.underlying92 rfl size_fixed ?_)
    | ((with_reducible refine gate_dst (N := 102) rfl ?_); refine wpList_load_row rfl 92 _ rfl g6 rfl 92 #[.int .i64 2, .int .i64 2] (0, 0) _ HX6.out Try.underlying92 rfl size_fixed ?_)
    | ((with_reducible refine gate_store (p := 4) rfl ?_); refine store_one_event rfl rfl 88 _ _ rfl g4 _ rfl rfl rfl rfl 88 _ hx4 one_node ?_; intro w7 hx7 hw7; have hx57 := (hw7.other _ HNE.out.1.symm).trans hx5)
    | ((with_reducible refine gate_store (p := 5) rfl ?_); refine store_one_event rfl rfl 41 _ _ rfl g5 _ rfl rfl rfl rfl 41 _ hx57 one_errno ?_; intro w8 hx8 hw8; have hx48 := (hw8.other _ HNE.out.1).trans hx7))
  refine bodyPost_ret (results_two_ones rfl _ _ g4 g5 88 41 _ _ _ _ rfl hx48 Try.underlying88 rfl rfl hx8 Try.underlying41 rfl) rfl ?_
  exact ⟨hw8.below _ _ HNE.out.2.2 (hw7.below _ _ HNE.out.2.1 hbb.out), by rw [HF.out]; exact ⟨_, rfl, rfl⟩⟩
set_option maxHeartbeats 4000000 in
set_option maxRecDepth 100000 in
theorem of_o14 (name : ByteArray) (sort : Int) (n : ByteArray) (l : List Tm) (vs : List Bd) (ps : List Tm) (w : World) (g : Nat) (A4 : Option Addr) (c4 : Nat) (A5 : Option Addr) (c5 : Nat) (A6 : Option Addr) (c6 : Nat) (l4 : l.length ≤ c4) (l5 : vs.length ≤ c5) (l6 : ps.length ≤ c6) (sig : List Sg) (bs : List Bd) :
    Calls Try.prog 31 #[.pointer (some ⟨g, 0, none⟩), .agg #[.int .i64 14, .string name, .int .i64 sort, .string n, .slice A4 l.length c4, .slice A5 vs.length c5, .slice A6 ps.length c6]] w (GivesNd w (ofS sig bs ⟨14, name, sort, n, l, vs, ps⟩)) := by
  have HF := Aside0.mk (show ofS sig bs ⟨14, name, sort, n, l, vs, ps⟩ = .ok (.fix 1 1) from rfl)
  go_enter Try.func31, Try.ntmps31
  go_wp2_with (first
    | ((with_reducible refine gate_dst (N := 3) rfl ?_); refine box_event rfl (N := 3) rfl (cs := #[.int .i64 14, .string name, .int .i64 sort, .string n, .slice A4 l.length c4, .slice A5 vs.length c5, .slice A6 ps.length c6]) (t := 40) ?hr ?_; (case hr => first | (go_simp; done) | (go_simp; rfl)); intro g3 hg3 w3 hbox3 hb3; have HG3 := Aside0.mk hg3; have HX3 := Aside0.mk hbox3; clear hg3 hbox3)
    | ((with_reducible refine gate_dst (N := 4) rfl ?_); refine box_event rfl (N := 4) rfl (cs := #[.nilIface]) (t := 88) ?hr ?_; (case hr => first | (go_simp; done) | (go_simp; rfl)); intro g4 hg4 w4 hbox4 hb4; have HG4 := Aside0.mk hg4; have HX4 := Aside0.mk hbox4; clear hg4 hbox4)
    | ((with_reducible refine gate_dst (N := 5) rfl ?_); refine box_event rfl (N := 5) rfl (cs := #[.int .i64 0]) (t := 41) ?hr ?_; (case hr => first | (go_simp; done) | (go_simp; rfl)); intro g5 hg5 w5 hbox5 hb5; have HG5 := Aside0.mk hg5; have HX5 := Aside0.mk hbox5; clear hg5 hbox5)
    | ((with_reducible refine gate_dst (N := 12) rfl ?_); (obtain ⟨w6, hw6⟩ : ∃ w6, w6 = w5.alloc (.cells #[.int .i64 2, .int .i64 2] 92) := ⟨_, rfl⟩); (obtain ⟨g6, hg6⟩ : ∃ g6, g6 = w5.heap.size := ⟨_, rfl⟩); rw [← hw6]; rw [← hg6]; (have hb6 : Below w5.heap.size w5 w6 := (by rw [hw6]; exact (Below.refl _ _).alloc (Nat.le_refl _) _)); (have HX6 := Aside0.mk (show w6.heap[g6]? = some (.cells #[.int .i64 2, .int .i64 2] 92 (0, 0)) from (by rw [hw6, hg6]; exact blk_new _ _))); have HG6 := Aside0.mk hg6; clear hw6 hg6; have hbb := Aside0.mk (below_step (below_step (below_step hb3 hb4) hb5) hb6); have c30 : w6.cell? ⟨g3, 0, none⟩ = some (.int .i64 14) := (blk_cell (blk_below (blk_below (blk_below HX3.out hb4) hb5) hb6) 0).trans rfl; have hx4 := blk_below (blk_below HX4.out hb5) hb6; have hx5 := blk_below HX5.out hb6; have hg3 := HG3.out; have hg4 := HG4.out; have hg5 := HG5.out; have hg6 := HG6.out; have hs4 := hb3.size; have hs5 := hb4.size; have HNE := Aside0.mk (show g4 ≠ g5 ∧ w.heap.size ≤ g4 ∧ w.heap.size ≤ g5 from ⟨by have := blk_lt HX4.out; omega, by omega, by omega⟩); clear hb3 hb4 hb5 hb6 hg3 hg4 hg5 hg6 hs4 hs5)
    | ((with_reducible refine gate_dst (N := 44) rfl ?_); refine wpList_load_row rfl 92 _ rfl g6 rfl 92 #[.int .i64 2, .int .i64 2] (0, 0) _ HX6.out Try.underlying92 rfl size_fixed ?_)
    | ((with_reducible refine gate_dst (N := 102) rfl ?_); refine wpList_load_row rfl 92 _ rfl g6 rfl 92 #[.int .i64 2, .int .i64 2] (0, 0) _ HX6.out Try.underlying92 rfl size_fixed ?_)
    | ((with_reducible refine gate_store (p := 4) rfl ?_); refine store_one_event rfl rfl 88 _ _ rfl g4 _ rfl rfl rfl rfl 88 _ hx4 one_node ?_; intro w7 hx7 hw7; have hx57 := (hw7.other _ HNE.out.1.symm).trans hx5)
    | ((with_reducible refine gate_store (p := 5) rfl ?_); refine store_one_event rfl rfl 41 _ _ rfl g5 _ rfl rfl rfl rfl 41 _ hx57 one_errno ?_; intro w8 hx8 hw8; have hx48 := (hw8.other _ HNE.out.1).trans hx7))
  refine bodyPost_ret (results_two_ones rfl _ _ g4 g5 88 41 _ _ _ _ rfl hx48 Try.underlying88 rfl rfl hx8 Try.underlying41 rfl) rfl ?_
  exact ⟨hw8.below _ _ HNE.out.2.2 (hw7.below _ _ HNE.out.2.1 hbb.out), by rw [HF.out]; exact ⟨_, rfl, rfl⟩⟩
set_option maxHeartbeats 4000000 in
set_option maxRecDepth 100000 in
theorem of_o15 (name : ByteArray) (sort : Int) (n : ByteArray) (l : List Tm) (vs : List Bd) (ps : List Tm) (w : World) (g : Nat) (A4 : Option Addr) (c4 : Nat) (A5 : Option Addr) (c5 : Nat) (A6 : Option Addr) (c6 : Nat) (l4 : l.length ≤ c4) (l5 : vs.length ≤ c5) (l6 : ps.length ≤ c6) (sig : List Sg) (bs : List Bd) :
    Calls Try.prog 31 #[.pointer (some ⟨g, 0, none⟩), .agg #[.int .i64 15, .string name, .int .i64 sort, .string n, .slice A4 l.length c4, .slice A5 vs.length c5, .slice A6 ps.length c6]] w (GivesNd w (ofS sig bs ⟨15, name, sort, n, l, vs, ps⟩)) := by
  have HF := Aside0.mk (show ofS sig bs ⟨15, name, sort, n, l, vs, ps⟩ = .ok (.fix 1 1) from rfl)
  go_enter Try.func31, Try.ntmps31
  go_wp2_with (first
    | ((with_reducible refine gate_dst (N := 3) rfl ?_); refine box_event rfl (N := 3) rfl (cs := #[.int .i64 15, .string name, .int .i64 sort, .string n, .slice A4 l.length c4, .slice A5 vs.length c5, .slice A6 ps.length c6]) (t := 40) ?hr ?_; (case hr => first | (go_simp; done) | (go_simp; rfl)); intro g3 hg3 w3 hbox3 hb3; have HG3 := Aside0.mk hg3; have HX3 := Aside0.mk hbox3; clear hg3 hbox3)
    | ((with_reducible refine gate_dst (N := 4) rfl ?_); refine box_event rfl (N := 4) rfl (cs := #[.nilIface]) (t := 88) ?hr ?_; (case hr => first | (go_simp; done) | (go_simp; rfl)); intro g4 hg4 w4 hbox4 hb4; have HG4 := Aside0.mk hg4; have HX4 := Aside0.mk hbox4; clear hg4 hbox4)
    | ((with_reducible refine gate_dst (N := 5) rfl ?_); refine box_event rfl (N := 5) rfl (cs := #[.int .i64 0]) (t := 41) ?hr ?_; (case hr => first | (go_simp; done) | (go_simp; rfl)); intro g5 hg5 w5 hbox5 hb5; have HG5 := Aside0.mk hg5; have HX5 := Aside0.mk hbox5; clear hg5 hbox5)
    | ((with_reducible refine gate_dst (N := 12) rfl ?_); (obtain ⟨w6, hw6⟩ : ∃ w6, w6 = w5.alloc (.cells #[.int .i64 2, .int .i64 2] 92) := ⟨_, rfl⟩); (obtain ⟨g6, hg6⟩ : ∃ g6, g6 = w5.heap.size := ⟨_, rfl⟩); rw [← hw6]; rw [← hg6]; (have hb6 : Below w5.heap.size w5 w6 := (by rw [hw6]; exact (Below.refl _ _).alloc (Nat.le_refl _) _)); (have HX6 := Aside0.mk (show w6.heap[g6]? = some (.cells #[.int .i64 2, .int .i64 2] 92 (0, 0)) from (by rw [hw6, hg6]; exact blk_new _ _))); have HG6 := Aside0.mk hg6; clear hw6 hg6; have hbb := Aside0.mk (below_step (below_step (below_step hb3 hb4) hb5) hb6); have c30 : w6.cell? ⟨g3, 0, none⟩ = some (.int .i64 15) := (blk_cell (blk_below (blk_below (blk_below HX3.out hb4) hb5) hb6) 0).trans rfl; have hx4 := blk_below (blk_below HX4.out hb5) hb6; have hx5 := blk_below HX5.out hb6; have hg3 := HG3.out; have hg4 := HG4.out; have hg5 := HG5.out; have hg6 := HG6.out; have hs4 := hb3.size; have hs5 := hb4.size; have HNE := Aside0.mk (show g4 ≠ g5 ∧ w.heap.size ≤ g4 ∧ w.heap.size ≤ g5 from ⟨by have := blk_lt HX4.out; omega, by omega, by omega⟩); clear hb3 hb4 hb5 hb6 hg3 hg4 hg5 hg6 hs4 hs5)
    | ((with_reducible refine gate_dst (N := 44) rfl ?_); refine wpList_load_row rfl 92 _ rfl g6 rfl 92 #[.int .i64 2, .int .i64 2] (0, 0) _ HX6.out Try.underlying92 rfl size_fixed ?_)
    | ((with_reducible refine gate_dst (N := 102) rfl ?_); refine wpList_load_row rfl 92 _ rfl g6 rfl 92 #[.int .i64 2, .int .i64 2] (0, 0) _ HX6.out Try.underlying92 rfl size_fixed ?_)
    | ((with_reducible refine gate_store (p := 4) rfl ?_); refine store_one_event rfl rfl 88 _ _ rfl g4 _ rfl rfl rfl rfl 88 _ hx4 one_node ?_; intro w7 hx7 hw7; have hx57 := (hw7.other _ HNE.out.1.symm).trans hx5)
    | ((with_reducible refine gate_store (p := 5) rfl ?_); refine store_one_event rfl rfl 41 _ _ rfl g5 _ rfl rfl rfl rfl 41 _ hx57 one_errno ?_; intro w8 hx8 hw8; have hx48 := (hw8.other _ HNE.out.1).trans hx7))
  refine bodyPost_ret (results_two_ones rfl _ _ g4 g5 88 41 _ _ _ _ rfl hx48 Try.underlying88 rfl rfl hx8 Try.underlying41 rfl) rfl ?_
  exact ⟨hw8.below _ _ HNE.out.2.2 (hw7.below _ _ HNE.out.2.1 hbb.out), by rw [HF.out]; exact ⟨_, rfl, rfl⟩⟩
set_option maxHeartbeats 4000000 in
set_option maxRecDepth 100000 in
theorem of_o16 (name : ByteArray) (sort : Int) (n : ByteArray) (l : List Tm) (vs : List Bd) (ps : List Tm) (w : World) (g : Nat) (A4 : Option Addr) (c4 : Nat) (A5 : Option Addr) (c5 : Nat) (A6 : Option Addr) (c6 : Nat) (l4 : l.length ≤ c4) (l5 : vs.length ≤ c5) (l6 : ps.length ≤ c6) (sig : List Sg) (bs : List Bd) :
    Calls Try.prog 31 #[.pointer (some ⟨g, 0, none⟩), .agg #[.int .i64 16, .string name, .int .i64 sort, .string n, .slice A4 l.length c4, .slice A5 vs.length c5, .slice A6 ps.length c6]] w (GivesNd w (ofS sig bs ⟨16, name, sort, n, l, vs, ps⟩)) := by
  have HF := Aside0.mk (show ofS sig bs ⟨16, name, sort, n, l, vs, ps⟩ = .ok (.ite) from rfl)
  go_enter Try.func31, Try.ntmps31
  go_wp2_with (first
    | ((with_reducible refine gate_dst (N := 3) rfl ?_); refine box_event rfl (N := 3) rfl (cs := #[.int .i64 16, .string name, .int .i64 sort, .string n, .slice A4 l.length c4, .slice A5 vs.length c5, .slice A6 ps.length c6]) (t := 40) ?hr ?_; (case hr => first | (go_simp; done) | (go_simp; rfl)); intro g3 hg3 w3 hbox3 hb3; have HG3 := Aside0.mk hg3; have HX3 := Aside0.mk hbox3; clear hg3 hbox3)
    | ((with_reducible refine gate_dst (N := 4) rfl ?_); refine box_event rfl (N := 4) rfl (cs := #[.nilIface]) (t := 88) ?hr ?_; (case hr => first | (go_simp; done) | (go_simp; rfl)); intro g4 hg4 w4 hbox4 hb4; have HG4 := Aside0.mk hg4; have HX4 := Aside0.mk hbox4; clear hg4 hbox4)
    | ((with_reducible refine gate_dst (N := 5) rfl ?_); refine box_event rfl (N := 5) rfl (cs := #[.int .i64 0]) (t := 41) ?hr ?_; (case hr => first | (go_simp; done) | (go_simp; rfl)); intro g5 hg5 w5 hbox5 hb5; have HG5 := Aside0.mk hg5; have HX5 := Aside0.mk hbox5; clear hg5 hbox5)
    | ((with_reducible refine gate_dst (N := 12) rfl ?_); (obtain ⟨w6, hw6⟩ : ∃ w6, w6 = w5.alloc (.cells #[.int .i64 2, .int .i64 2] 92) := ⟨_, rfl⟩); (obtain ⟨g6, hg6⟩ : ∃ g6, g6 = w5.heap.size := ⟨_, rfl⟩); rw [← hw6]; rw [← hg6]; (have hb6 : Below w5.heap.size w5 w6 := (by rw [hw6]; exact (Below.refl _ _).alloc (Nat.le_refl _) _)); (have HX6 := Aside0.mk (show w6.heap[g6]? = some (.cells #[.int .i64 2, .int .i64 2] 92 (0, 0)) from (by rw [hw6, hg6]; exact blk_new _ _))); have HG6 := Aside0.mk hg6; clear hw6 hg6; have hbb := Aside0.mk (below_step (below_step (below_step hb3 hb4) hb5) hb6); have c30 : w6.cell? ⟨g3, 0, none⟩ = some (.int .i64 16) := (blk_cell (blk_below (blk_below (blk_below HX3.out hb4) hb5) hb6) 0).trans rfl; have hx4 := blk_below (blk_below HX4.out hb5) hb6; have hx5 := blk_below HX5.out hb6; have hg3 := HG3.out; have hg4 := HG4.out; have hg5 := HG5.out; have hg6 := HG6.out; have hs4 := hb3.size; have hs5 := hb4.size; have HNE := Aside0.mk (show g4 ≠ g5 ∧ w.heap.size ≤ g4 ∧ w.heap.size ≤ g5 from ⟨by have := blk_lt HX4.out; omega, by omega, by omega⟩); clear hb3 hb4 hb5 hb6 hg3 hg4 hg5 hg6 hs4 hs5)
    | ((with_reducible refine gate_dst (N := 44) rfl ?_); refine wpList_load_row rfl 92 _ rfl g6 rfl 92 #[.int .i64 2, .int .i64 2] (0, 0) _ HX6.out Try.underlying92 rfl size_fixed ?_)
    | ((with_reducible refine gate_dst (N := 102) rfl ?_); refine wpList_load_row rfl 92 _ rfl g6 rfl 92 #[.int .i64 2, .int .i64 2] (0, 0) _ HX6.out Try.underlying92 rfl size_fixed ?_)
    | ((with_reducible refine gate_store (p := 4) rfl ?_); refine store_one_event rfl rfl 88 _ _ rfl g4 _ rfl rfl rfl rfl 88 _ hx4 one_node ?_; intro w7 hx7 hw7; have hx57 := (hw7.other _ HNE.out.1.symm).trans hx5)
    | ((with_reducible refine gate_store (p := 5) rfl ?_); refine store_one_event rfl rfl 41 _ _ rfl g5 _ rfl rfl rfl rfl 41 _ hx57 one_errno ?_; intro w8 hx8 hw8; have hx48 := (hw8.other _ HNE.out.1).trans hx7))
  refine bodyPost_ret (results_two_ones rfl _ _ g4 g5 88 41 _ _ _ _ rfl hx48 Try.underlying88 rfl rfl hx8 Try.underlying41 rfl) rfl ?_
  exact ⟨hw8.below _ _ HNE.out.2.2 (hw7.below _ _ HNE.out.2.1 hbb.out), by rw [HF.out]; exact ⟨_, rfl, rfl⟩⟩
set_option maxHeartbeats 4000000 in
set_option maxRecDepth 100000 in
theorem of_o19 (name : ByteArray) (sort : Int) (n : ByteArray) (l : List Tm) (vs : List Bd) (ps : List Tm) (w : World) (g : Nat) (A4 : Option Addr) (c4 : Nat) (A5 : Option Addr) (c5 : Nat) (A6 : Option Addr) (c6 : Nat) (l4 : l.length ≤ c4) (l5 : vs.length ≤ c5) (l6 : ps.length ≤ c6) (sig : List Sg) (bs : List Bd) :
    Calls Try.prog 31 #[.pointer (some ⟨g, 0, none⟩), .agg #[.int .i64 19, .string name, .int .i64 sort, .string n, .slice A4 l.length c4, .slice A5 vs.length c5, .slice A6 ps.length c6]] w (GivesNd w (ofS sig bs ⟨19, name, sort, n, l, vs, ps⟩)) := by
  have HF := Aside0.mk (show ofS sig bs ⟨19, name, sort, n, l, vs, ps⟩ = .ok (.bind) from rfl)
  go_enter Try.func31, Try.ntmps31
  go_wp2_with (first
    | ((with_reducible refine gate_dst (N := 3) rfl ?_); refine box_event rfl (N := 3) rfl (cs := #[.int .i64 19, .string name, .int .i64 sort, .string n, .slice A4 l.length c4, .slice A5 vs.length c5, .slice A6 ps.length c6]) (t := 40) ?hr ?_; (case hr => first | (go_simp; done) | (go_simp; rfl)); intro g3 hg3 w3 hbox3 hb3; have HG3 := Aside0.mk hg3; have HX3 := Aside0.mk hbox3; clear hg3 hbox3)
    | ((with_reducible refine gate_dst (N := 4) rfl ?_); refine box_event rfl (N := 4) rfl (cs := #[.nilIface]) (t := 88) ?hr ?_; (case hr => first | (go_simp; done) | (go_simp; rfl)); intro g4 hg4 w4 hbox4 hb4; have HG4 := Aside0.mk hg4; have HX4 := Aside0.mk hbox4; clear hg4 hbox4)
    | ((with_reducible refine gate_dst (N := 5) rfl ?_); refine box_event rfl (N := 5) rfl (cs := #[.int .i64 0]) (t := 41) ?hr ?_; (case hr => first | (go_simp; done) | (go_simp; rfl)); intro g5 hg5 w5 hbox5 hb5; have HG5 := Aside0.mk hg5; have HX5 := Aside0.mk hbox5; clear hg5 hbox5)
    | ((with_reducible refine gate_dst (N := 12) rfl ?_); (obtain ⟨w6, hw6⟩ : ∃ w6, w6 = w5.alloc (.cells #[.int .i64 2, .int .i64 2] 92) := ⟨_, rfl⟩); (obtain ⟨g6, hg6⟩ : ∃ g6, g6 = w5.heap.size := ⟨_, rfl⟩); rw [← hw6]; rw [← hg6]; (have hb6 : Below w5.heap.size w5 w6 := (by rw [hw6]; exact (Below.refl _ _).alloc (Nat.le_refl _) _)); (have HX6 := Aside0.mk (show w6.heap[g6]? = some (.cells #[.int .i64 2, .int .i64 2] 92 (0, 0)) from (by rw [hw6, hg6]; exact blk_new _ _))); have HG6 := Aside0.mk hg6; clear hw6 hg6; have hbb := Aside0.mk (below_step (below_step (below_step hb3 hb4) hb5) hb6); have c30 : w6.cell? ⟨g3, 0, none⟩ = some (.int .i64 19) := (blk_cell (blk_below (blk_below (blk_below HX3.out hb4) hb5) hb6) 0).trans rfl; have hx4 := blk_below (blk_below HX4.out hb5) hb6; have hx5 := blk_below HX5.out hb6; have hg3 := HG3.out; have hg4 := HG4.out; have hg5 := HG5.out; have hg6 := HG6.out; have hs4 := hb3.size; have hs5 := hb4.size; have HNE := Aside0.mk (show g4 ≠ g5 ∧ w.heap.size ≤ g4 ∧ w.heap.size ≤ g5 from ⟨by have := blk_lt HX4.out; omega, by omega, by omega⟩); clear hb3 hb4 hb5 hb6 hg3 hg4 hg5 hg6 hs4 hs5)
    | ((with_reducible refine gate_dst (N := 44) rfl ?_); refine wpList_load_row rfl 92 _ rfl g6 rfl 92 #[.int .i64 2, .int .i64 2] (0, 0) _ HX6.out Try.underlying92 rfl size_fixed ?_)
    | ((with_reducible refine gate_dst (N := 102) rfl ?_); refine wpList_load_row rfl 92 _ rfl g6 rfl 92 #[.int .i64 2, .int .i64 2] (0, 0) _ HX6.out Try.underlying92 rfl size_fixed ?_)
    | ((with_reducible refine gate_store (p := 4) rfl ?_); refine store_one_event rfl rfl 88 _ _ rfl g4 _ rfl rfl rfl rfl 88 _ hx4 one_node ?_; intro w7 hx7 hw7; have hx57 := (hw7.other _ HNE.out.1.symm).trans hx5)
    | ((with_reducible refine gate_store (p := 5) rfl ?_); refine store_one_event rfl rfl 41 _ _ rfl g5 _ rfl rfl rfl rfl 41 _ hx57 one_errno ?_; intro w8 hx8 hw8; have hx48 := (hw8.other _ HNE.out.1).trans hx7))
  refine bodyPost_ret (results_two_ones rfl _ _ g4 g5 88 41 _ _ _ _ rfl hx48 Try.underlying88 rfl rfl hx8 Try.underlying41 rfl) rfl ?_
  exact ⟨hw8.below _ _ HNE.out.2.2 (hw7.below _ _ HNE.out.2.1 hbb.out), by rw [HF.out]; exact ⟨_, rfl, rfl⟩⟩
set_option maxHeartbeats 4000000 in
set_option maxRecDepth 100000 in
theorem of_o4 (name : ByteArray) (sort : Int) (n : ByteArray) (l : List Tm) (vs : List Bd) (ps : List Tm) (w : World) (g : Nat) (A4 : Option Addr) (c4 : Nat) (A5 : Option Addr) (c5 : Nat) (A6 : Option Addr) (c6 : Nat) (l4 : l.length ≤ c4) (l5 : vs.length ≤ c5) (l6 : ps.length ≤ c6) (sig : List Sg) (bs : List Bd) :
    Calls Try.prog 31 #[.pointer (some ⟨g, 0, none⟩), .agg #[.int .i64 4, .string name, .int .i64 sort, .string n, .slice A4 l.length c4, .slice A5 vs.length c5, .slice A6 ps.length c6]] w (GivesNd w (ofS sig bs ⟨4, name, sort, n, l, vs, ps⟩)) := by
  have HF := Aside0.mk (show ofS sig bs ⟨4, name, sort, n, l, vs, ps⟩ = .ok (.fix 2 2) from rfl)
  go_enter Try.func31, Try.ntmps31
  go_wp2_with (first
    | ((with_reducible refine gate_dst (N := 3) rfl ?_); refine box_event rfl (N := 3) rfl (cs := #[.int .i64 4, .string name, .int .i64 sort, .string n, .slice A4 l.length c4, .slice A5 vs.length c5, .slice A6 ps.length c6]) (t := 40) ?hr ?_; (case hr => first | (go_simp; done) | (go_simp; rfl)); intro g3 hg3 w3 hbox3 hb3; have HG3 := Aside0.mk hg3; have HX3 := Aside0.mk hbox3; clear hg3 hbox3)
    | ((with_reducible refine gate_dst (N := 4) rfl ?_); refine box_event rfl (N := 4) rfl (cs := #[.nilIface]) (t := 88) ?hr ?_; (case hr => first | (go_simp; done) | (go_simp; rfl)); intro g4 hg4 w4 hbox4 hb4; have HG4 := Aside0.mk hg4; have HX4 := Aside0.mk hbox4; clear hg4 hbox4)
    | ((with_reducible refine gate_dst (N := 5) rfl ?_); refine box_event rfl (N := 5) rfl (cs := #[.int .i64 0]) (t := 41) ?hr ?_; (case hr => first | (go_simp; done) | (go_simp; rfl)); intro g5 hg5 w5 hbox5 hb5; have HG5 := Aside0.mk hg5; have HX5 := Aside0.mk hbox5; clear hg5 hbox5)
    | ((with_reducible refine gate_dst (N := 12) rfl ?_); (obtain ⟨w6, hw6⟩ : ∃ w6, w6 = w5.alloc (.cells #[.int .i64 2, .int .i64 2] 92) := ⟨_, rfl⟩); (obtain ⟨g6, hg6⟩ : ∃ g6, g6 = w5.heap.size := ⟨_, rfl⟩); rw [← hw6]; rw [← hg6]; (have hb6 : Below w5.heap.size w5 w6 := (by rw [hw6]; exact (Below.refl _ _).alloc (Nat.le_refl _) _)); (have HX6 := Aside0.mk (show w6.heap[g6]? = some (.cells #[.int .i64 2, .int .i64 2] 92 (0, 0)) from (by rw [hw6, hg6]; exact blk_new _ _))); have HG6 := Aside0.mk hg6; clear hw6 hg6; have hbb := Aside0.mk (below_step (below_step (below_step hb3 hb4) hb5) hb6); have c30 : w6.cell? ⟨g3, 0, none⟩ = some (.int .i64 4) := (blk_cell (blk_below (blk_below (blk_below HX3.out hb4) hb5) hb6) 0).trans rfl; have hx4 := blk_below (blk_below HX4.out hb5) hb6; have hx5 := blk_below HX5.out hb6; have hg3 := HG3.out; have hg4 := HG4.out; have hg5 := HG5.out; have hg6 := HG6.out; have hs4 := hb3.size; have hs5 := hb4.size; have HNE := Aside0.mk (show g4 ≠ g5 ∧ w.heap.size ≤ g4 ∧ w.heap.size ≤ g5 from ⟨by have := blk_lt HX4.out; omega, by omega, by omega⟩); clear hb3 hb4 hb5 hb6 hg3 hg4 hg5 hg6 hs4 hs5)
    | ((with_reducible refine gate_dst (N := 44) rfl ?_); refine wpList_load_row rfl 92 _ rfl g6 rfl 92 #[.int .i64 2, .int .i64 2] (0, 0) _ HX6.out Try.underlying92 rfl size_fixed ?_)
    | ((with_reducible refine gate_dst (N := 102) rfl ?_); refine wpList_load_row rfl 92 _ rfl g6 rfl 92 #[.int .i64 2, .int .i64 2] (0, 0) _ HX6.out Try.underlying92 rfl size_fixed ?_)
    | ((with_reducible refine gate_store (p := 4) rfl ?_); refine store_one_event rfl rfl 88 _ _ rfl g4 _ rfl rfl rfl rfl 88 _ hx4 one_node ?_; intro w7 hx7 hw7; have hx57 := (hw7.other _ HNE.out.1.symm).trans hx5)
    | ((with_reducible refine gate_store (p := 5) rfl ?_); refine store_one_event rfl rfl 41 _ _ rfl g5 _ rfl rfl rfl rfl 41 _ hx57 one_errno ?_; intro w8 hx8 hw8; have hx48 := (hw8.other _ HNE.out.1).trans hx7))
  refine bodyPost_ret (results_two_ones rfl _ _ g4 g5 88 41 _ _ _ _ rfl hx48 Try.underlying88 rfl rfl hx8 Try.underlying41 rfl) rfl ?_
  exact ⟨hw8.below _ _ HNE.out.2.2 (hw7.below _ _ HNE.out.2.1 hbb.out), by rw [HF.out]; exact ⟨_, rfl, rfl⟩⟩
set_option maxHeartbeats 4000000 in
set_option maxRecDepth 100000 in
theorem of_o5 (name : ByteArray) (sort : Int) (n : ByteArray) (l : List Tm) (vs : List Bd) (ps : List Tm) (w : World) (g : Nat) (A4 : Option Addr) (c4 : Nat) (A5 : Option Addr) (c5 : Nat) (A6 : Option Addr) (c6 : Nat) (l4 : l.length ≤ c4) (l5 : vs.length ≤ c5) (l6 : ps.length ≤ c6) (sig : List Sg) (bs : List Bd) :
    Calls Try.prog 31 #[.pointer (some ⟨g, 0, none⟩), .agg #[.int .i64 5, .string name, .int .i64 sort, .string n, .slice A4 l.length c4, .slice A5 vs.length c5, .slice A6 ps.length c6]] w (GivesNd w (ofS sig bs ⟨5, name, sort, n, l, vs, ps⟩)) := by
  have HF := Aside0.mk (show ofS sig bs ⟨5, name, sort, n, l, vs, ps⟩ = .ok (.fix 2 2) from rfl)
  go_enter Try.func31, Try.ntmps31
  go_wp2_with (first
    | ((with_reducible refine gate_dst (N := 3) rfl ?_); refine box_event rfl (N := 3) rfl (cs := #[.int .i64 5, .string name, .int .i64 sort, .string n, .slice A4 l.length c4, .slice A5 vs.length c5, .slice A6 ps.length c6]) (t := 40) ?hr ?_; (case hr => first | (go_simp; done) | (go_simp; rfl)); intro g3 hg3 w3 hbox3 hb3; have HG3 := Aside0.mk hg3; have HX3 := Aside0.mk hbox3; clear hg3 hbox3)
    | ((with_reducible refine gate_dst (N := 4) rfl ?_); refine box_event rfl (N := 4) rfl (cs := #[.nilIface]) (t := 88) ?hr ?_; (case hr => first | (go_simp; done) | (go_simp; rfl)); intro g4 hg4 w4 hbox4 hb4; have HG4 := Aside0.mk hg4; have HX4 := Aside0.mk hbox4; clear hg4 hbox4)
    | ((with_reducible refine gate_dst (N := 5) rfl ?_); refine box_event rfl (N := 5) rfl (cs := #[.int .i64 0]) (t := 41) ?hr ?_; (case hr => first | (go_simp; done) | (go_simp; rfl)); intro g5 hg5 w5 hbox5 hb5; have HG5 := Aside0.mk hg5; have HX5 := Aside0.mk hbox5; clear hg5 hbox5)
    | ((with_reducible refine gate_dst (N := 12) rfl ?_); (obtain ⟨w6, hw6⟩ : ∃ w6, w6 = w5.alloc (.cells #[.int .i64 2, .int .i64 2] 92) := ⟨_, rfl⟩); (obtain ⟨g6, hg6⟩ : ∃ g6, g6 = w5.heap.size := ⟨_, rfl⟩); rw [← hw6]; rw [← hg6]; (have hb6 : Below w5.heap.size w5 w6 := (by rw [hw6]; exact (Below.refl _ _).alloc (Nat.le_refl _) _)); (have HX6 := Aside0.mk (show w6.heap[g6]? = some (.cells #[.int .i64 2, .int .i64 2] 92 (0, 0)) from (by rw [hw6, hg6]; exact blk_new _ _))); have HG6 := Aside0.mk hg6; clear hw6 hg6; have hbb := Aside0.mk (below_step (below_step (below_step hb3 hb4) hb5) hb6); have c30 : w6.cell? ⟨g3, 0, none⟩ = some (.int .i64 5) := (blk_cell (blk_below (blk_below (blk_below HX3.out hb4) hb5) hb6) 0).trans rfl; have hx4 := blk_below (blk_below HX4.out hb5) hb6; have hx5 := blk_below HX5.out hb6; have hg3 := HG3.out; have hg4 := HG4.out; have hg5 := HG5.out; have hg6 := HG6.out; have hs4 := hb3.size; have hs5 := hb4.size; have HNE := Aside0.mk (show g4 ≠ g5 ∧ w.heap.size ≤ g4 ∧ w.heap.size ≤ g5 from ⟨by have := blk_lt HX4.out; omega, by omega, by omega⟩); clear hb3 hb4 hb5 hb6 hg3 hg4 hg5 hg6 hs4 hs5)
    | ((with_reducible refine gate_dst (N := 44) rfl ?_); refine wpList_load_row rfl 92 _ rfl g6 rfl 92 #[.int .i64 2, .int .i64 2] (0, 0) _ HX6.out Try.underlying92 rfl size_fixed ?_)
    | ((with_reducible refine gate_dst (N := 102) rfl ?_); refine wpList_load_row rfl 92 _ rfl g6 rfl 92 #[.int .i64 2, .int .i64 2] (0, 0) _ HX6.out Try.underlying92 rfl size_fixed ?_)
    | ((with_reducible refine gate_store (p := 4) rfl ?_); refine store_one_event rfl rfl 88 _ _ rfl g4 _ rfl rfl rfl rfl 88 _ hx4 one_node ?_; intro w7 hx7 hw7; have hx57 := (hw7.other _ HNE.out.1.symm).trans hx5)
    | ((with_reducible refine gate_store (p := 5) rfl ?_); refine store_one_event rfl rfl 41 _ _ rfl g5 _ rfl rfl rfl rfl 41 _ hx57 one_errno ?_; intro w8 hx8 hw8; have hx48 := (hw8.other _ HNE.out.1).trans hx7))
  refine bodyPost_ret (results_two_ones rfl _ _ g4 g5 88 41 _ _ _ _ rfl hx48 Try.underlying88 rfl rfl hx8 Try.underlying41 rfl) rfl ?_
  exact ⟨hw8.below _ _ HNE.out.2.2 (hw7.below _ _ HNE.out.2.1 hbb.out), by rw [HF.out]; exact ⟨_, rfl, rfl⟩⟩
set_option maxHeartbeats 4000000 in
set_option maxRecDepth 100000 in
theorem of_o6 (name : ByteArray) (sort : Int) (n : ByteArray) (l : List Tm) (vs : List Bd) (ps : List Tm) (w : World) (g : Nat) (A4 : Option Addr) (c4 : Nat) (A5 : Option Addr) (c5 : Nat) (A6 : Option Addr) (c6 : Nat) (l4 : l.length ≤ c4) (l5 : vs.length ≤ c5) (l6 : ps.length ≤ c6) (sig : List Sg) (bs : List Bd) :
    Calls Try.prog 31 #[.pointer (some ⟨g, 0, none⟩), .agg #[.int .i64 6, .string name, .int .i64 sort, .string n, .slice A4 l.length c4, .slice A5 vs.length c5, .slice A6 ps.length c6]] w (GivesNd w (ofS sig bs ⟨6, name, sort, n, l, vs, ps⟩)) := by
  have HF := Aside0.mk (show ofS sig bs ⟨6, name, sort, n, l, vs, ps⟩ = .ok (.fix 2 2) from rfl)
  go_enter Try.func31, Try.ntmps31
  go_wp2_with (first
    | ((with_reducible refine gate_dst (N := 3) rfl ?_); refine box_event rfl (N := 3) rfl (cs := #[.int .i64 6, .string name, .int .i64 sort, .string n, .slice A4 l.length c4, .slice A5 vs.length c5, .slice A6 ps.length c6]) (t := 40) ?hr ?_; (case hr => first | (go_simp; done) | (go_simp; rfl)); intro g3 hg3 w3 hbox3 hb3; have HG3 := Aside0.mk hg3; have HX3 := Aside0.mk hbox3; clear hg3 hbox3)
    | ((with_reducible refine gate_dst (N := 4) rfl ?_); refine box_event rfl (N := 4) rfl (cs := #[.nilIface]) (t := 88) ?hr ?_; (case hr => first | (go_simp; done) | (go_simp; rfl)); intro g4 hg4 w4 hbox4 hb4; have HG4 := Aside0.mk hg4; have HX4 := Aside0.mk hbox4; clear hg4 hbox4)
    | ((with_reducible refine gate_dst (N := 5) rfl ?_); refine box_event rfl (N := 5) rfl (cs := #[.int .i64 0]) (t := 41) ?hr ?_; (case hr => first | (go_simp; done) | (go_simp; rfl)); intro g5 hg5 w5 hbox5 hb5; have HG5 := Aside0.mk hg5; have HX5 := Aside0.mk hbox5; clear hg5 hbox5)
    | ((with_reducible refine gate_dst (N := 12) rfl ?_); (obtain ⟨w6, hw6⟩ : ∃ w6, w6 = w5.alloc (.cells #[.int .i64 2, .int .i64 2] 92) := ⟨_, rfl⟩); (obtain ⟨g6, hg6⟩ : ∃ g6, g6 = w5.heap.size := ⟨_, rfl⟩); rw [← hw6]; rw [← hg6]; (have hb6 : Below w5.heap.size w5 w6 := (by rw [hw6]; exact (Below.refl _ _).alloc (Nat.le_refl _) _)); (have HX6 := Aside0.mk (show w6.heap[g6]? = some (.cells #[.int .i64 2, .int .i64 2] 92 (0, 0)) from (by rw [hw6, hg6]; exact blk_new _ _))); have HG6 := Aside0.mk hg6; clear hw6 hg6; have hbb := Aside0.mk (below_step (below_step (below_step hb3 hb4) hb5) hb6); have c30 : w6.cell? ⟨g3, 0, none⟩ = some (.int .i64 6) := (blk_cell (blk_below (blk_below (blk_below HX3.out hb4) hb5) hb6) 0).trans rfl; have hx4 := blk_below (blk_below HX4.out hb5) hb6; have hx5 := blk_below HX5.out hb6; have hg3 := HG3.out; have hg4 := HG4.out; have hg5 := HG5.out; have hg6 := HG6.out; have hs4 := hb3.size; have hs5 := hb4.size; have HNE := Aside0.mk (show g4 ≠ g5 ∧ w.heap.size ≤ g4 ∧ w.heap.size ≤ g5 from ⟨by have := blk_lt HX4.out; omega, by omega, by omega⟩); clear hb3 hb4 hb5 hb6 hg3 hg4 hg5 hg6 hs4 hs5)
    | ((with_reducible refine gate_dst (N := 44) rfl ?_); refine wpList_load_row rfl 92 _ rfl g6 rfl 92 #[.int .i64 2, .int .i64 2] (0, 0) _ HX6.out Try.underlying92 rfl size_fixed ?_)
    | ((with_reducible refine gate_dst (N := 102) rfl ?_); refine wpList_load_row rfl 92 _ rfl g6 rfl 92 #[.int .i64 2, .int .i64 2] (0, 0) _ HX6.out Try.underlying92 rfl size_fixed ?_)
    | ((with_reducible refine gate_store (p := 4) rfl ?_); refine store_one_event rfl rfl 88 _ _ rfl g4 _ rfl rfl rfl rfl 88 _ hx4 one_node ?_; intro w7 hx7 hw7; have hx57 := (hw7.other _ HNE.out.1.symm).trans hx5)
    | ((with_reducible refine gate_store (p := 5) rfl ?_); refine store_one_event rfl rfl 41 _ _ rfl g5 _ rfl rfl rfl rfl 41 _ hx57 one_errno ?_; intro w8 hx8 hw8; have hx48 := (hw8.other _ HNE.out.1).trans hx7))
  refine bodyPost_ret (results_two_ones rfl _ _ g4 g5 88 41 _ _ _ _ rfl hx48 Try.underlying88 rfl rfl hx8 Try.underlying41 rfl) rfl ?_
  exact ⟨hw8.below _ _ HNE.out.2.2 (hw7.below _ _ HNE.out.2.1 hbb.out), by rw [HF.out]; exact ⟨_, rfl, rfl⟩⟩
set_option maxHeartbeats 4000000 in
set_option maxRecDepth 100000 in
theorem of_o7 (name : ByteArray) (sort : Int) (n : ByteArray) (l : List Tm) (vs : List Bd) (ps : List Tm) (w : World) (g : Nat) (A4 : Option Addr) (c4 : Nat) (A5 : Option Addr) (c5 : Nat) (A6 : Option Addr) (c6 : Nat) (l4 : l.length ≤ c4) (l5 : vs.length ≤ c5) (l6 : ps.length ≤ c6) (sig : List Sg) (bs : List Bd) :
    Calls Try.prog 31 #[.pointer (some ⟨g, 0, none⟩), .agg #[.int .i64 7, .string name, .int .i64 sort, .string n, .slice A4 l.length c4, .slice A5 vs.length c5, .slice A6 ps.length c6]] w (GivesNd w (ofS sig bs ⟨7, name, sort, n, l, vs, ps⟩)) := by
  have HF := Aside0.mk (show ofS sig bs ⟨7, name, sort, n, l, vs, ps⟩ = .ok (.fix 2 2) from rfl)
  go_enter Try.func31, Try.ntmps31
  go_wp2_with (first
    | ((with_reducible refine gate_dst (N := 3) rfl ?_); refine box_event rfl (N := 3) rfl (cs := #[.int .i64 7, .string name, .int .i64 sort, .string n, .slice A4 l.length c4, .slice A5 vs.length c5, .slice A6 ps.length c6]) (t := 40) ?hr ?_; (case hr => first | (go_simp; done) | (go_simp; rfl)); intro g3 hg3 w3 hbox3 hb3; have HG3 := Aside0.mk hg3; have HX3 := Aside0.mk hbox3; clear hg3 hbox3)
    | ((with_reducible refine gate_dst (N := 4) rfl ?_); refine box_event rfl (N := 4) rfl (cs := #[.nilIface]) (t := 88) ?hr ?_; (case hr => first | (go_simp; done) | (go_simp; rfl)); intro g4 hg4 w4 hbox4 hb4; have HG4 := Aside0.mk hg4; have HX4 := Aside0.mk hbox4; clear hg4 hbox4)
    | ((with_reducible refine gate_dst (N := 5) rfl ?_); refine box_event rfl (N := 5) rfl (cs := #[.int .i64 0]) (t := 41) ?hr ?_; (case hr => first | (go_simp; done) | (go_simp; rfl)); intro g5 hg5 w5 hbox5 hb5; have HG5 := Aside0.mk hg5; have HX5 := Aside0.mk hbox5; clear hg5 hbox5)
    | ((with_reducible refine gate_dst (N := 12) rfl ?_); (obtain ⟨w6, hw6⟩ : ∃ w6, w6 = w5.alloc (.cells #[.int .i64 2, .int .i64 2] 92) := ⟨_, rfl⟩); (obtain ⟨g6, hg6⟩ : ∃ g6, g6 = w5.heap.size := ⟨_, rfl⟩); rw [← hw6]; rw [← hg6]; (have hb6 : Below w5.heap.size w5 w6 := (by rw [hw6]; exact (Below.refl _ _).alloc (Nat.le_refl _) _)); (have HX6 := Aside0.mk (show w6.heap[g6]? = some (.cells #[.int .i64 2, .int .i64 2] 92 (0, 0)) from (by rw [hw6, hg6]; exact blk_new _ _))); have HG6 := Aside0.mk hg6; clear hw6 hg6; have hbb := Aside0.mk (below_step (below_step (below_step hb3 hb4) hb5) hb6); have c30 : w6.cell? ⟨g3, 0, none⟩ = some (.int .i64 7) := (blk_cell (blk_below (blk_below (blk_below HX3.out hb4) hb5) hb6) 0).trans rfl; have hx4 := blk_below (blk_below HX4.out hb5) hb6; have hx5 := blk_below HX5.out hb6; have hg3 := HG3.out; have hg4 := HG4.out; have hg5 := HG5.out; have hg6 := HG6.out; have hs4 := hb3.size; have hs5 := hb4.size; have HNE := Aside0.mk (show g4 ≠ g5 ∧ w.heap.size ≤ g4 ∧ w.heap.size ≤ g5 from ⟨by have := blk_lt HX4.out; omega, by omega, by omega⟩); clear hb3 hb4 hb5 hb6 hg3 hg4 hg5 hg6 hs4 hs5)
    | ((with_reducible refine gate_dst (N := 44) rfl ?_); refine wpList_load_row rfl 92 _ rfl g6 rfl 92 #[.int .i64 2, .int .i64 2] (0, 0) _ HX6.out Try.underlying92 rfl size_fixed ?_)
    | ((with_reducible refine gate_dst (N := 102) rfl ?_); refine wpList_load_row rfl 92 _ rfl g6 rfl 92 #[.int .i64 2, .int .i64 2] (0, 0) _ HX6.out Try.underlying92 rfl size_fixed ?_)
    | ((with_reducible refine gate_store (p := 4) rfl ?_); refine store_one_event rfl rfl 88 _ _ rfl g4 _ rfl rfl rfl rfl 88 _ hx4 one_node ?_; intro w7 hx7 hw7; have hx57 := (hw7.other _ HNE.out.1.symm).trans hx5)
    | ((with_reducible refine gate_store (p := 5) rfl ?_); refine store_one_event rfl rfl 41 _ _ rfl g5 _ rfl rfl rfl rfl 41 _ hx57 one_errno ?_; intro w8 hx8 hw8; have hx48 := (hw8.other _ HNE.out.1).trans hx7))
  refine bodyPost_ret (results_two_ones rfl _ _ g4 g5 88 41 _ _ _ _ rfl hx48 Try.underlying88 rfl rfl hx8 Try.underlying41 rfl) rfl ?_
  exact ⟨hw8.below _ _ HNE.out.2.2 (hw7.below _ _ HNE.out.2.1 hbb.out), by rw [HF.out]; exact ⟨_, rfl, rfl⟩⟩
set_option maxHeartbeats 4000000 in
set_option maxRecDepth 100000 in
theorem of_o8 (name : ByteArray) (sort : Int) (n : ByteArray) (l : List Tm) (vs : List Bd) (ps : List Tm) (w : World) (g : Nat) (A4 : Option Addr) (c4 : Nat) (A5 : Option Addr) (c5 : Nat) (A6 : Option Addr) (c6 : Nat) (l4 : l.length ≤ c4) (l5 : vs.length ≤ c5) (l6 : ps.length ≤ c6) (sig : List Sg) (bs : List Bd) :
    Calls Try.prog 31 #[.pointer (some ⟨g, 0, none⟩), .agg #[.int .i64 8, .string name, .int .i64 sort, .string n, .slice A4 l.length c4, .slice A5 vs.length c5, .slice A6 ps.length c6]] w (GivesNd w (ofS sig bs ⟨8, name, sort, n, l, vs, ps⟩)) := by
  have HF := Aside0.mk (show ofS sig bs ⟨8, name, sort, n, l, vs, ps⟩ = .ok (.fix 2 2) from rfl)
  go_enter Try.func31, Try.ntmps31
  go_wp2_with (first
    | ((with_reducible refine gate_dst (N := 3) rfl ?_); refine box_event rfl (N := 3) rfl (cs := #[.int .i64 8, .string name, .int .i64 sort, .string n, .slice A4 l.length c4, .slice A5 vs.length c5, .slice A6 ps.length c6]) (t := 40) ?hr ?_; (case hr => first | (go_simp; done) | (go_simp; rfl)); intro g3 hg3 w3 hbox3 hb3; have HG3 := Aside0.mk hg3; have HX3 := Aside0.mk hbox3; clear hg3 hbox3)
    | ((with_reducible refine gate_dst (N := 4) rfl ?_); refine box_event rfl (N := 4) rfl (cs := #[.nilIface]) (t := 88) ?hr ?_; (case hr => first | (go_simp; done) | (go_simp; rfl)); intro g4 hg4 w4 hbox4 hb4; have HG4 := Aside0.mk hg4; have HX4 := Aside0.mk hbox4; clear hg4 hbox4)
    | ((with_reducible refine gate_dst (N := 5) rfl ?_); refine box_event rfl (N := 5) rfl (cs := #[.int .i64 0]) (t := 41) ?hr ?_; (case hr => first | (go_simp; done) | (go_simp; rfl)); intro g5 hg5 w5 hbox5 hb5; have HG5 := Aside0.mk hg5; have HX5 := Aside0.mk hbox5; clear hg5 hbox5)
    | ((with_reducible refine gate_dst (N := 12) rfl ?_); (obtain ⟨w6, hw6⟩ : ∃ w6, w6 = w5.alloc (.cells #[.int .i64 2, .int .i64 2] 92) := ⟨_, rfl⟩); (obtain ⟨g6, hg6⟩ : ∃ g6, g6 = w5.heap.size := ⟨_, rfl⟩); rw [← hw6]; rw [← hg6]; (have hb6 : Below w5.heap.size w5 w6 := (by rw [hw6]; exact (Below.refl _ _).alloc (Nat.le_refl _) _)); (have HX6 := Aside0.mk (show w6.heap[g6]? = some (.cells #[.int .i64 2, .int .i64 2] 92 (0, 0)) from (by rw [hw6, hg6]; exact blk_new _ _))); have HG6 := Aside0.mk hg6; clear hw6 hg6; have hbb := Aside0.mk (below_step (below_step (below_step hb3 hb4) hb5) hb6); have c30 : w6.cell? ⟨g3, 0, none⟩ = some (.int .i64 8) := (blk_cell (blk_below (blk_below (blk_below HX3.out hb4) hb5) hb6) 0).trans rfl; have hx4 := blk_below (blk_below HX4.out hb5) hb6; have hx5 := blk_below HX5.out hb6; have hg3 := HG3.out; have hg4 := HG4.out; have hg5 := HG5.out; have hg6 := HG6.out; have hs4 := hb3.size; have hs5 := hb4.size; have HNE := Aside0.mk (show g4 ≠ g5 ∧ w.heap.size ≤ g4 ∧ w.heap.size ≤ g5 from ⟨by have := blk_lt HX4.out; omega, by omega, by omega⟩); clear hb3 hb4 hb5 hb6 hg3 hg4 hg5 hg6 hs4 hs5)
    | ((with_reducible refine gate_dst (N := 44) rfl ?_); refine wpList_load_row rfl 92 _ rfl g6 rfl 92 #[.int .i64 2, .int .i64 2] (0, 0) _ HX6.out Try.underlying92 rfl size_fixed ?_)
    | ((with_reducible refine gate_dst (N := 102) rfl ?_); refine wpList_load_row rfl 92 _ rfl g6 rfl 92 #[.int .i64 2, .int .i64 2] (0, 0) _ HX6.out Try.underlying92 rfl size_fixed ?_)
    | ((with_reducible refine gate_store (p := 4) rfl ?_); refine store_one_event rfl rfl 88 _ _ rfl g4 _ rfl rfl rfl rfl 88 _ hx4 one_node ?_; intro w7 hx7 hw7; have hx57 := (hw7.other _ HNE.out.1.symm).trans hx5)
    | ((with_reducible refine gate_store (p := 5) rfl ?_); refine store_one_event rfl rfl 41 _ _ rfl g5 _ rfl rfl rfl rfl 41 _ hx57 one_errno ?_; intro w8 hx8 hw8; have hx48 := (hw8.other _ HNE.out.1).trans hx7))
  refine bodyPost_ret (results_two_ones rfl _ _ g4 g5 88 41 _ _ _ _ rfl hx48 Try.underlying88 rfl rfl hx8 Try.underlying41 rfl) rfl ?_
  exact ⟨hw8.below _ _ HNE.out.2.2 (hw7.below _ _ HNE.out.2.1 hbb.out), by rw [HF.out]; exact ⟨_, rfl, rfl⟩⟩
end Go.Proofs.Ytiokmnabkccpcaa.Kit
