/- Terms: term.shape. -/
import Derived.Test.YtiokmnabkccpcaaBa
import Derived.Test.YtiokmnabkccpcaaBb
set_option linter.unusedVariables false
set_option linter.unusedSimpArgs false
namespace Go.Proofs.Ytiokmnabkccpcaa.Kit
open Go.RowKit Go.Proofs.YtiokmnabkccpcaaW.PrintWords Go.Proofs.YtiokmnabkccpcaaW.PrintLast Go.Proofs.YtiokmnabkccpcaaW.PrintMore

def shapeS (t : Tm) : Bool :=
  let n : Int := t.f4.length
  if t.f0 = 1 then (parseS t.f3).isSome && n == 0
  else if t.f0 = 2 ∨ t.f0 = 3 then n == 0
  else if t.f0 = 18 then n == 0 && namedS t.f1
  else if t.f0 = 4 ∨ t.f0 = 14 then n == 1
  else if t.f0 = 5 ∨ t.f0 = 6 ∨ t.f0 = 12 then true
  else if t.f0 = 17 then namedS t.f1
  else if t.f0 = 7 ∨ t.f0 = 8 ∨ t.f0 = 9 ∨ t.f0 = 10 ∨ t.f0 = 11 ∨ t.f0 = 13 then n == 2
  else if t.f0 = 15 then n == 2 && (t.f4.getD 0 zTm).f0 == 1
  else if t.f0 = 16 then n == 3
  else if t.f0 = 19 then n == 1 && bindsS t.f5 && decide (0 < t.f6.length)
  else false

set_option maxHeartbeats 4000000 in
set_option maxRecDepth 100000 in
theorem shape_o2 (name : ByteArray) (sort : Int) (n : ByteArray) (l : List Tm) (vs : List Bd) (ps : List Tm) (w : World) (A4 : Option Addr) (c4 : Nat) (A5 : Option Addr) (c5 : Nat) (A6 : Option Addr) (c6 : Nat) (l4 : l.length ≤ c4) (l5 : vs.length ≤ c5) (l6 : ps.length ≤ c6) :
    Calls Try.prog 30 #[.agg #[.int .i64 2, .string name, .int .i64 sort, .string n, .slice A4 l.length c4, .slice A5 vs.length c5, .slice A6 ps.length c6]] w (Gives w (.bool (shapeS ⟨2, name, sort, n, l, vs, ps⟩))) := by
  have HF : ∀ b, shapeS ⟨2, name, sort, n, l, vs, ps⟩ = b → Aside0 (shapeS ⟨2, name, sort, n, l, vs, ps⟩ = b) := fun _ h => ⟨h⟩
  go_enter Try.func30, Try.ntmps30
  go_wp2_with ((with_reducible refine gate_dst (N := 1) rfl ?_); refine box_event rfl (N := 1) rfl (cs := #[.int .i64 2, .string name, .int .i64 sort, .string n, .slice A4 l.length c4, .slice A5 vs.length c5, .slice A6 ps.length c6]) (t := 40) ?hr ?_; (case hr => first | (go_simp; done) | (go_simp; rfl)); intro g1 hg1 w1 hbox1 hb1; have HG1 := Aside0.mk hg1; have HX1 := Aside0.mk hbox1; clear hg1 hbox1; have c20 : w1.cell? ⟨g1, 0, none⟩ = some (.int .i64 2) := (blk_cell HX1.out 0).trans rfl; have c24 : w1.cell? ⟨g1, 4, none⟩ = some (.slice A4 l.length c4) := (blk_cell HX1.out 4).trans rfl)
  go_ret
  exact ⟨rfl, hb1⟩
set_option maxHeartbeats 4000000 in
set_option maxRecDepth 100000 in
theorem shape_o3 (name : ByteArray) (sort : Int) (n : ByteArray) (l : List Tm) (vs : List Bd) (ps : List Tm) (w : World) (A4 : Option Addr) (c4 : Nat) (A5 : Option Addr) (c5 : Nat) (A6 : Option Addr) (c6 : Nat) (l4 : l.length ≤ c4) (l5 : vs.length ≤ c5) (l6 : ps.length ≤ c6) :
    Calls Try.prog 30 #[.agg #[.int .i64 3, .string name, .int .i64 sort, .string n, .slice A4 l.length c4, .slice A5 vs.length c5, .slice A6 ps.length c6]] w (Gives w (.bool (shapeS ⟨3, name, sort, n, l, vs, ps⟩))) := by
  have HF : ∀ b, shapeS ⟨3, name, sort, n, l, vs, ps⟩ = b → Aside0 (shapeS ⟨3, name, sort, n, l, vs, ps⟩ = b) := fun _ h => ⟨h⟩
  go_enter Try.func30, Try.ntmps30
  go_wp2_with ((with_reducible refine gate_dst (N := 1) rfl ?_); refine box_event rfl (N := 1) rfl (cs := #[.int .i64 3, .string name, .int .i64 sort, .string n, .slice A4 l.length c4, .slice A5 vs.length c5, .slice A6 ps.length c6]) (t := 40) ?hr ?_; (case hr => first | (go_simp; done) | (go_simp; rfl)); intro g1 hg1 w1 hbox1 hb1; have HG1 := Aside0.mk hg1; have HX1 := Aside0.mk hbox1; clear hg1 hbox1; have c20 : w1.cell? ⟨g1, 0, none⟩ = some (.int .i64 3) := (blk_cell HX1.out 0).trans rfl; have c24 : w1.cell? ⟨g1, 4, none⟩ = some (.slice A4 l.length c4) := (blk_cell HX1.out 4).trans rfl)
  go_ret
  exact ⟨rfl, hb1⟩
set_option maxHeartbeats 4000000 in
set_option maxRecDepth 100000 in
theorem shape_o4 (name : ByteArray) (sort : Int) (n : ByteArray) (l : List Tm) (vs : List Bd) (ps : List Tm) (w : World) (A4 : Option Addr) (c4 : Nat) (A5 : Option Addr) (c5 : Nat) (A6 : Option Addr) (c6 : Nat) (l4 : l.length ≤ c4) (l5 : vs.length ≤ c5) (l6 : ps.length ≤ c6) :
    Calls Try.prog 30 #[.agg #[.int .i64 4, .string name, .int .i64 sort, .string n, .slice A4 l.length c4, .slice A5 vs.length c5, .slice A6 ps.length c6]] w (Gives w (.bool (shapeS ⟨4, name, sort, n, l, vs, ps⟩))) := by
  have HF : ∀ b, shapeS ⟨4, name, sort, n, l, vs, ps⟩ = b → Aside0 (shapeS ⟨4, name, sort, n, l, vs, ps⟩ = b) := fun _ h => ⟨h⟩
  go_enter Try.func30, Try.ntmps30
  go_wp2_with ((with_reducible refine gate_dst (N := 1) rfl ?_); refine box_event rfl (N := 1) rfl (cs := #[.int .i64 4, .string name, .int .i64 sort, .string n, .slice A4 l.length c4, .slice A5 vs.length c5, .slice A6 ps.length c6]) (t := 40) ?hr ?_; (case hr => first | (go_simp; done) | (go_simp; rfl)); intro g1 hg1 w1 hbox1 hb1; have HG1 := Aside0.mk hg1; have HX1 := Aside0.mk hbox1; clear hg1 hbox1; have c20 : w1.cell? ⟨g1, 0, none⟩ = some (.int .i64 4) := (blk_cell HX1.out 0).trans rfl; have c24 : w1.cell? ⟨g1, 4, none⟩ = some (.slice A4 l.length c4) := (blk_cell HX1.out 4).trans rfl)
  go_ret
  exact ⟨rfl, hb1⟩
set_option maxHeartbeats 4000000 in
set_option maxRecDepth 100000 in
theorem shape_o14 (name : ByteArray) (sort : Int) (n : ByteArray) (l : List Tm) (vs : List Bd) (ps : List Tm) (w : World) (A4 : Option Addr) (c4 : Nat) (A5 : Option Addr) (c5 : Nat) (A6 : Option Addr) (c6 : Nat) (l4 : l.length ≤ c4) (l5 : vs.length ≤ c5) (l6 : ps.length ≤ c6) :
    Calls Try.prog 30 #[.agg #[.int .i64 14, .string name, .int .i64 sort, .string n, .slice A4 l.length c4, .slice A5 vs.length c5, .slice A6 ps.length c6]] w (Gives w (.bool (shapeS ⟨14, name, sort, n, l, vs, ps⟩))) := by
  have HF : ∀ b, shapeS ⟨14, name, sort, n, l, vs, ps⟩ = b → Aside0 (shapeS ⟨14, name, sort, n, l, vs, ps⟩ = b) := fun _ h => ⟨h⟩
  go_enter Try.func30, Try.ntmps30
  go_wp2_with ((with_reducible refine gate_dst (N := 1) rfl ?_); refine box_event rfl (N := 1) rfl (cs := #[.int .i64 14, .string name, .int .i64 sort, .string n, .slice A4 l.length c4, .slice A5 vs.length c5, .slice A6 ps.length c6]) (t := 40) ?hr ?_; (case hr => first | (go_simp; done) | (go_simp; rfl)); intro g1 hg1 w1 hbox1 hb1; have HG1 := Aside0.mk hg1; have HX1 := Aside0.mk hbox1; clear hg1 hbox1; have c20 : w1.cell? ⟨g1, 0, none⟩ = some (.int .i64 14) := (blk_cell HX1.out 0).trans rfl; have c24 : w1.cell? ⟨g1, 4, none⟩ = some (.slice A4 l.length c4) := (blk_cell HX1.out 4).trans rfl)
  go_ret
  exact ⟨rfl, hb1⟩
set_option maxHeartbeats 4000000 in
set_option maxRecDepth 100000 in
theorem shape_o5 (name : ByteArray) (sort : Int) (n : ByteArray) (l : List Tm) (vs : List Bd) (ps : List Tm) (w : World) (A4 : Option Addr) (c4 : Nat) (A5 : Option Addr) (c5 : Nat) (A6 : Option Addr) (c6 : Nat) (l4 : l.length ≤ c4) (l5 : vs.length ≤ c5) (l6 : ps.length ≤ c6) :
    Calls Try.prog 30 #[.agg #[.int .i64 5, .string name, .int .i64 sort, .string n, .slice A4 l.length c4, .slice A5 vs.length c5, .slice A6 ps.length c6]] w (Gives w (.bool (shapeS ⟨5, name, sort, n, l, vs, ps⟩))) := by
  have HF : ∀ b, shapeS ⟨5, name, sort, n, l, vs, ps⟩ = b → Aside0 (shapeS ⟨5, name, sort, n, l, vs, ps⟩ = b) := fun _ h => ⟨h⟩
  go_enter Try.func30, Try.ntmps30
  go_wp2_with ((with_reducible refine gate_dst (N := 1) rfl ?_); refine box_event rfl (N := 1) rfl (cs := #[.int .i64 5, .string name, .int .i64 sort, .string n, .slice A4 l.length c4, .slice A5 vs.length c5, .slice A6 ps.length c6]) (t := 40) ?hr ?_; (case hr => first | (go_simp; done) | (go_simp; rfl)); intro g1 hg1 w1 hbox1 hb1; have HG1 := Aside0.mk hg1; have HX1 := Aside0.mk hbox1; clear hg1 hbox1; have c20 : w1.cell? ⟨g1, 0, none⟩ = some (.int .i64 5) := (blk_cell HX1.out 0).trans rfl; have c24 : w1.cell? ⟨g1, 4, none⟩ = some (.slice A4 l.length c4) := (blk_cell HX1.out 4).trans rfl)
  go_ret
  exact ⟨rfl, hb1⟩
set_option maxHeartbeats 4000000 in
set_option maxRecDepth 100000 in
theorem shape_o6 (name : ByteArray) (sort : Int) (n : ByteArray) (l : List Tm) (vs : List Bd) (ps : List Tm) (w : World) (A4 : Option Addr) (c4 : Nat) (A5 : Option Addr) (c5 : Nat) (A6 : Option Addr) (c6 : Nat) (l4 : l.length ≤ c4) (l5 : vs.length ≤ c5) (l6 : ps.length ≤ c6) :
    Calls Try.prog 30 #[.agg #[.int .i64 6, .string name, .int .i64 sort, .string n, .slice A4 l.length c4, .slice A5 vs.length c5, .slice A6 ps.length c6]] w (Gives w (.bool (shapeS ⟨6, name, sort, n, l, vs, ps⟩))) := by
  have HF : ∀ b, shapeS ⟨6, name, sort, n, l, vs, ps⟩ = b → Aside0 (shapeS ⟨6, name, sort, n, l, vs, ps⟩ = b) := fun _ h => ⟨h⟩
  go_enter Try.func30, Try.ntmps30
  go_wp2_with ((with_reducible refine gate_dst (N := 1) rfl ?_); refine box_event rfl (N := 1) rfl (cs := #[.int .i64 6, .string name, .int .i64 sort, .string n, .slice A4 l.length c4, .slice A5 vs.length c5, .slice A6 ps.length c6]) (t := 40) ?hr ?_; (case hr => first | (go_simp; done) | (go_simp; rfl)); intro g1 hg1 w1 hbox1 hb1; have HG1 := Aside0.mk hg1; have HX1 := Aside0.mk hbox1; clear hg1 hbox1; have c20 : w1.cell? ⟨g1, 0, none⟩ = some (.int .i64 6) := (blk_cell HX1.out 0).trans rfl; have c24 : w1.cell? ⟨g1, 4, none⟩ = some (.slice A4 l.length c4) := (blk_cell HX1.out 4).trans rfl)
  go_ret
  exact ⟨rfl, hb1⟩
set_option maxHeartbeats 4000000 in
set_option maxRecDepth 100000 in
theorem shape_o12 (name : ByteArray) (sort : Int) (n : ByteArray) (l : List Tm) (vs : List Bd) (ps : List Tm) (w : World) (A4 : Option Addr) (c4 : Nat) (A5 : Option Addr) (c5 : Nat) (A6 : Option Addr) (c6 : Nat) (l4 : l.length ≤ c4) (l5 : vs.length ≤ c5) (l6 : ps.length ≤ c6) :
    Calls Try.prog 30 #[.agg #[.int .i64 12, .string name, .int .i64 sort, .string n, .slice A4 l.length c4, .slice A5 vs.length c5, .slice A6 ps.length c6]] w (Gives w (.bool (shapeS ⟨12, name, sort, n, l, vs, ps⟩))) := by
  have HF : ∀ b, shapeS ⟨12, name, sort, n, l, vs, ps⟩ = b → Aside0 (shapeS ⟨12, name, sort, n, l, vs, ps⟩ = b) := fun _ h => ⟨h⟩
  go_enter Try.func30, Try.ntmps30
  go_wp2_with ((with_reducible refine gate_dst (N := 1) rfl ?_); refine box_event rfl (N := 1) rfl (cs := #[.int .i64 12, .string name, .int .i64 sort, .string n, .slice A4 l.length c4, .slice A5 vs.length c5, .slice A6 ps.length c6]) (t := 40) ?hr ?_; (case hr => first | (go_simp; done) | (go_simp; rfl)); intro g1 hg1 w1 hbox1 hb1; have HG1 := Aside0.mk hg1; have HX1 := Aside0.mk hbox1; clear hg1 hbox1; have c20 : w1.cell? ⟨g1, 0, none⟩ = some (.int .i64 12) := (blk_cell HX1.out 0).trans rfl; have c24 : w1.cell? ⟨g1, 4, none⟩ = some (.slice A4 l.length c4) := (blk_cell HX1.out 4).trans rfl)
  go_ret
  exact ⟨rfl, hb1⟩
set_option maxHeartbeats 4000000 in
set_option maxRecDepth 100000 in
theorem shape_o7 (name : ByteArray) (sort : Int) (n : ByteArray) (l : List Tm) (vs : List Bd) (ps : List Tm) (w : World) (A4 : Option Addr) (c4 : Nat) (A5 : Option Addr) (c5 : Nat) (A6 : Option Addr) (c6 : Nat) (l4 : l.length ≤ c4) (l5 : vs.length ≤ c5) (l6 : ps.length ≤ c6) :
    Calls Try.prog 30 #[.agg #[.int .i64 7, .string name, .int .i64 sort, .string n, .slice A4 l.length c4, .slice A5 vs.length c5, .slice A6 ps.length c6]] w (Gives w (.bool (shapeS ⟨7, name, sort, n, l, vs, ps⟩))) := by
  have HF : ∀ b, shapeS ⟨7, name, sort, n, l, vs, ps⟩ = b → Aside0 (shapeS ⟨7, name, sort, n, l, vs, ps⟩ = b) := fun _ h => ⟨h⟩
  go_enter Try.func30, Try.ntmps30
  go_wp2_with ((with_reducible refine gate_dst (N := 1) rfl ?_); refine box_event rfl (N := 1) rfl (cs := #[.int .i64 7, .string name, .int .i64 sort, .string n, .slice A4 l.length c4, .slice A5 vs.length c5, .slice A6 ps.length c6]) (t := 40) ?hr ?_; (case hr => first | (go_simp; done) | (go_simp; rfl)); intro g1 hg1 w1 hbox1 hb1; have HG1 := Aside0.mk hg1; have HX1 := Aside0.mk hbox1; clear hg1 hbox1; have c20 : w1.cell? ⟨g1, 0, none⟩ = some (.int .i64 7) := (blk_cell HX1.out 0).trans rfl; have c24 : w1.cell? ⟨g1, 4, none⟩ = some (.slice A4 l.length c4) := (blk_cell HX1.out 4).trans rfl)
  go_ret
  exact ⟨rfl, hb1⟩
set_option maxHeartbeats 4000000 in
set_option maxRecDepth 100000 in
theorem shape_o8 (name : ByteArray) (sort : Int) (n : ByteArray) (l : List Tm) (vs : List Bd) (ps : List Tm) (w : World) (A4 : Option Addr) (c4 : Nat) (A5 : Option Addr) (c5 : Nat) (A6 : Option Addr) (c6 : Nat) (l4 : l.length ≤ c4) (l5 : vs.length ≤ c5) (l6 : ps.length ≤ c6) :
    Calls Try.prog 30 #[.agg #[.int .i64 8, .string name, .int .i64 sort, .string n, .slice A4 l.length c4, .slice A5 vs.length c5, .slice A6 ps.length c6]] w (Gives w (.bool (shapeS ⟨8, name, sort, n, l, vs, ps⟩))) := by
  have HF : ∀ b, shapeS ⟨8, name, sort, n, l, vs, ps⟩ = b → Aside0 (shapeS ⟨8, name, sort, n, l, vs, ps⟩ = b) := fun _ h => ⟨h⟩
  go_enter Try.func30, Try.ntmps30
  go_wp2_with ((with_reducible refine gate_dst (N := 1) rfl ?_); refine box_event rfl (N := 1) rfl (cs := #[.int .i64 8, .string name, .int .i64 sort, .string n, .slice A4 l.length c4, .slice A5 vs.length c5, .slice A6 ps.length c6]) (t := 40) ?hr ?_; (case hr => first | (go_simp; done) | (go_simp; rfl)); intro g1 hg1 w1 hbox1 hb1; have HG1 := Aside0.mk hg1; have HX1 := Aside0.mk hbox1; clear hg1 hbox1; have c20 : w1.cell? ⟨g1, 0, none⟩ = some (.int .i64 8) := (blk_cell HX1.out 0).trans rfl; have c24 : w1.cell? ⟨g1, 4, none⟩ = some (.slice A4 l.length c4) := (blk_cell HX1.out 4).trans rfl)
  go_ret
  exact ⟨rfl, hb1⟩
set_option maxHeartbeats 4000000 in
set_option maxRecDepth 100000 in
theorem shape_o9 (name : ByteArray) (sort : Int) (n : ByteArray) (l : List Tm) (vs : List Bd) (ps : List Tm) (w : World) (A4 : Option Addr) (c4 : Nat) (A5 : Option Addr) (c5 : Nat) (A6 : Option Addr) (c6 : Nat) (l4 : l.length ≤ c4) (l5 : vs.length ≤ c5) (l6 : ps.length ≤ c6) :
    Calls Try.prog 30 #[.agg #[.int .i64 9, .string name, .int .i64 sort, .string n, .slice A4 l.length c4, .slice A5 vs.length c5, .slice A6 ps.length c6]] w (Gives w (.bool (shapeS ⟨9, name, sort, n, l, vs, ps⟩))) := by
  have HF : ∀ b, shapeS ⟨9, name, sort, n, l, vs, ps⟩ = b → Aside0 (shapeS ⟨9, name, sort, n, l, vs, ps⟩ = b) := fun _ h => ⟨h⟩
  go_enter Try.func30, Try.ntmps30
  go_wp2_with ((with_reducible refine gate_dst (N := 1) rfl ?_); refine box_event rfl (N := 1) rfl (cs := #[.int .i64 9, .string name, .int .i64 sort, .string n, .slice A4 l.length c4, .slice A5 vs.length c5, .slice A6 ps.length c6]) (t := 40) ?hr ?_; (case hr => first | (go_simp; done) | (go_simp; rfl)); intro g1 hg1 w1 hbox1 hb1; have HG1 := Aside0.mk hg1; have HX1 := Aside0.mk hbox1; clear hg1 hbox1; have c20 : w1.cell? ⟨g1, 0, none⟩ = some (.int .i64 9) := (blk_cell HX1.out 0).trans rfl; have c24 : w1.cell? ⟨g1, 4, none⟩ = some (.slice A4 l.length c4) := (blk_cell HX1.out 4).trans rfl)
  go_ret
  exact ⟨rfl, hb1⟩
set_option maxHeartbeats 4000000 in
set_option maxRecDepth 100000 in
theorem shape_o10 (name : ByteArray) (sort : Int) (n : ByteArray) (l : List Tm) (vs : List Bd) (ps : List Tm) (w : World) (A4 : Option Addr) (c4 : Nat) (A5 : Option Addr) (c5 : Nat) (A6 : Option Addr) (c6 : Nat) (l4 : l.length ≤ c4) (l5 : vs.length ≤ c5) (l6 : ps.length ≤ c6) :
    Calls Try.prog 30 #[.agg #[.int .i64 10, .string name, .int .i64 sort, .string n, .slice A4 l.length c4, .slice A5 vs.length c5, .slice A6 ps.length c6]] w (Gives w (.bool (shapeS ⟨10, name, sort, n, l, vs, ps⟩))) := by
  have HF : ∀ b, shapeS ⟨10, name, sort, n, l, vs, ps⟩ = b → Aside0 (shapeS ⟨10, name, sort, n, l, vs, ps⟩ = b) := fun _ h => ⟨h⟩
  go_enter Try.func30, Try.ntmps30
  go_wp2_with ((with_reducible refine gate_dst (N := 1) rfl ?_); refine box_event rfl (N := 1) rfl (cs := #[.int .i64 10, .string name, .int .i64 sort, .string n, .slice A4 l.length c4, .slice A5 vs.length c5, .slice A6 ps.length c6]) (t := 40) ?hr ?_; (case hr => first | (go_simp; done) | (go_simp; rfl)); intro g1 hg1 w1 hbox1 hb1; have HG1 := Aside0.mk hg1; have HX1 := Aside0.mk hbox1; clear hg1 hbox1; have c20 : w1.cell? ⟨g1, 0, none⟩ = some (.int .i64 10) := (blk_cell HX1.out 0).trans rfl; have c24 : w1.cell? ⟨g1, 4, none⟩ = some (.slice A4 l.length c4) := (blk_cell HX1.out 4).trans rfl)
  go_ret
  exact ⟨rfl, hb1⟩
set_option maxHeartbeats 4000000 in
set_option maxRecDepth 100000 in
theorem shape_o11 (name : ByteArray) (sort : Int) (n : ByteArray) (l : List Tm) (vs : List Bd) (ps : List Tm) (w : World) (A4 : Option Addr) (c4 : Nat) (A5 : Option Addr) (c5 : Nat) (A6 : Option Addr) (c6 : Nat) (l4 : l.length ≤ c4) (l5 : vs.length ≤ c5) (l6 : ps.length ≤ c6) :
    Calls Try.prog 30 #[.agg #[.int .i64 11, .string name, .int .i64 sort, .string n, .slice A4 l.length c4, .slice A5 vs.length c5, .slice A6 ps.length c6]] w (Gives w (.bool (shapeS ⟨11, name, sort, n, l, vs, ps⟩))) := by
  have HF : ∀ b, shapeS ⟨11, name, sort, n, l, vs, ps⟩ = b → Aside0 (shapeS ⟨11, name, sort, n, l, vs, ps⟩ = b) := fun _ h => ⟨h⟩
  go_enter Try.func30, Try.ntmps30
  go_wp2_with ((with_reducible refine gate_dst (N := 1) rfl ?_); refine box_event rfl (N := 1) rfl (cs := #[.int .i64 11, .string name, .int .i64 sort, .string n, .slice A4 l.length c4, .slice A5 vs.length c5, .slice A6 ps.length c6]) (t := 40) ?hr ?_; (case hr => first | (go_simp; done) | (go_simp; rfl)); intro g1 hg1 w1 hbox1 hb1; have HG1 := Aside0.mk hg1; have HX1 := Aside0.mk hbox1; clear hg1 hbox1; have c20 : w1.cell? ⟨g1, 0, none⟩ = some (.int .i64 11) := (blk_cell HX1.out 0).trans rfl; have c24 : w1.cell? ⟨g1, 4, none⟩ = some (.slice A4 l.length c4) := (blk_cell HX1.out 4).trans rfl)
  go_ret
  exact ⟨rfl, hb1⟩
set_option maxHeartbeats 4000000 in
set_option maxRecDepth 100000 in
theorem shape_o13 (name : ByteArray) (sort : Int) (n : ByteArray) (l : List Tm) (vs : List Bd) (ps : List Tm) (w : World) (A4 : Option Addr) (c4 : Nat) (A5 : Option Addr) (c5 : Nat) (A6 : Option Addr) (c6 : Nat) (l4 : l.length ≤ c4) (l5 : vs.length ≤ c5) (l6 : ps.length ≤ c6) :
    Calls Try.prog 30 #[.agg #[.int .i64 13, .string name, .int .i64 sort, .string n, .slice A4 l.length c4, .slice A5 vs.length c5, .slice A6 ps.length c6]] w (Gives w (.bool (shapeS ⟨13, name, sort, n, l, vs, ps⟩))) := by
  have HF : ∀ b, shapeS ⟨13, name, sort, n, l, vs, ps⟩ = b → Aside0 (shapeS ⟨13, name, sort, n, l, vs, ps⟩ = b) := fun _ h => ⟨h⟩
  go_enter Try.func30, Try.ntmps30
  go_wp2_with ((with_reducible refine gate_dst (N := 1) rfl ?_); refine box_event rfl (N := 1) rfl (cs := #[.int .i64 13, .string name, .int .i64 sort, .string n, .slice A4 l.length c4, .slice A5 vs.length c5, .slice A6 ps.length c6]) (t := 40) ?hr ?_; (case hr => first | (go_simp; done) | (go_simp; rfl)); intro g1 hg1 w1 hbox1 hb1; have HG1 := Aside0.mk hg1; have HX1 := Aside0.mk hbox1; clear hg1 hbox1; have c20 : w1.cell? ⟨g1, 0, none⟩ = some (.int .i64 13) := (blk_cell HX1.out 0).trans rfl; have c24 : w1.cell? ⟨g1, 4, none⟩ = some (.slice A4 l.length c4) := (blk_cell HX1.out 4).trans rfl)
  go_ret
  exact ⟨rfl, hb1⟩
set_option maxHeartbeats 4000000 in
set_option maxRecDepth 100000 in
theorem shape_o16 (name : ByteArray) (sort : Int) (n : ByteArray) (l : List Tm) (vs : List Bd) (ps : List Tm) (w : World) (A4 : Option Addr) (c4 : Nat) (A5 : Option Addr) (c5 : Nat) (A6 : Option Addr) (c6 : Nat) (l4 : l.length ≤ c4) (l5 : vs.length ≤ c5) (l6 : ps.length ≤ c6) :
    Calls Try.prog 30 #[.agg #[.int .i64 16, .string name, .int .i64 sort, .string n, .slice A4 l.length c4, .slice A5 vs.length c5, .slice A6 ps.length c6]] w (Gives w (.bool (shapeS ⟨16, name, sort, n, l, vs, ps⟩))) := by
  have HF : ∀ b, shapeS ⟨16, name, sort, n, l, vs, ps⟩ = b → Aside0 (shapeS ⟨16, name, sort, n, l, vs, ps⟩ = b) := fun _ h => ⟨h⟩
  go_enter Try.func30, Try.ntmps30
  go_wp2_with ((with_reducible refine gate_dst (N := 1) rfl ?_); refine box_event rfl (N := 1) rfl (cs := #[.int .i64 16, .string name, .int .i64 sort, .string n, .slice A4 l.length c4, .slice A5 vs.length c5, .slice A6 ps.length c6]) (t := 40) ?hr ?_; (case hr => first | (go_simp; done) | (go_simp; rfl)); intro g1 hg1 w1 hbox1 hb1; have HG1 := Aside0.mk hg1; have HX1 := Aside0.mk hbox1; clear hg1 hbox1; have c20 : w1.cell? ⟨g1, 0, none⟩ = some (.int .i64 16) := (blk_cell HX1.out 0).trans rfl; have c24 : w1.cell? ⟨g1, 4, none⟩ = some (.slice A4 l.length c4) := (blk_cell HX1.out 4).trans rfl)
  go_ret
  exact ⟨rfl, hb1⟩
set_option maxHeartbeats 4000000 in
set_option maxRecDepth 100000 in
theorem shape_o17 (name : ByteArray) (sort : Int) (n : ByteArray) (l : List Tm) (vs : List Bd) (ps : List Tm) (w : World) (A4 : Option Addr) (c4 : Nat) (A5 : Option Addr) (c5 : Nat) (A6 : Option Addr) (c6 : Nat) (l4 : l.length ≤ c4) (l5 : vs.length ≤ c5) (l6 : ps.length ≤ c6) (hn : name.size ≤ 9223372036854775807) :
    Calls Try.prog 30 #[.agg #[.int .i64 17, .string name, .int .i64 sort, .string n, .slice A4 l.length c4, .slice A5 vs.length c5, .slice A6 ps.length c6]] w (Gives w (.bool (shapeS ⟨17, name, sort, n, l, vs, ps⟩))) := by
  go_enter Try.func30, Try.ntmps30
  go_wp2_with ((with_reducible refine gate_dst (N := 1) rfl ?_); refine box_event rfl (N := 1) rfl (cs := #[.int .i64 17, .string name, .int .i64 sort, .string n, .slice A4 l.length c4, .slice A5 vs.length c5, .slice A6 ps.length c6]) (t := 40) ?hr ?_; (case hr => first | (go_simp; done) | (go_simp; rfl)); intro g1 hg1 w1 hbox1 hb1; have HG1 := Aside0.mk hg1; have HX1 := Aside0.mk hbox1; clear hg1 hbox1; have c20 : w1.cell? ⟨g1, 0, none⟩ = some (.int .i64 17) := (blk_cell HX1.out 0).trans rfl; have c21 : w1.cell? ⟨g1, 1, none⟩ = some (.string name) := (blk_cell HX1.out 1).trans rfl; have c23 : w1.cell? ⟨g1, 3, none⟩ = some (.string n) := (blk_cell HX1.out 3).trans rfl; have c24 : w1.cell? ⟨g1, 4, none⟩ = some (.slice A4 l.length c4) := (blk_cell HX1.out 4).trans rfl; have c25 : w1.cell? ⟨g1, 5, none⟩ = some (.slice A5 vs.length c5) := (blk_cell HX1.out 5).trans rfl; have c26 : w1.cell? ⟨g1, 6, none⟩ = some (.slice A6 ps.length c6) := (blk_cell HX1.out 6).trans rfl)
  refine (named_calls name w1 hn).mono ?_
  rintro e w' ⟨rfl, hb⟩
  go_wp2
  go_ret
  exact ⟨rfl, below_step hb1 hb⟩
set_option maxHeartbeats 4000000 in
set_option maxRecDepth 100000 in
theorem shape_o18 (name : ByteArray) (sort : Int) (n : ByteArray) (l : List Tm) (vs : List Bd) (ps : List Tm) (w : World) (A4 : Option Addr) (c4 : Nat) (A5 : Option Addr) (c5 : Nat) (A6 : Option Addr) (c6 : Nat) (l4 : l.length ≤ c4) (l5 : vs.length ≤ c5) (l6 : ps.length ≤ c6) (hn : name.size ≤ 9223372036854775807) :
    Calls Try.prog 30 #[.agg #[.int .i64 18, .string name, .int .i64 sort, .string n, .slice A4 l.length c4, .slice A5 vs.length c5, .slice A6 ps.length c6]] w (Gives w (.bool (shapeS ⟨18, name, sort, n, l, vs, ps⟩))) := by
  cases hq : ((l.length : Int) == 0) with
  | false =>
    have HF := Aside0.mk (show shapeS ⟨18, name, sort, n, l, vs, ps⟩ = false from by unfold shapeS; simp [hq])
    go_enter Try.func30, Try.ntmps30
    go_wp2_with ((with_reducible refine gate_dst (N := 1) rfl ?_); refine box_event rfl (N := 1) rfl (cs := #[.int .i64 18, .string name, .int .i64 sort, .string n, .slice A4 l.length c4, .slice A5 vs.length c5, .slice A6 ps.length c6]) (t := 40) ?hr ?_; (case hr => first | (go_simp; done) | (go_simp; rfl)); intro g1 hg1 w1 hbox1 hb1; have HG1 := Aside0.mk hg1; have HX1 := Aside0.mk hbox1; clear hg1 hbox1; have c20 : w1.cell? ⟨g1, 0, none⟩ = some (.int .i64 18) := (blk_cell HX1.out 0).trans rfl; have c21 : w1.cell? ⟨g1, 1, none⟩ = some (.string name) := (blk_cell HX1.out 1).trans rfl; have c23 : w1.cell? ⟨g1, 3, none⟩ = some (.string n) := (blk_cell HX1.out 3).trans rfl; have c24 : w1.cell? ⟨g1, 4, none⟩ = some (.slice A4 l.length c4) := (blk_cell HX1.out 4).trans rfl; have c25 : w1.cell? ⟨g1, 5, none⟩ = some (.slice A5 vs.length c5) := (blk_cell HX1.out 5).trans rfl; have c26 : w1.cell? ⟨g1, 6, none⟩ = some (.slice A6 ps.length c6) := (blk_cell HX1.out 6).trans rfl)
    go_ret
    exact ⟨by rw [HF.out]; rfl, hb1⟩
  | true =>
    have HF := Aside0.mk (show shapeS ⟨18, name, sort, n, l, vs, ps⟩ = namedS name from by unfold shapeS; simp [hq])
    go_enter Try.func30, Try.ntmps30
    go_wp2_with ((with_reducible refine gate_dst (N := 1) rfl ?_); refine box_event rfl (N := 1) rfl (cs := #[.int .i64 18, .string name, .int .i64 sort, .string n, .slice A4 l.length c4, .slice A5 vs.length c5, .slice A6 ps.length c6]) (t := 40) ?hr ?_; (case hr => first | (go_simp; done) | (go_simp; rfl)); intro g1 hg1 w1 hbox1 hb1; have HG1 := Aside0.mk hg1; have HX1 := Aside0.mk hbox1; clear hg1 hbox1; have c20 : w1.cell? ⟨g1, 0, none⟩ = some (.int .i64 18) := (blk_cell HX1.out 0).trans rfl; have c21 : w1.cell? ⟨g1, 1, none⟩ = some (.string name) := (blk_cell HX1.out 1).trans rfl; have c23 : w1.cell? ⟨g1, 3, none⟩ = some (.string n) := (blk_cell HX1.out 3).trans rfl; have c24 : w1.cell? ⟨g1, 4, none⟩ = some (.slice A4 l.length c4) := (blk_cell HX1.out 4).trans rfl; have c25 : w1.cell? ⟨g1, 5, none⟩ = some (.slice A5 vs.length c5) := (blk_cell HX1.out 5).trans rfl; have c26 : w1.cell? ⟨g1, 6, none⟩ = some (.slice A6 ps.length c6) := (blk_cell HX1.out 6).trans rfl)
    refine (named_calls name w1 hn).mono ?_
    rintro e w' ⟨rfl, hb⟩
    go_wp2
    go_ret
    exact ⟨by rw [HF.out]; rfl, below_step hb1 hb⟩
set_option maxHeartbeats 4000000 in
set_option maxRecDepth 100000 in
theorem shape_o1 (name : ByteArray) (sort : Int) (n : ByteArray) (l : List Tm) (vs : List Bd) (ps : List Tm) (w : World) (A4 : Option Addr) (c4 : Nat) (A5 : Option Addr) (c5 : Nat) (A6 : Option Addr) (c6 : Nat) (l4 : l.length ≤ c4) (l5 : vs.length ≤ c5) (l6 : ps.length ≤ c6) (hn : n.size ≤ 1099511627776) :
    Calls Try.prog 30 #[.agg #[.int .i64 1, .string name, .int .i64 sort, .string n, .slice A4 l.length c4, .slice A5 vs.length c5, .slice A6 ps.length c6]] w (Gives w (.bool (shapeS ⟨1, name, sort, n, l, vs, ps⟩))) := by
  cases hq : ((l.length : Int) == 0) with
  | false =>
    have HF := Aside0.mk (show shapeS ⟨1, name, sort, n, l, vs, ps⟩ = false from by unfold shapeS; simp [hq])
    go_enter Try.func30, Try.ntmps30
    go_wp2_with ((with_reducible refine gate_dst (N := 1) rfl ?_); refine box_event rfl (N := 1) rfl (cs := #[.int .i64 1, .string name, .int .i64 sort, .string n, .slice A4 l.length c4, .slice A5 vs.length c5, .slice A6 ps.length c6]) (t := 40) ?hr ?_; (case hr => first | (go_simp; done) | (go_simp; rfl)); intro g1 hg1 w1 hbox1 hb1; have HG1 := Aside0.mk hg1; have HX1 := Aside0.mk hbox1; clear hg1 hbox1; have c20 : w1.cell? ⟨g1, 0, none⟩ = some (.int .i64 1) := (blk_cell HX1.out 0).trans rfl; have c21 : w1.cell? ⟨g1, 1, none⟩ = some (.string name) := (blk_cell HX1.out 1).trans rfl; have c23 : w1.cell? ⟨g1, 3, none⟩ = some (.string n) := (blk_cell HX1.out 3).trans rfl; have c24 : w1.cell? ⟨g1, 4, none⟩ = some (.slice A4 l.length c4) := (blk_cell HX1.out 4).trans rfl; have c25 : w1.cell? ⟨g1, 5, none⟩ = some (.slice A5 vs.length c5) := (blk_cell HX1.out 5).trans rfl; have c26 : w1.cell? ⟨g1, 6, none⟩ = some (.slice A6 ps.length c6) := (blk_cell HX1.out 6).trans rfl)
    refine (parse_calls n w1 hn).mono ?_
    rintro e w' ⟨A, c, x, rfl, hx, hb⟩
    obtain ⟨q, hq2⟩ : ∃ q, q = (parseS n).isSome := ⟨_, rfl⟩
    rw [← hq2]
    have HX := Aside0.mk hx
    have HQ := Aside0.mk hq2
    have HB := Aside0.mk hb
    have HB1 := Aside0.mk hb1
    clear hx hq2 hb hb1
    unfold numV
    cases q
    · go_wp2
      go_ret
      exact ⟨by rw [HF.out]; rfl, below_step HB1.out (HB.out.alloc (by have := HB.out.size; omega) _)⟩
    · go_wp2
      go_ret
      exact ⟨by rw [HF.out]; rfl, below_step HB1.out (HB.out.alloc (by have := HB.out.size; omega) _)⟩
  | true =>
    have HF := Aside0.mk (show shapeS ⟨1, name, sort, n, l, vs, ps⟩ = (parseS n).isSome from by unfold shapeS; simp [hq])
    go_enter Try.func30, Try.ntmps30
    go_wp2_with ((with_reducible refine gate_dst (N := 1) rfl ?_); refine box_event rfl (N := 1) rfl (cs := #[.int .i64 1, .string name, .int .i64 sort, .string n, .slice A4 l.length c4, .slice A5 vs.length c5, .slice A6 ps.length c6]) (t := 40) ?hr ?_; (case hr => first | (go_simp; done) | (go_simp; rfl)); intro g1 hg1 w1 hbox1 hb1; have HG1 := Aside0.mk hg1; have HX1 := Aside0.mk hbox1; clear hg1 hbox1; have c20 : w1.cell? ⟨g1, 0, none⟩ = some (.int .i64 1) := (blk_cell HX1.out 0).trans rfl; have c21 : w1.cell? ⟨g1, 1, none⟩ = some (.string name) := (blk_cell HX1.out 1).trans rfl; have c23 : w1.cell? ⟨g1, 3, none⟩ = some (.string n) := (blk_cell HX1.out 3).trans rfl; have c24 : w1.cell? ⟨g1, 4, none⟩ = some (.slice A4 l.length c4) := (blk_cell HX1.out 4).trans rfl; have c25 : w1.cell? ⟨g1, 5, none⟩ = some (.slice A5 vs.length c5) := (blk_cell HX1.out 5).trans rfl; have c26 : w1.cell? ⟨g1, 6, none⟩ = some (.slice A6 ps.length c6) := (blk_cell HX1.out 6).trans rfl)
    refine (parse_calls n w1 hn).mono ?_
    rintro e w' ⟨A, c, x, rfl, hx, hb⟩
    obtain ⟨q, hq2⟩ : ∃ q, q = (parseS n).isSome := ⟨_, rfl⟩
    rw [← hq2]
    have HX := Aside0.mk hx
    have HQ := Aside0.mk hq2
    have HB := Aside0.mk hb
    have HB1 := Aside0.mk hb1
    clear hx hq2 hb hb1
    unfold numV
    cases q
    · go_wp2
      go_ret
      exact ⟨by rw [HF.out, ← HQ.out]; rfl, below_step HB1.out (HB.out.alloc (by have := HB.out.size; omega) _)⟩
    · go_wp2
      go_ret
      exact ⟨by rw [HF.out, ← HQ.out]; rfl, below_step HB1.out (HB.out.alloc (by have := HB.out.size; omega) _)⟩
set_option maxHeartbeats 4000000 in
set_option maxRecDepth 100000 in
theorem shape_o15 (name : ByteArray) (sort : Int) (n : ByteArray) (l : List Tm) (vs : List Bd) (ps : List Tm) (w : World) (A4 : Option Addr) (c4 : Nat) (A5 : Option Addr) (c5 : Nat) (A6 : Option Addr) (c6 : Nat) (l4 : l.length ≤ c4) (l5 : vs.length ≤ c5) (l6 : ps.length ≤ c6) (hC : kTm.C w A4 l.length l) :
    Calls Try.prog 30 #[.agg #[.int .i64 15, .string name, .int .i64 sort, .string n, .slice A4 l.length c4, .slice A5 vs.length c5, .slice A6 ps.length c6]] w (Gives w (.bool (shapeS ⟨15, name, sort, n, l, vs, ps⟩))) := by
  cases hq : ((l.length : Int) == 2) with
  | false =>
    have HF := Aside0.mk (show shapeS ⟨15, name, sort, n, l, vs, ps⟩ = false from by unfold shapeS; simp [hq])
    clear hC
    go_enter Try.func30, Try.ntmps30
    go_wp2_with ((with_reducible refine gate_dst (N := 1) rfl ?_); refine box_event rfl (N := 1) rfl (cs := #[.int .i64 15, .string name, .int .i64 sort, .string n, .slice A4 l.length c4, .slice A5 vs.length c5, .slice A6 ps.length c6]) (t := 40) ?hr ?_; (case hr => first | (go_simp; done) | (go_simp; rfl)); intro g1 hg1 w1 hbox1 hb1; have HG1 := Aside0.mk hg1; have HX1 := Aside0.mk hbox1; clear hg1 hbox1; have c20 : w1.cell? ⟨g1, 0, none⟩ = some (.int .i64 15) := (blk_cell HX1.out 0).trans rfl; have c21 : w1.cell? ⟨g1, 1, none⟩ = some (.string name) := (blk_cell HX1.out 1).trans rfl; have c23 : w1.cell? ⟨g1, 3, none⟩ = some (.string n) := (blk_cell HX1.out 3).trans rfl; have c24 : w1.cell? ⟨g1, 4, none⟩ = some (.slice A4 l.length c4) := (blk_cell HX1.out 4).trans rfl; have c25 : w1.cell? ⟨g1, 5, none⟩ = some (.slice A5 vs.length c5) := (blk_cell HX1.out 5).trans rfl; have c26 : w1.cell? ⟨g1, 6, none⟩ = some (.slice A6 ps.length c6) := (blk_cell HX1.out 6).trans rfl)
    go_ret
    exact ⟨by rw [HF.out]; rfl, hb1⟩
  | true =>
    have hl2 : l.length = 2 := by have := eq_of_beq hq; omega
    obtain ⟨ad, B4, d4, B5, d5, B6, d6, e, hx0, _⟩ := at_TTm hC (0 : Int) (by omega) (by omega)
    have HF := Aside0.mk (show shapeS ⟨15, name, sort, n, l, vs, ps⟩ = ((rd_TTm l 0).f0 == 1) from by
      unfold shapeS
      rw [show ((rd_TTm l 0)) = l.getD 0 zTm from rfl]
      simp [hq])
    subst e
    replace hx0 : w.cell? ad = some (.int .i64 (rd_TTm l 0).f0) := hx0
    obtain ⟨o, ho⟩ : ∃ o, o = (rd_TTm l 0).f0 := ⟨_, rfl⟩
    have HO := Aside0.mk ho
    rw [← ho] at hx0
    have hc2 : 2 ≤ c4 := by omega
    clear hC ho hq
    rw [hl2]
    clear hl2 l4
    go_enter Try.func30, Try.ntmps30
    go_wp2_with ((with_reducible refine gate_dst (N := 1) rfl ?_); refine box_event rfl (N := 1) rfl (cs := #[.int .i64 15, .string name, .int .i64 sort, .string n, Value.slice (some ad) 2 c4, .slice A5 vs.length c5, .slice A6 ps.length c6]) (t := 40) ?hr ?_; (case hr => first | (go_simp; done) | (go_simp; rfl)); intro g1 hg1 w1 hbox1 hb1; have HG1 := Aside0.mk hg1; have HX1 := Aside0.mk hbox1; clear hg1 hbox1; have c20 : w1.cell? ⟨g1, 0, none⟩ = some (.int .i64 15) := (blk_cell HX1.out 0).trans rfl; have c21 : w1.cell? ⟨g1, 1, none⟩ = some (.string name) := (blk_cell HX1.out 1).trans rfl; have c23 : w1.cell? ⟨g1, 3, none⟩ = some (.string n) := (blk_cell HX1.out 3).trans rfl; have c24 : w1.cell? ⟨g1, 4, none⟩ = some (.slice (some ad) 2 c4) := (blk_cell HX1.out 4).trans rfl; have c25 : w1.cell? ⟨g1, 5, none⟩ = some (.slice A5 vs.length c5) := (blk_cell HX1.out 5).trans rfl; have c26 : w1.cell? ⟨g1, 6, none⟩ = some (.slice A6 ps.length c6) := (blk_cell HX1.out 6).trans rfl; replace hx0 := (hb1.cell (World.block_lt_of_cell? w _ hx0)).trans hx0)
    go_ret
    exact ⟨by rw [HF.out, ← HO.out]; rfl, hb1⟩
set_option maxHeartbeats 4000000 in
set_option maxRecDepth 100000 in
theorem shape_o19 (name : ByteArray) (sort : Int) (n : ByteArray) (l : List Tm) (vs : List Bd) (ps : List Tm) (w : World) (A4 : Option Addr) (c4 : Nat) (A5 : Option Addr) (c5 : Nat) (A6 : Option Addr) (c6 : Nat) (l4 : l.length ≤ c4) (l5 : vs.length ≤ c5) (l6 : ps.length ≤ c6) (hC : kBd.C w A5 vs.length vs) (hn : ∀ x ∈ vs, x.f0.size ≤ 9223372036854775807) :
    Calls Try.prog 30 #[.agg #[.int .i64 19, .string name, .int .i64 sort, .string n, .slice A4 l.length c4, .slice A5 vs.length c5, .slice A6 ps.length c6]] w (Gives w (.bool (shapeS ⟨19, name, sort, n, l, vs, ps⟩))) := by
  cases hq : ((l.length : Int) == 1) with
  | false =>
    have HF := Aside0.mk (show shapeS ⟨19, name, sort, n, l, vs, ps⟩ = false from by unfold shapeS; simp [hq])
    have HC := Aside0.mk hC
    have HN := Aside0.mk hn
    clear hC hn
    go_enter Try.func30, Try.ntmps30
    go_wp2_with ((with_reducible refine gate_dst (N := 1) rfl ?_); refine box_event rfl (N := 1) rfl (cs := #[.int .i64 19, .string name, .int .i64 sort, .string n, .slice A4 l.length c4, .slice A5 vs.length c5, .slice A6 ps.length c6]) (t := 40) ?hr ?_; (case hr => first | (go_simp; done) | (go_simp; rfl)); intro g1 hg1 w1 hbox1 hb1; have HG1 := Aside0.mk hg1; have HX1 := Aside0.mk hbox1; clear hg1 hbox1; have c20 : w1.cell? ⟨g1, 0, none⟩ = some (.int .i64 19) := (blk_cell HX1.out 0).trans rfl; have c21 : w1.cell? ⟨g1, 1, none⟩ = some (.string name) := (blk_cell HX1.out 1).trans rfl; have c23 : w1.cell? ⟨g1, 3, none⟩ = some (.string n) := (blk_cell HX1.out 3).trans rfl; have c24 : w1.cell? ⟨g1, 4, none⟩ = some (.slice A4 l.length c4) := (blk_cell HX1.out 4).trans rfl; have c25 : w1.cell? ⟨g1, 5, none⟩ = some (.slice A5 vs.length c5) := (blk_cell HX1.out 5).trans rfl; have c26 : w1.cell? ⟨g1, 6, none⟩ = some (.slice A6 ps.length c6) := (blk_cell HX1.out 6).trans rfl)
    go_ret
    exact ⟨by rw [HF.out]; rfl, hb1⟩
  | true =>
    have HF := Aside0.mk (show shapeS ⟨19, name, sort, n, l, vs, ps⟩ = (bindsS vs && decide (0 < ps.length)) from by unfold shapeS; simp [hq])
    have HC := Aside0.mk hC
    have HN := Aside0.mk hn
    clear hC hn
    go_enter Try.func30, Try.ntmps30
    go_wp2_with ((with_reducible refine gate_dst (N := 1) rfl ?_); refine box_event rfl (N := 1) rfl (cs := #[.int .i64 19, .string name, .int .i64 sort, .string n, .slice A4 l.length c4, .slice A5 vs.length c5, .slice A6 ps.length c6]) (t := 40) ?hr ?_; (case hr => first | (go_simp; done) | (go_simp; rfl)); intro g1 hg1 w1 hbox1 hb1; have HG1 := Aside0.mk hg1; have HX1 := Aside0.mk hbox1; clear hg1 hbox1; have c20 : w1.cell? ⟨g1, 0, none⟩ = some (.int .i64 19) := (blk_cell HX1.out 0).trans rfl; have c21 : w1.cell? ⟨g1, 1, none⟩ = some (.string name) := (blk_cell HX1.out 1).trans rfl; have c23 : w1.cell? ⟨g1, 3, none⟩ = some (.string n) := (blk_cell HX1.out 3).trans rfl; have c24 : w1.cell? ⟨g1, 4, none⟩ = some (.slice A4 l.length c4) := (blk_cell HX1.out 4).trans rfl; have c25 : w1.cell? ⟨g1, 5, none⟩ = some (.slice A5 vs.length c5) := (blk_cell HX1.out 5).trans rfl; have c26 : w1.cell? ⟨g1, 6, none⟩ = some (.slice A6 ps.length c6) := (blk_cell HX1.out 6).trans rfl)
    refine (binds_calls vs A5 c5 w1 (Kd.C_below HC.out hb1) l5 HN.out).mono ?_
    rintro e w' ⟨rfl, hb⟩
    obtain ⟨q, hq2⟩ : ∃ q, q = bindsS vs := ⟨_, rfl⟩
    rw [← hq2]
    have HQ := Aside0.mk hq2
    have HB := Aside0.mk hb
    have HB1 := Aside0.mk hb1
    replace c26 := (hb.cell (World.block_lt_of_cell? _ _ c26)).trans c26
    clear hq2 hb hb1
    cases q
    · go_wp2
      go_ret
      exact ⟨by rw [HF.out, ← HQ.out]; rfl, below_step HB1.out HB.out⟩
    · go_wp2
      go_ret
      exact ⟨by rw [HF.out, ← HQ.out]; rfl, below_step HB1.out HB.out⟩
end Go.Proofs.Ytiokmnabkccpcaa.Kit
