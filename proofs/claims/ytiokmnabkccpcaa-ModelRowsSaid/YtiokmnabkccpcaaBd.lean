/- Terms: term.shape of every term. -/
import Derived.Test.YtiokmnabkccpcaaBc
set_option linter.unusedVariables false
set_option linter.unusedSimpArgs false
namespace Go.Proofs.Ytiokmnabkccpcaa.Kit
open Go.RowKit Go.Proofs.YtiokmnabkccpcaaW.PrintWords Go.Proofs.YtiokmnabkccpcaaW.PrintLast Go.Proofs.YtiokmnabkccpcaaW.PrintMore

set_option maxHeartbeats 4000000 in
set_option maxRecDepth 100000 in
theorem shape_other (op : Int) (name : ByteArray) (sort : Int) (n : ByteArray) (l : List Tm) (vs : List Bd) (ps : List Tm) (w : World) (A4 : Option Addr) (c4 : Nat) (A5 : Option Addr) (c5 : Nat) (A6 : Option Addr) (c6 : Nat) (l4 : l.length ≤ c4) (l5 : vs.length ≤ c5) (l6 : ps.length ≤ c6) (h : ∀ k : Int, 1 ≤ k → k ≤ 19 → ¬ op = k) :
    Calls Try.prog 30 #[.agg #[.int .i64 op, .string name, .int .i64 sort, .string n, .slice A4 l.length c4, .slice A5 vs.length c5, .slice A6 ps.length c6]] w (Gives w (.bool (shapeS ⟨op, name, sort, n, l, vs, ps⟩))) := by
  have hh : ∀ k : Int, 1 ≤ k → k ≤ 19 → (op == k) = false := fun k a b => by have := h k a b; simpa using this
  have HF := Aside0.mk (show shapeS ⟨op, name, sort, n, l, vs, ps⟩ = false from by
    unfold shapeS
    simp [h 1 (by decide) (by decide), h 2 (by decide) (by decide), h 3 (by decide) (by decide), h 4 (by decide) (by decide), h 5 (by decide) (by decide), h 6 (by decide) (by decide), h 7 (by decide) (by decide), h 8 (by decide) (by decide), h 9 (by decide) (by decide), h 10 (by decide) (by decide), h 11 (by decide) (by decide), h 12 (by decide) (by decide), h 13 (by decide) (by decide), h 14 (by decide) (by decide), h 15 (by decide) (by decide), h 16 (by decide) (by decide), h 17 (by decide) (by decide), h 18 (by decide) (by decide), h 19 (by decide) (by decide)])
  have e1 := hh 1 (by decide) (by decide)
  have e2 := hh 2 (by decide) (by decide)
  have e3 := hh 3 (by decide) (by decide)
  have e4 := hh 4 (by decide) (by decide)
  have e5 := hh 5 (by decide) (by decide)
  have e6 := hh 6 (by decide) (by decide)
  have e7 := hh 7 (by decide) (by decide)
  have e8 := hh 8 (by decide) (by decide)
  have e9 := hh 9 (by decide) (by decide)
  have e10 := hh 10 (by decide) (by decide)
  have e11 := hh 11 (by decide) (by decide)
  have e12 := hh 12 (by decide) (by decide)
  have e13 := hh 13 (by decide) (by decide)
  have e14 := hh 14 (by decide) (by decide)
  have e15 := hh 15 (by decide) (by decide)
  have e16 := hh 16 (by decide) (by decide)
  have e17 := hh 17 (by decide) (by decide)
  have e18 := hh 18 (by decide) (by decide)
  have e19 := hh 19 (by decide) (by decide)
  clear h hh
  go_enter Try.func30, Try.ntmps30
  go_wp2_with ((with_reducible refine gate_dst (N := 1) rfl ?_); refine box_event rfl (N := 1) rfl (cs := #[.int .i64 op, .string name, .int .i64 sort, .string n, .slice A4 l.length c4, .slice A5 vs.length c5, .slice A6 ps.length c6]) (t := 40) ?hr ?_; (case hr => first | (go_simp; done) | (go_simp; rfl)); intro g1 hg1 w1 hbox1 hb1; have HG1 := Aside0.mk hg1; have HX1 := Aside0.mk hbox1; clear hg1 hbox1; have c20 : w1.cell? ⟨g1, 0, none⟩ = some (.int .i64 op) := (blk_cell HX1.out 0).trans rfl; have c24 : w1.cell? ⟨g1, 4, none⟩ = some (.slice A4 l.length c4) := (blk_cell HX1.out 4).trans rfl)
  go_ret
  exact ⟨by rw [HF.out]; rfl, hb1⟩

/-- Texts are short: all that a term holds. -/
abbrev bulkM : Nat := 1048576
mutual
def fineT : Tm → Prop
  | ⟨_, name, _, n, l, vs, ps⟩ => name.size ≤ bulkM ∧ n.size ≤ bulkM ∧ (∀ x ∈ vs, x.f0.size ≤ bulkM) ∧ fineL l ∧ fineL ps
def fineL : List Tm → Prop
  | [] => True
  | x :: r => fineT x ∧ fineL r
end
theorem fineT_eq (t : Tm) : fineT t ↔ t.f1.size ≤ bulkM ∧ t.f3.size ≤ bulkM ∧ (∀ x ∈ t.f5, x.f0.size ≤ bulkM) ∧ fineL t.f4 ∧ fineL t.f6 := by cases t; rw [fineT]
theorem fineL_mem {l : List Tm} {x : Tm} (h : x ∈ l) (hf : fineL l) : fineT x := by
  induction l with
  | nil => cases h
  | cons y r ih =>
    rw [fineL] at hf
    cases h with
    | head => exact hf.1
    | tail _ h => exact ih h hf.2

theorem shape_calls (t : Tm) (w : World) (cs : List Value) (hK : kTm.K w t cs) (hf : fineT t) :
    Calls Try.prog 30 #[.agg cs.toArray] w (Gives w (.bool (shapeS t))) := by
  obtain ⟨A4, c4, A5, c5, A6, c6, rfl, l4, g4, l5, g5, l6, g6⟩ := kTm_open hK
  obtain ⟨f1, f3, f5, _, _⟩ := (fineT_eq t).1 hf
  clear hK hf
  obtain ⟨op, name, sort, n, l, vs, ps⟩ := t
  by_cases ho : 1 ≤ op ∧ op ≤ 19
  · have : op = 1 ∨ op = 2 ∨ op = 3 ∨ op = 4 ∨ op = 5 ∨ op = 6 ∨ op = 7 ∨ op = 8 ∨ op = 9 ∨ op = 10 ∨ op = 11 ∨ op = 12 ∨ op = 13 ∨ op = 14 ∨ op = 15 ∨ op = 16 ∨ op = 17 ∨ op = 18 ∨ op = 19 := by omega
    rcases this with h | h | h | h | h | h | h | h | h | h | h | h | h | h | h | h | h | h | h <;> subst h
    · exact shape_o1 name sort n l vs ps w A4 c4 A5 c5 A6 c6 l4 l5 l6 (Nat.le_trans f3 (by decide))
    · exact shape_o2 name sort n l vs ps w A4 c4 A5 c5 A6 c6 l4 l5 l6
    · exact shape_o3 name sort n l vs ps w A4 c4 A5 c5 A6 c6 l4 l5 l6
    · exact shape_o4 name sort n l vs ps w A4 c4 A5 c5 A6 c6 l4 l5 l6
    · exact shape_o5 name sort n l vs ps w A4 c4 A5 c5 A6 c6 l4 l5 l6
    · exact shape_o6 name sort n l vs ps w A4 c4 A5 c5 A6 c6 l4 l5 l6
    · exact shape_o7 name sort n l vs ps w A4 c4 A5 c5 A6 c6 l4 l5 l6
    · exact shape_o8 name sort n l vs ps w A4 c4 A5 c5 A6 c6 l4 l5 l6
    · exact shape_o9 name sort n l vs ps w A4 c4 A5 c5 A6 c6 l4 l5 l6
    · exact shape_o10 name sort n l vs ps w A4 c4 A5 c5 A6 c6 l4 l5 l6
    · exact shape_o11 name sort n l vs ps w A4 c4 A5 c5 A6 c6 l4 l5 l6
    · exact shape_o12 name sort n l vs ps w A4 c4 A5 c5 A6 c6 l4 l5 l6
    · exact shape_o13 name sort n l vs ps w A4 c4 A5 c5 A6 c6 l4 l5 l6
    · exact shape_o14 name sort n l vs ps w A4 c4 A5 c5 A6 c6 l4 l5 l6
    · exact shape_o15 name sort n l vs ps w A4 c4 A5 c5 A6 c6 l4 l5 l6 g4
    · exact shape_o16 name sort n l vs ps w A4 c4 A5 c5 A6 c6 l4 l5 l6
    · exact shape_o17 name sort n l vs ps w A4 c4 A5 c5 A6 c6 l4 l5 l6 (Nat.le_trans f1 (by decide))
    · exact shape_o18 name sort n l vs ps w A4 c4 A5 c5 A6 c6 l4 l5 l6 (Nat.le_trans f1 (by decide))
    · exact shape_o19 name sort n l vs ps w A4 c4 A5 c5 A6 c6 l4 l5 l6 g5 (fun x hx => Nat.le_trans (f5 x hx) (by decide))
  · exact shape_other op name sort n l vs ps w A4 c4 A5 c5 A6 c6 l4 l5 l6 (fun k a b e => ho ⟨by omega, by omega⟩)
end Go.Proofs.Ytiokmnabkccpcaa.Kit
