/- ModelRows: for every rows of two small numbers, every two small numbers, the law returns true, and what it is given reads as it did. No condition. -/
import Derived.Test.YtiokmnabkccpcaaRows
import Derived.Test.YtiokmnabkccpcaaDE
import Derived.WalkKit
import Derived.ProofKit
import Derived.OpenShut
import Derived.ShutString
import Derived.ChangeOld
import Derived.Below
import Derived.SizedLaws
import Derived.Deep.Slices
set_option linter.unusedVariables false
set_option linter.unusedSimpArgs false
namespace Go.Proofs.Ytiokmnabkccpcaa.modelRows
open Go.ChangeShapes Go.WideShapes Go.ChangeAt Go.RowKit
open Go.Proofs.Ytiokmnabkccpcaa.Kit Go.Proofs.YtiokmnabkccpcaaW.PrintWords Go.Proofs.YtiokmnabkccpcaaW.PrintLast Go.Proofs.YtiokmnabkccpcaaW.PrintMore
theorem own : ownKnob Try.prog.godebug = none := by kernel_rfl
theorem laidOut : laidOutB Try.prog = true := by kernel_rfl
section
variable {H : Type} {enc : TypeId × Value → H} {w : World}
set_option maxRecDepth 100000 in
theorem pair_open {fuel : Nat} {c0 c1 : Value} {x : DataW H × List MemPlace} (h : DataW.trod enc Try.prog w 0 (fun _ => true) true fuel 29 [c0, c1] = some x) : ∃ r : Int × Int, c0 = .int .i8 r.1 ∧ c1 = .int .i8 r.2 ∧ in8 r.1 ∧ in8 r.2 := by
  obtain ⟨xs, m, _, _, _, hl, hx⟩ := DataW.trod_array Try.underlying29 h
  have h0 := hx 0 (by omega)
  have h1 := hx 1 (by omega)
  rw [show Try.prog.cellsOf 23 = 1 from by kernel_rfl] at h0 h1
  have e0 : xs[0]? = some xs[0] := List.getElem?_eq_getElem (by omega)
  have e1 : xs[1]? = some xs[1] := List.getElem?_eq_getElem (by omega)
  rw [e0] at h0
  rw [e1] at h1
  obtain ⟨a, ha, _, wa⟩ := DataW.trod_int Try.underlying23 h0
  obtain ⟨b, hb, _, wb⟩ := DataW.trod_int Try.underlying23 h1
  have ha' : c0 = .int .i8 a := by simpa using ha
  have hb' : c1 = .int .i8 b := by simpa using hb
  exact ⟨(a, b), ha', hb', bounds_i8 wa, bounds_i8 wb⟩
set_option maxRecDepth 100000 in
theorem rows_open {fuel : Nat} {A : Option Addr} {len cap : Nat} {x : DataW H × List MemPlace} (h : DataW.trod enc Try.prog w 0 (fun _ => true) true fuel 22 [.slice A len cap] = some x) :
    ∃ rows : List (Int × Int), rows.length = len ∧ (∀ r ∈ rows, in8 r.1 ∧ in8 r.2) ∧ kPr.C w A rows.length rows := by
  rcases Go.Deep.open_slice Try.underlying22 h with ⟨hcs, _⟩ | ⟨a, l, c, m, n, D, Pl, hcs, _, hl, hm, hmm, _, hx⟩
  · simp at hcs
    obtain ⟨rfl, rfl, rfl⟩ := hcs
    exact ⟨[], rfl, (fun r hr => by cases hr), Kd.C_nil _ _⟩
  · simp at hcs
    obtain ⟨rfl, rfl, rfl⟩ := hcs
    have hlm : len ≤ m := by rw [hmm]; simp; exact hl
    have each : ∀ i, i < len → ∃ r : Int × Int, w.cell? (a.add (i * 2)) = some (.int .i8 r.1) ∧ w.cell? (a.add (i * 2 + 1)) = some (.int .i8 r.2) ∧ in8 r.1 ∧ in8 r.2 := by
      intro i hi
      obtain ⟨cs', h1, h2⟩ := hx i (by omega)
      rw [show Try.prog.cellsOf 29 = 2 from by kernel_rfl] at h1
      obtain ⟨_, hlen, hcell⟩ := World.cells?_some h1
      match cs', hlen with
      | [v0, v1], _ =>
        obtain ⟨r, rfl, rfl, w0, w1⟩ := pair_open h2
        have e0 := hcell 0 (by omega)
        have e1 := hcell 1 (by omega)
        rw [add_add] at e0 e1
        exact ⟨r, by simpa using e0, by simpa using e1, w0, w1⟩
    obtain ⟨f, hf⟩ := Go.Deep.choose_lt each
    refine ⟨(List.range len).map f, by simp, fun r hr => ?_, by simp, by simp; unfold maxLen at hm; omega, fun _ => ⟨a, rfl, fun j p hj => ?_⟩⟩
    · obtain ⟨i, hi, rfl⟩ := List.mem_map.1 hr
      exact (hf i (List.mem_range.1 hi)).2.2
    · obtain ⟨hjl, hp⟩ := List.getElem?_eq_some_iff.1 hj
      have hjl' : j < len := by simpa using hjl
      have hp' : f j = p := by simpa using hp
      obtain ⟨h0, h1, _⟩ := hf j hjl'
      rw [hp'] at h0 h1
      refine ⟨[.int .i8 p.1, .int .i8 p.2], rfl, ⟨[.int .i8 p.1], [.int .i8 p.2], rfl, rfl, rfl⟩, fun i u hu => ?_⟩
      show w.cell? (a.add (j * 2 + i)) = some u
      rcases i with _ | _ | i
      · injection hu with hu; subst hu; exact h0
      · injection hu with hu; subst hu; exact h1
      · simp at hu
end
set_option maxRecDepth 100000 in
theorem lifted (os : Os) (started : os.Started) (H : Type) (enc : TypeId × Value → H) :
    ReturnsInHanded {} Try.checked os 3 .any (Rows.modelRowsSpec.pre6 enc Try.prog Try.f3 Rows.modelRowsRow.domain false) (Rows.modelRowsSpec.post enc Try.prog Try.f3 false true false false) := by
  refine returnsInHanded_of_change (C := Try.checked) own started (by kernel_rfl) Try.func3
    (ChangeSpec.witness6 (enc := enc) (C := Try.checked) false ⟨#[], #[.slice none 0 0, .int .i8 0, .int .i8 0], []⟩ 8 (by kernel_rfl) (by kernel_rfl) (by kernel_rfl) (by kernel_rfl)) ?_
  intro W base args ds gs before hval0 hW hcnd _
  have hval : ∀ (j : Nat) t v, Try.f3.params[j]? = some t → args[j]? = some v → Value.okWide Try.prog W .any base t v := hval0
  have hW' := hW
  obtain ⟨p, q, hA0, hV, rfl, hfz, hnd⟩ := hW
  have hA : DataW.TrodAll enc Try.prog W 0 (fun _ => true) true Try.f3.params.toList args.toList ds p := hA0
  rw [Try.params3] at hA hval
  obtain ⟨v0, vs0, d0, ds0, p0, q0, hargs, rfl, rfl, h0, r0⟩ := trodAll_cons hA
  obtain ⟨v1, vs1, d1, ds1, p1, q1, rfl, rfl, rfl, h1, r1⟩ := trodAll_cons r0
  obtain ⟨v2, vs2, d2, ds2, p2, q2, rfl, rfl, rfl, h2, r2⟩ := trodAll_cons r1
  obtain ⟨rfl, rfl, rfl⟩ := trodAll_nil r2
  obtain rfl : args = #[v0, v1, v2] := by cases args; simp_all
  obtain ⟨rfl, rfl⟩ := trodVars_none hV
  obtain ⟨A0, len0, cap0, rfl⟩ := okWide_slice Try.underlying22 (hval 0 22 v0 rfl rfl)
  have k0 := h0
  have lt0 : ∀ x ∈ p0, x.block < W.heap.size := by obtain ⟨m, hm⟩ := k0; exact DataW.trod_lt m _ _ _ hm
  obtain ⟨rows, rfl, hin, hC⟩ : ∃ rows : List (Int × Int), rows.length = len0 ∧ (∀ r ∈ rows, in8 r.1 ∧ in8 r.2) ∧ kPr.C W A0 rows.length rows := by
    obtain ⟨fuel, hf⟩ := h0
    exact rows_open hf
  obtain ⟨a1, rfl, rfl, rfl, w1⟩ := open_int Try.underlying23 (hval 1 23 v1 rfl rfl) h1
  obtain ⟨a2, rfl, rfl, rfl, w2⟩ := open_int Try.underlying23 (hval 2 23 v2 rfl rfl) h2
  clear hA0 hval0
  refine (rows_calls rows a1 a2 (bounds_i8 w1) (bounds_i8 w2) hin W A0 cap0 hC).mono fun e W' ⟨he, bel⟩ => ?_
  subst he
  exact ⟨_, rfl, _, _, _, [], _, [], hW', trodAll_mk1 (shut_bool Try.underlying4 _), (trodAll_cons_mk (Below.trod laidOut (by kernel_rfl) (of_decide_eq_true (by kernel_rfl)) k0 bel lt0) (trodAll_cons_mk (shut_int Try.underlying23 w1) (trodAll_cons_mk (shut_int Try.underlying23 w2) trodAll_mk0))), rfl, bel.frame _, fun h => by cases h⟩
theorem over : Rows.modelRowsRow.holds Try.pinned (OpenSpec.ofChange Rows.modelRowsSpec) :=
  OpenClaim.holds_of_wide 3 Try.f3 rfl rfl rfl rfl rfl rfl rfl ⟨rfl, rfl, rfl, rfl, rfl⟩ rfl rfl rfl rfl rfl (by kernel_rfl) Try.func3 (by kernel_rfl)
    (of_decide_eq_true (by kernel_rfl)) (by unfold Func.isWrapper; first | (rw [if_pos (by decide +kernel)]; kernel_rfl) | (rw [if_neg (by decide +kernel)]; exact ⟨rfl, rfl⟩))
    (fun os started H enc _ => lifted os started H enc)
end Go.Proofs.Ytiokmnabkccpcaa.modelRows
namespace Go.Proofs.Ytiokmnabkccpcaa
theorem modelRows_holds : Rows.ModelRowsSaid := modelRows.over
#print axioms modelRows_holds
end Go.Proofs.Ytiokmnabkccpcaa
