/- Numbers as text: slices.Clone of digits. -/
import Derived.Test.YtiokmnabkccpcaaC0
import Derived.WalkSpells
set_option linter.unusedVariables false
set_option linter.unusedSimpArgs false
namespace Go.Proofs.Ytiokmnabkccpcaa.Kit
open Go.RowKit Go.Proofs.YtiokmnabkccpcaaW.PrintWords Go.Proofs.YtiokmnabkccpcaaW.PrintLast Go.Proofs.YtiokmnabkccpcaaW.PrintMore

theorem C_reads {w : World} {k : IntKind} {A : Option Addr} {xs : List Int} (h : (Kd.int k).C w A xs.length xs) : ReadsInt w k A xs.length xs := by
  refine ⟨rfl, h.2.1, fun hp => ?_⟩
  obtain ⟨ad, e, _⟩ := C_int_at h 0 hp
  refine ⟨ad, e, fun j hj => ?_⟩
  obtain ⟨ad', e', hc⟩ := C_int_at h j hj
  rw [e] at e'
  injection e' with e'
  subst e'
  exact hc
set_option maxHeartbeats 4000000 in
set_option maxRecDepth 100000 in
theorem clone_calls (w : World) (xs : List Int) (A : Option Addr) (c : Nat) (hp : 0 < xs.length) (hl : xs.length ≤ 1099511627776) (hC : (Kd.int .u32).C w A xs.length xs) :
    Calls Try.prog 89 #[.slice A xs.length c] w fun e w' => ∃ v, e = .returned v ∧ w'.ownsRow w.heap.size 102 1 v xs.length (nums .u32 xs) ∧ Below w.heap.size w w' := by
  obtain ⟨ad, e, _⟩ := C_int_at hC 0 hp
  subst e
  have HC := Aside0.mk hC
  have heq : ∀ W, (binOp .eql 73 (.slice (some ad) xs.length c) (.slice none 0 0)).run Try.prog W = .ok (.bool false) W := fun W => Lib.run_eql_slice_nil W 73 102 (some ad) _ _ _ _ Try.underlying73
  have HR := Aside0.mk (C_reads hC)
  clear hC
  go_enter Try.func89, Try.ntmps89
  have HB0 := Aside0.mk (show Below w.heap.size w (w.alloc (.cells #[] 102)) from (Below.refl _ _).alloc (Nat.le_refl _) _)
  have HO0 := Aside0.mk (show (w.alloc (.cells #[] 102)).ownsRow w.heap.size 102 1 (.slice (some ⟨w.heap.size, 0, none⟩) 0 0) ([] : List Int).length (nums .u32 []) from own_lit w w.heap.size 102 .u32 [] (Nat.le_refl _) (by simp))
  have HR0 := Aside0.mk (HR.out.below HB0.out)
  have HL0 := Aside0.mk (show (([] : List Int).length + xs.length) * 4 ≤ 140737488355328 from by simp; omega)
  have HS0 := Aside0.mk (show w.heap.size ≤ (w.alloc (.cells #[] 102)).heap.size from HB0.out.size)
  go_wp2_with ((with_reducible refine gate_dst (N := 7) rfl ?_); refine print_append_row (w0 := w) w.heap.size rfl _ _ 73 102 .u32 4 rfl Try.underlying73 info_u32 (by decide) _ [] xs (some ad) xs.length c rfl rfl HO0.out HR0.out HB0.out HS0.out HL0.out ?_; intro v1 w1 hown hb1 hg1 hat1; have HO1 := Aside0.mk hown; have HB1 := Aside0.mk hb1; clear hown hb1 hg1 hat1)
  go_ret
  exact ⟨_, rfl, HO1.out, HB1.out⟩
end Go.Proofs.Ytiokmnabkccpcaa.Kit
