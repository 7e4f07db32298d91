/- Words of this claim: a region that draws its order, whose last operation waits for all others: what holds is asked only ahead of it. -/
import Derived.Test.YtiokmnabkccpcaaDC
set_option linter.unusedVariables false
set_option linter.unusedSimpArgs false
namespace Go.Proofs.Ytiokmnabkccpcaa.Kit
open Go.RowKit Go.Proofs.YtiokmnabkccpcaaW.PrintWords Go.Proofs.YtiokmnabkccpcaaW.PrintLast Go.Proofs.YtiokmnabkccpcaaW.PrintMore

section
variable {P : Program} {ops : Array Oper} {Q : Exit → Act → World → Prop} {md : Region.Mode} {S : World → Prop} {z : Nat}
/-- Every order from here on; S behind each operation but number z. -/
def UpTo (P : Program) (md : Region.Mode) (ops : Array Oper) (Q : Exit → Act → World → Prop) (S : World → Prop) (z : Nat) : Nat → Array Bool → Act → World → Prop
  | 0, l, a, w => Region.ready md ops l = [] ∧ Q .normal a w
  | n + 1, l, a, w => (Region.ready md ops l = [] → Q .normal a w) ∧ ∀ i ∈ Region.ready md ops l, wpOp P ops Q i (fun a' w' => (i ≠ z → S w') ∧ UpTo P md ops Q S z n (l.setIfInBounds i true) a' w') a w
theorem UpTo.any : ∀ (n : Nat) (l : Array Bool) (a : Act) (w : World), UpTo P md ops Q S z n l a w → wpAny P md ops Q n l a w
  | 0, _, _, _, h => h
  | n + 1, _, _, _, h => ⟨h.1, fun i hi => wpOp_mono (fun a' w' h' => UpTo.any n _ a' w' h'.2) (h.2 i hi)⟩
/-- Does number z wait for number i? -/
def waitsB (md : Region.Mode) (ops : Array Oper) (z i : Nat) : Bool := match ops[z]? with
  | some o => o.after.any (fun e => Region.binds md e && e.on == i)
  | none => false
theorem UpTo.take {i : Nat} {oi : Oper} {v : Value} (hi : ops[i]? = some oi) (hs : Region.noSelect ops = true) (hQ : ∀ c a w, Q (.panic c) (a.put oi.dst v) w → Q (.panic c) a w) (hzi : (i == z) = false) (hz : waitsB md ops z i = true) :
    ∀ (n : Nat) (l : Array Bool) (a : Act) (w : World), Region.free md ops l i = true → (Region.ready md ops l).contains i = true → YieldsIf P ops S oi v a → S w →
      UpTo P md ops Q S z n (l.setIfInBounds i true) (a.put oi.dst v) w → UpTo P md ops Q S z (n + 1) l a w := by
  have hne : i ≠ z := by simpa using hzi
  have hsel := Region.noSelect_spec hs
  -- number z can't come up while i hasn't
  have hwait : ∀ (l : Array Bool), i ∈ Region.ready md ops l → z ∉ Region.ready md ops l := by
    intro l h1 h2
    obtain ⟨hun, _⟩ := mem_ready.1 h1
    obtain ⟨_, oz, hoz, hall⟩ := mem_ready.1 h2
    unfold waitsB at hz
    rw [hoz] at hz
    obtain ⟨e, he, hb⟩ := Array.any_eq_true'.1 hz
    simp only [Bool.and_eq_true, beq_iff_eq] at hb
    have h3 := hall e he hb.1
    rw [hb.2] at h3
    rcases Nat.lt_or_ge i l.size with h' | h'
    · simp [h'] at hun h3; rw [hun] at h3; cases h3
    · simp [Array.getElem?_eq_none h'] at h3
  have main : ∀ (n : Nat) (l : Array Bool) (a : Act) (w : World),
      (∀ j oj, ops[j]? = some oj → j ≠ i → l.getD j true = false → (∀ e ∈ oj.after, Region.binds md e = true → e.on ≠ i) → oi.apart ops oj = true) → i ∈ Region.ready md ops l → YieldsIf P ops S oi v a → S w →
      UpTo P md ops Q S z n (l.setIfInBounds i true) (a.put oi.dst v) w → UpTo P md ops Q S z (n + 1) l a w := by
    intro n
    induction n with
    | zero =>
      intro l a w hf hr hy hS H
      refine ⟨fun h => (by rw [h] at hr; cases hr), fun j hj => ?_⟩
      by_cases hji : j = i
      · subst hji
        exact hy.wpOp hi hS ⟨fun _ => hS, H⟩
      · have h1 := ready_mono (i := i) hj hji
        rw [H.1] at h1
        cases h1
    | succ n ih =>
      intro l a w hf hr hy hS H
      refine ⟨fun h => (by rw [h] at hr; cases hr), fun j hj => ?_⟩
      by_cases hji : j = i
      · subst hji
        exact hy.wpOp hi hS ⟨fun _ => hS, H⟩
      · have hjz : j ≠ z := fun e => hwait l hr (e ▸ hj)
        obtain ⟨hun, oj, hoj, hall⟩ := mem_ready.1 hj
        have hno : ∀ e ∈ oj.after, Region.binds md e = true → e.on ≠ i := by
          intro e he hb heq
          have h3 := hall e he hb
          have h0 := (mem_ready.1 hr).1
          rw [heq] at h3
          rcases Nat.lt_or_ge i l.size with h' | h'
          · simp [h'] at h0 h3; rw [h0] at h3; cases h3
          · simp [Array.getElem?_eq_none h'] at h3
        have h2 := wpOp_putIf hoj (hf j oj hoj hji hun hno) (fun cs b => hsel i oi cs b hi) (fun cs b => hsel j oj cs b hoj) hQ hy (H.2 j (ready_mono hj hji))
        refine wpOp_mono (fun a' w' h3 => ⟨fun _ => h3.2.1 hjz, ih (l.setIfInBounds j true) a' w' (fun k ok hk hki hku hkn => ?_) (ready_mono hr (Ne.symm hji)) h3.1 (h3.2.1 hjz) ?_⟩) h2
        · refine hf k ok hk hki ?_ hkn
          by_cases hjk : j = k
          · subst hjk; exact hun
          · rwa [getD_set_ne true hjk] at hku
        · rw [Array.setIfInBounds_comm _ _ hji]
          exact h3.2.2
  intro n l a w hf hr hy hS H
  exact main n l a w (Region.free_spec hi hf) (by simpa using hr) hy hS H
theorem UpTo.one {n i : Nat} {l : Array Bool} {a : Act} {w : World} {o : Oper} (hr : Region.ready md ops l = [i]) (ho : ops[i]? = some o)
    (h : ∀ K' : Act → World → Prop, Shut (∀ a w, (i ≠ z → S w) → UpTo P md ops Q S z n (l.setIfInBounds i true) a w → K' a w) → if Region.wanted o (yielded ops a.tmps) = true then Oper.wp P o a w K' Q else K' (a.put o.dst undef) w) : UpTo P md ops Q S z (n + 1) l a w := by
  refine ⟨fun h0 => (by rw [hr] at h0; cases h0), fun j hj => ?_⟩
  rw [hr] at hj
  obtain rfl := List.mem_singleton.1 hj
  exact wpOp_step ho (fun K' hK => h K' (fun a w hS hW => hK a w ⟨hS, hW⟩))
theorem UpTo.two {n i i' : Nat} {l : Array Bool} {a : Act} {w : World} {o o' : Oper} (hr : Region.ready md ops l = [i, i']) (ho : ops[i]? = some o) (ho' : ops[i']? = some o')
    (h : ∀ K' : Act → World → Prop, Shut (∀ a w, (i ≠ z → S w) → UpTo P md ops Q S z n (l.setIfInBounds i true) a w → K' a w) → if Region.wanted o (yielded ops a.tmps) = true then Oper.wp P o a w K' Q else K' (a.put o.dst undef) w)
    (h' : ∀ K' : Act → World → Prop, Shut (∀ a w, (i' ≠ z → S w) → UpTo P md ops Q S z n (l.setIfInBounds i' true) a w → K' a w) → if Region.wanted o' (yielded ops a.tmps) = true then Oper.wp P o' a w K' Q else K' (a.put o'.dst undef) w) : UpTo P md ops Q S z (n + 1) l a w := by
  refine ⟨fun h0 => (by rw [hr] at h0; cases h0), fun j hj => ?_⟩
  rw [hr] at hj
  rcases List.mem_cons.1 hj with e | hj
  · subst e
    exact wpOp_step ho (fun K' hK => h K' (fun a w hS hW => hK a w ⟨hS, hW⟩))
  · obtain rfl := List.mem_singleton.1 hj
    exact wpOp_step ho' (fun K' hK => h' K' (fun a w hS hW => hK a w ⟨hS, hW⟩))
theorem UpTo.done {l : Array Bool} {a : Act} {w : World} (hr : Region.ready md ops l = []) (h : Q .normal a w) : ∀ n, UpTo P md ops Q S z n l a w
  | 0 => ⟨hr, h⟩
  | _ + 1 => ⟨fun _ => h, by rw [hr]; simp⟩
theorem wp_region_upTo {id : Nat} {a : Act} {w : World} (S : World → Prop) (z : Nat) (hm : P.follows .mixedOrders = true) (hS : S w.drew)
    (h : S w.drew → UpTo P .any ops Q S z ops.size (Array.replicate ops.size false) a w.drew) : (Code.region id ops true).wp P Q a w :=
  wp_region_any hm (UpTo.any _ _ _ _ (h hS))
end
end Go.Proofs.Ytiokmnabkccpcaa.Kit
