/- Terms: what a check answers (the document's order of errors), and the checker's of at every shaped term that names no variable. -/
import Derived.Test.YtiokmnabkccpcaaBg
set_option linter.unusedVariables false
set_option linter.unusedSimpArgs false
namespace Go.Proofs.Ytiokmnabkccpcaa.Kit
open Go.RowKit Go.Proofs.YtiokmnabkccpcaaW.PrintWords Go.Proofs.YtiokmnabkccpcaaW.PrintLast Go.Proofs.YtiokmnabkccpcaaW.PrintMore

mutual
/-- The names of a pattern's variables, if it is made of functions, variables and sums. -/
def bareT : Tm → Option (List ByteArray)
  | ⟨op, name, _, _, l, _, _⟩ => if op = 18 then (bareL l).map (name :: ·) else if op = 1 ∨ op = 17 ∨ op = 12 ∨ op = 13 ∨ op = 14 ∨ op = 15 then bareL l else none
def bareL : List Tm → Option (List ByteArray)
  | [] => some []
  | x :: r => match bareT x with | none => none | some a => (bareL r).map (a ++ ·)
end
def bsOf (nd : Nd) (bs vs : List Bd) : List Bd := match nd with | .bind => bs ++ vs | _ => bs
mutual
/-- A term's sort, or its first error. -/
def checkT (sig : List Sg) (bs : List Bd) : Tm → Except Int Int
  | ⟨op, name, sort, n, l, vs, ps⟩ =>
    if shapeS ⟨op, name, sort, n, l, vs, ps⟩ then
      match ofS sig bs ⟨op, name, sort, n, l, vs, ps⟩ with
      | .error k => .error k
      | .ok nd => match checkL sig (bsOf nd bs vs) l with
        | .error k => .error k
        | .ok ss => match sortS ss nd with
          | .error k => .error k
          | .ok s => match nd with
            | .bind => match checkP sig (bs ++ vs) ps with
              | .error k => .error k
              | .ok found => if vs.all (fun b => found.any (fun x => x.toList == b.f0.toList)) then .ok s else .error 30
            | _ => .ok s
    else .error 30
def checkL (sig : List Sg) (bs : List Bd) : List Tm → Except Int (List Int)
  | [] => .ok []
  | x :: r => match checkT sig bs x with
    | .error k => .error k
    | .ok s => match checkL sig bs r with
      | .error k => .error k
      | .ok ss => .ok (s :: ss)
/-- A formula's patterns: the names they hold, or the first error. -/
def checkP (sig : List Sg) (bs : List Bd) : List Tm → Except Int (List ByteArray)
  | [] => .ok []
  | p :: r => if 200 < depthT p then .error 33 else if 50000 < sizeT p then .error 34 else
    if p.f0 = 17 then match bareT p with
      | none => .error 30
      | some a => match checkT sig bs p with
        | .error k => .error k
        | .ok _ => match checkP sig bs r with
          | .error k => .error k
          | .ok f => .ok (a ++ f)
    else .error 30
end
theorem checkT_eq (sig : List Sg) (bs : List Bd) (t : Tm) : checkT sig bs t =
    if shapeS t then
      match ofS sig bs t with
      | .error k => .error k
      | .ok nd => match checkL sig (bsOf nd bs t.f5) t.f4 with
        | .error k => .error k
        | .ok ss => match sortS ss nd with
          | .error k => .error k
          | .ok s => match nd with
            | .bind => match checkP sig (bs ++ t.f5) t.f6 with
              | .error k => .error k
              | .ok found => if t.f5.all (fun b => found.any (fun x => x.toList == b.f0.toList)) then .ok s else .error 30
            | _ => .ok s
    else .error 30 := by
  cases t
  rw [checkT]
theorem checkL_take (sig : List Sg) (bs : List Bd) (l : List Tm) (k : Nat) (hk : k < l.length) (ss : List Int) (h : checkL sig bs (l.take k) = .ok ss) :
    (∀ s, checkT sig bs (l.getD k zTm) = .ok s → checkL sig bs (l.take (k + 1)) = .ok (ss ++ [s])) ∧ (∀ e, checkT sig bs (l.getD k zTm) = .error e → checkL sig bs l = .error e) := by
  induction l generalizing k ss with
  | nil => simp at hk
  | cons x r ih =>
    cases k with
    | zero =>
      simp only [List.take_zero, checkL] at h
      injection h with h
      subst h
      constructor
      · intro s hs
        have hs' : checkT sig bs x = .ok s := hs
        simp [checkL, hs']
      · intro e he
        have he' : checkT sig bs x = .error e := he
        simp [checkL, he']
    | succ k =>
      simp only [List.take_succ_cons, checkL] at h
      cases hx : checkT sig bs x with
      | error e => rw [hx] at h; cases h
      | ok s0 =>
        rw [hx] at h
        cases hr : checkL sig bs (r.take k) with
        | error e => rw [hr] at h; cases h
        | ok s1 =>
          rw [hr] at h
          injection h with h
          subst h
          obtain ⟨a, b⟩ := ih k (by simpa using hk) s1 hr
          constructor
          · intro s hs
            have := a s hs
            simp only [List.take_succ_cons, checkL, hx, this, List.cons_append]
          · intro e he
            have := b e he
            simp only [checkL, hx, this]

mutual
/-- No variable, nor a formula for all. -/
def plainT : Tm → Prop
  | ⟨op, _, _, _, l, _, _⟩ => ¬ op = 18 ∧ ¬ op = 19 ∧ plainL l
def plainL : List Tm → Prop
  | [] => True
  | x :: r => plainT x ∧ plainL r
end
theorem plainT_eq (t : Tm) : plainT t ↔ ¬ t.f0 = 18 ∧ ¬ t.f0 = 19 ∧ plainL t.f4 := by cases t; rw [plainT]
theorem plainL_mem {l : List Tm} {x : Tm} (h : x ∈ l) (hf : plainL l) : plainT x := by
  induction l with
  | nil => cases h
  | cons y r ih =>
    rw [plainL] at hf
    cases h with
    | head => exact hf.1
    | tail _ h => exact ih h hf.2
theorem shape_op {t : Tm} (h : shapeS t = true) : 1 ≤ t.f0 ∧ t.f0 ≤ 19 := by
  refine Classical.byContradiction fun hn => ?_
  unfold shapeS at h
  rw [if_neg (by omega), if_neg (by omega), if_neg (by omega), if_neg (by omega), if_neg (by omega), if_neg (by omega), if_neg (by omega), if_neg (by omega), if_neg (by omega), if_neg (by omega)] at h
  cases h
theorem of_calls (t : Tm) (w : World) (cs : List Value) (hK : kTm.K w t cs) (hs : shapeS t = true) (hp : ¬ t.f0 = 18) (g : Nat) (sig : List Sg) (bs : List Bd)
    (AS : Option Addr) (cS : Nat) (hs0 : w.cell? ⟨g, 0, none⟩ = some (.slice AS sig.length cS)) (hlS : sig.length ≤ cS) (hCS : kSg.C w AS sig.length sig) :
    Calls Try.prog 31 #[.pointer (some ⟨g, 0, none⟩), .agg cs.toArray] w (GivesNd w (ofS sig bs t)) := by
  obtain ⟨A4, c4, A5, c5, A6, c6, rfl, l4, g4, l5, g5, l6, g6⟩ := kTm_open hK
  have ho := shape_op hs
  clear hK hs
  obtain ⟨op, name, sort, n, l, vs, ps⟩ := t
  replace ho : 1 ≤ op ∧ op ≤ 19 := ho
  have : op = 1 ∨ op = 2 ∨ op = 3 ∨ op = 4 ∨ op = 5 ∨ op = 6 ∨ op = 7 ∨ op = 8 ∨ op = 9 ∨ op = 10 ∨ op = 11 ∨ op = 12 ∨ op = 13 ∨ op = 14 ∨ op = 15 ∨ op = 16 ∨ op = 17 ∨ op = 18 ∨ op = 19 := by omega
  rcases this with h | h | h | h | h | h | h | h | h | h | h | h | h | h | h | h | h | h | h <;> subst h
  · exact of_o1 name sort n l vs ps w g A4 c4 A5 c5 A6 c6 l4 l5 l6 sig bs
  · exact of_o2 name sort n l vs ps w g A4 c4 A5 c5 A6 c6 l4 l5 l6 sig bs
  · exact of_o3 name sort n l vs ps w g A4 c4 A5 c5 A6 c6 l4 l5 l6 sig bs
  · exact of_o4 name sort n l vs ps w g A4 c4 A5 c5 A6 c6 l4 l5 l6 sig bs
  · exact of_o5 name sort n l vs ps w g A4 c4 A5 c5 A6 c6 l4 l5 l6 sig bs
  · exact of_o6 name sort n l vs ps w g A4 c4 A5 c5 A6 c6 l4 l5 l6 sig bs
  · exact of_o7 name sort n l vs ps w g A4 c4 A5 c5 A6 c6 l4 l5 l6 sig bs
  · exact of_o8 name sort n l vs ps w g A4 c4 A5 c5 A6 c6 l4 l5 l6 sig bs
  · exact of_o9 name sort n l vs ps w g A4 c4 A5 c5 A6 c6 l4 l5 l6 sig bs
  · exact of_o10 name sort n l vs ps w g A4 c4 A5 c5 A6 c6 l4 l5 l6 sig bs
  · exact of_o11 name sort n l vs ps w g A4 c4 A5 c5 A6 c6 l4 l5 l6 sig bs
  · exact of_o12 name sort n l vs ps w g A4 c4 A5 c5 A6 c6 l4 l5 l6 sig bs
  · exact of_o13 name sort n l vs ps w g A4 c4 A5 c5 A6 c6 l4 l5 l6 sig bs
  · exact of_o14 name sort n l vs ps w g A4 c4 A5 c5 A6 c6 l4 l5 l6 sig bs
  · exact of_o15 name sort n l vs ps w g A4 c4 A5 c5 A6 c6 l4 l5 l6 sig bs
  · exact of_o16 name sort n l vs ps w g A4 c4 A5 c5 A6 c6 l4 l5 l6 sig bs
  · exact of_o17 name sort n l vs ps w g A4 c4 A5 c5 A6 c6 l4 l5 l6 sig bs AS cS hs0 hlS hCS
  · exact absurd rfl hp
  · exact of_o19 name sort n l vs ps w g A4 c4 A5 c5 A6 c6 l4 l5 l6 sig bs
end Go.Proofs.Ytiokmnabkccpcaa.Kit
