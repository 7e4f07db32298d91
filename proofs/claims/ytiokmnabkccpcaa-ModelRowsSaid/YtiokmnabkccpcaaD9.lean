/- The model: a function of one number, a comparison of two such, what is always true: what they are worth, walked. -/
import Derived.Test.YtiokmnabkccpcaaD8
set_option linter.unusedVariables false
set_option linter.unusedSimpArgs false
namespace Go.Proofs.Ytiokmnabkccpcaa.Kit
open Go.RowKit Go.Proofs.YtiokmnabkccpcaaW.PrintWords Go.Proofs.YtiokmnabkccpcaaW.PrintLast Go.Proofs.YtiokmnabkccpcaaW.PrintMore

section
variable {P : Program} {ops : Array Oper} {rest : List Oper} {o : Oper} {a : Act} {Q : Exit → Act → World → Prop} {W : World}
/-- A literal '[]T{..}': its block by a letter. -/
theorem lit_event (hgd : o.guard = none) {N : Tmp} (_hd : o.dst = some N) {cs : Array Value} {t : TypeId} {n : Nat} (hrun : (execOp a.eval o).run P W = .ok (.value (.slice (some ⟨W.heap.size, 0, none⟩) n n)) (W.alloc (.cells cs t)))
    (h : ∀ g w1, g = W.heap.size → w1.heap[g]? = some (.cells cs t (0, 0)) → Below W.heap.size W w1 → wpList P ops Q rest (a.put o.dst (.slice (some ⟨g, 0, none⟩) n n)) w1) : wpList P ops Q (o :: rest) a W :=
  Kd.event_run hgd hrun (h _ _ rfl (blk_new _ _) (below_alloc (Below.refl _ _) _))
end
theorem lit_C1 {α : Type} {d : Kd α} {w : World} {g : Nat} {cs : Array Value} {t : TypeId} (hg : w.heap[g]? = some (.cells cs t (0, 0))) (x : α) (h : d.K w x cs.toList) : d.C w (some ⟨g, 0, none⟩) 1 [x] := by
  refine ⟨rfl, by omega, fun _ => ⟨_, rfl, fun j p hj => ?_⟩⟩
  rcases j with _ | j
  · injection hj with hj
    subst hj
    refine ⟨cs.toList, d.K_len h, h, fun i u hu => ?_⟩
    have := blk_cell hg i
    rw [show (⟨g, 0, none⟩ : Addr).add (0 * d.sz + i) = ⟨g, i, none⟩ from by simp [Addr.add] <;> (intros; omega)]
    rw [this]
    simpa using hu
  · simp at hj
theorem lit_C2 {α : Type} {d : Kd α} {w : World} {g : Nat} {cs : Array Value} {t : TypeId} (hg : w.heap[g]? = some (.cells cs t (0, 0))) (x y : α) (l r : List Value) (e : cs.toList = l ++ r) (h : d.K w x l) (h' : d.K w y r) : d.C w (some ⟨g, 0, none⟩) 2 [x, y] := by
  refine ⟨rfl, by omega, fun _ => ⟨_, rfl, fun j p hj => ?_⟩⟩
  have hl := d.K_len h
  rcases j with _ | _ | j
  · injection hj with hj
    subst hj
    refine ⟨l, hl, h, fun i u hu => ?_⟩
    have := blk_cell hg i
    rw [show (⟨g, 0, none⟩ : Addr).add (0 * d.sz + i) = ⟨g, i, none⟩ from by simp [Addr.add] <;> (intros; omega)]
    rw [this, ← Array.getElem?_toList, e, List.getElem?_append_left]
    · exact hu
    · exact (List.getElem?_eq_some_iff.1 hu).1
  · injection hj with hj
    subst hj
    refine ⟨r, d.K_len h', h', fun i u hu => ?_⟩
    have := blk_cell hg (d.sz + i)
    rw [show (⟨g, 0, none⟩ : Addr).add ((0 + 1) * d.sz + i) = ⟨g, d.sz + i, none⟩ from by simp [Addr.add] <;> (intros; omega)]
    rw [this, ← Array.getElem?_toList, e, List.getElem?_append_right (by omega), hl]
    simpa using hu
  · simp at hj

def fS : ByteArray := ⟨#[102]⟩
def eS : ByteArray := ⟨#[]⟩
def numT (s : ByteArray) : Tm := ⟨1, eS, 0, s, [], [], []⟩
def apT (s : ByteArray) : Tm := ⟨17, fS, 0, eS, [numT s], [], []⟩
def ltT (a b : ByteArray) : Tm := ⟨11, eS, 0, eS, [apT a, apT b], [], []⟩
def truT : Tm := ⟨2, eS, 0, eS, [], [], []⟩
def sigF : List Sg := [⟨fS, [1], 1⟩]
/-- What f of a number is. -/
def fAt (tb : List Tb) (s : ByteArray) : Option Int :=
  if idxOf (fun x : Tb => x.f0.toList == fS.toList) tb < 0 then none
  else parseS (rowS (rd_TTb tb (idxOf (fun x => x.f0.toList == fS.toList) tb)).f1 [decS ((parseS s).getD 0)] (rd_TTb tb (idxOf (fun x => x.f0.toList == fS.toList) tb)).f2)
theorem sigF_idx : idxOf (fun f : Sg => f.f0.toList == fS.toList) sigF = 0 := idxOf_hit (fun f : Sg => f.f0.toList == fS.toList) sigF ⟨fS, [1], 1⟩ 0 (by decide) (by show (fS.toList == fS.toList) = true; simp) (fun j hj => absurd hj (Nat.not_lt_zero _))
theorem valT_num (sig : List Sg) (tb : List Tb) (s : ByteArray) : valT sig tb (numT s) = some (.num ((parseS s).getD 0)) := by
  unfold numT
  rw [valT, if_pos rfl]
theorem valT_ap (tb : List Tb) (s : ByteArray) : valT sigF tb (apT s) = (fAt tb s).map .num := by
  unfold apT
  rw [valT, if_neg (by decide), if_pos rfl]
  simp only [valL, valT_num]
  unfold appS fAt
  rw [sigF_idx]
  simp only [List.map, txtS]
  split
  · rfl
  · rfl
def smallT (tb : List Tb) : Prop := ∀ b ∈ tb, b.f2.size ≤ bulkM ∧ ∀ r ∈ b.f1, r.f1.size ≤ bulkM
/-- The world's block. -/
abbrev worldB (AS : Option Addr) (cS : Nat) (tb : List Tb) (AT : Option Addr) (cT : Nat) (mo objs : Int) : Obj := .cells #[.slice AS sigF.length cS, .slice AT tb.length cT, .int .i64 mo, .int .i64 objs, .slice none 0 0, .slice none 0 0] 56 (0, 0)
theorem value_num (s : ByteArray) (hs : s.size ≤ bulkM) (tb : List Tb) (W : World) (cs : List Value) (hK : kTm.K W (numT s) cs) (g : Nat) :
    Calls Try.prog 12 #[.pointer (some ⟨g, 0, none⟩), .agg cs.toArray] W (GivesVl W (valT sigF tb (numT s))) := by
  rw [valT_num]
  obtain ⟨A4, c4, A5, c5, A6, c6, rfl, _, _, _, _, _, _⟩ := kTm_open hK
  exact value_o1 eS 0 s [] [] [] W g A4 c4 A5 c5 A6 c6 hs
theorem value_ap (s : ByteArray) (hs : s.size ≤ bulkM) (tb : List Tb) (htb : smallT tb) (W : World) (cs : List Value) (hK : kTm.K W (apT s) cs) (g : Nat) (AS AT : Option Addr) (cS cT : Nat) (mo objs : Int)
    (hg : W.heap[g]? = some (worldB AS cS tb AT cT mo objs)) (hlS : sigF.length ≤ cS) (hCS : kSg.C W AS sigF.length sigF) (hlT : tb.length ≤ cT) (hCT : kTb.C W AT tb.length tb) :
    Calls Try.prog 12 #[.pointer (some ⟨g, 0, none⟩), .agg cs.toArray] W (GivesVl W (valT sigF tb (apT s))) := by
  refine value_o17 (apT s) rfl W cs hK g _ fun W1 hb1 => ?_
  have hi : (rd_TSg sigF (idxOf (fun f => f.f0.toList == (apT s).f1.toList) sigF)).f2 = 1 := by
    rw [show (apT s).f1 = fS from rfl, sigF_idx]; rfl
  have h := app_calls (apT s) W1 cs (kTm.K_below hb1 hK) (by show 1 ≤ 1000000; decide) g sigF tb AS AT cS cT mo objs (blk_below hg hb1) hlS (Kd.C_below hCS hb1) hlT (Kd.C_below hCT hb1) (by rw [show (apT s).f1 = fS from rfl, sigF_idx]; decide) htb
    (fun s' W' hs' => by rw [hi]; exact read_int s' objs W' (Nat.le_trans hs' (by decide)))
    (fun x hx i => by
      rw [show (apT s).f4 = [numT s] from rfl] at hx
      rw [List.mem_singleton.1 hx, valT_num]
      intro e; injection e with e; cases e)
    (fun x hx W' cs' hb' hK' => by
      rw [show (apT s).f4 = [numT s] from rfl] at hx
      rw [List.mem_singleton.1 hx] at hK' ⊢
      exact value_num s hs tb W' cs' hK' g)
  have e : valT sigF tb (apT s) = (match valL sigF tb (apT s).f4 with | none => none | some vs => appS sigF tb (apT s).f1 (vs.map txtS)) := by
    show valT sigF tb ⟨17, fS, 0, eS, [numT s], [], []⟩ = _
    rw [valT, if_neg (by decide), if_pos rfl]
    rfl
  rw [e]
  exact h
theorem int_ap (s : ByteArray) (hs : s.size ≤ bulkM) (tb : List Tb) (htb : smallT tb) (W : World) (cs : List Value) (hK : kTm.K W (apT s) cs) (g : Nat) (AS AT : Option Addr) (cS cT : Nat) (mo objs : Int)
    (hg : W.heap[g]? = some (worldB AS cS tb AT cT mo objs)) (hlS : sigF.length ≤ cS) (hCS : kSg.C W AS sigF.length sigF) (hlT : tb.length ≤ cT) (hCT : kTb.C W AT tb.length tb) :
    Calls Try.prog 20 #[.pointer (some ⟨g, 0, none⟩), .agg cs.toArray] W (GivesInt W (fAt tb s)) :=
  int_calls (apT s) W cs hK g (fAt tb s) fun W1 cs1 hb1 hK1 => by
    rw [← valT_ap]
    exact value_ap s hs tb htb W1 cs1 hK1 g AS AT cS cT mo objs (blk_below hg hb1) hlS (Kd.C_below hCS hb1) hlT (Kd.C_below hCT hb1)
/-- What a comparison is: where the first can be told, the second can. -/
def ltAt (tb : List Tb) (a b : ByteArray) : Option Bool := match fAt tb a, fAt tb b with | some x, some y => some (decide (x < y)) | _, _ => none
theorem value_lt (a b : ByteArray) (ha : a.size ≤ bulkM) (hb : b.size ≤ bulkM) (tb : List Tb) (htb : smallT tb) (hab : fAt tb a = none ∨ (fAt tb b).isSome) (W : World) (cs : List Value) (hK : kTm.K W (ltT a b) cs) (g : Nat) (AS AT : Option Addr) (cS cT : Nat) (mo objs : Int)
    (hg : W.heap[g]? = some (worldB AS cS tb AT cT mo objs)) (hlS : sigF.length ≤ cS) (hCS : kSg.C W AS sigF.length sigF) (hlT : tb.length ≤ cT) (hCT : kTb.C W AT tb.length tb) :
    Calls Try.prog 12 #[.pointer (some ⟨g, 0, none⟩), .agg cs.toArray] W (GivesVl W ((ltAt tb a b).map .tru)) := by
  refine value_o11 (ltT a b) rfl W cs hK g _ fun W1 hb1 => ?_
  have hK1 := kTm.K_below hb1 hK
  have H0 : ∀ (W2 : World) (cs' : List Value), Below W1.heap.size W1 W2 → kTm.K W2 ((ltT a b).f4.getD 0 zTm) cs' → Calls Try.prog 20 #[.pointer (some ⟨g, 0, none⟩), .agg cs'.toArray] W2 (GivesInt W2 (fAt tb a)) := fun W2 cs' h2 hK2 =>
    int_ap a ha tb htb W2 cs' hK2 g AS AT cS cT mo objs (blk_below hg (below_step hb1 h2)) hlS (Kd.C_below hCS (below_step hb1 h2)) hlT (Kd.C_below hCT (below_step hb1 h2))
  have H1 : ∀ (W2 : World) (cs' : List Value), Below W1.heap.size W1 W2 → kTm.K W2 ((ltT a b).f4.getD 1 zTm) cs' → Calls Try.prog 20 #[.pointer (some ⟨g, 0, none⟩), .agg cs'.toArray] W2 (GivesInt W2 (fAt tb b)) := fun W2 cs' h2 hK2 =>
    int_ap b hb tb htb W2 cs' hK2 g AS AT cS cT mo objs (blk_below hg (below_step hb1 h2)) hlS (Kd.C_below hCS (below_step hb1 h2)) hlT (Kd.C_below hCT (below_step hb1 h2))
  unfold ltAt
  cases e0 : fAt tb a with
  | none =>
    rw [e0] at H0
    exact formula_lt_none (ltT a b) rfl W1 cs hK1 g rfl H0
  | some x =>
    cases e1 : fAt tb b with
    | none => rw [e0, e1] at hab; rcases hab with h | h <;> cases h
    | some y =>
      rw [e0] at H0
      rw [e1] at H1
      exact formula_lt_some (ltT a b) rfl W1 cs hK1 g rfl x y H0 H1
theorem value_true (W : World) (cs : List Value) (hK : kTm.K W truT cs) (g : Nat) :
    Calls Try.prog 12 #[.pointer (some ⟨g, 0, none⟩), .agg cs.toArray] W (GivesVl W (some (.tru true))) :=
  value_o2 truT rfl W cs hK g (some true) fun W1 hb1 => formula_true truT rfl W1 cs (kTm.K_below hb1 hK) g rfl

theorem check_num {s : ByteArray} (h : (parseS s).isSome = true) : checkT sigF [] (numT s) = .ok 1 := by
  rw [checkT_eq]
  have hs : shapeS (numT s) = true := by unfold shapeS numT; simp [h]
  rw [if_pos hs]
  rfl
theorem named_f : namedS fS = true := by unfold namedS; rw [Go.ByteArray.toList_eq]; rfl
theorem check_ap {s : ByteArray} (h : (parseS s).isSome = true) : checkT sigF [] (apT s) = .ok 1 := by
  rw [checkT_eq]
  have hs : shapeS (apT s) = true := by
    have h0 : shapeS (apT s) = namedS fS := rfl
    rw [h0, named_f]
  rw [if_pos hs]
  have ho : ofS sigF [] (apT s) = .ok (.fn ⟨fS, [1], 1⟩) := by
    unfold ofS apT
    simp only [sigF_idx]
    rfl
  rw [ho]
  simp only [bsOf]
  rw [show (apT s).f4 = [numT s] from rfl]
  simp only [checkL, check_num h]
  rfl
theorem checkS_ap {s : ByteArray} (h : (parseS s).isSome = true) : checkS sigF (apT s) = .ok 1 := by
  unfold checkS
  rw [show depthT (apT s) = 2 from rfl, show sizeT (apT s) = 2 from rfl, if_neg (by decide), if_neg (by decide)]
  exact check_ap h
theorem checkS_lt {a b : ByteArray} (ha : (parseS a).isSome = true) (hb : (parseS b).isSome = true) : checkS sigF (ltT a b) = .ok 2 := by
  unfold checkS
  rw [show depthT (ltT a b) = 3 from rfl, show sizeT (ltT a b) = 5 from rfl, if_neg (by decide), if_neg (by decide), checkT_eq]
  have hs : shapeS (ltT a b) = true := by unfold shapeS ltT; rfl
  rw [if_pos hs]
  have ho : ofS sigF [] (ltT a b) = .ok (.fix 1 2) := rfl
  rw [ho]
  simp only [bsOf]
  rw [show (ltT a b).f4 = [apT a, apT b] from rfl]
  simp only [checkL, check_ap ha, check_ap hb]
  rfl
theorem checkS_true : checkS sigF truT = .ok 2 := by rfl
theorem plain_num (s : ByteArray) : plainT (numT s) := by rw [plainT_eq]; exact ⟨by show ¬ (1 : Int) = 18; decide, by show ¬ (1 : Int) = 19; decide, trivial⟩
theorem plain_ap (s : ByteArray) : plainT (apT s) := by rw [plainT_eq]; exact ⟨by show ¬ (17 : Int) = 18; decide, by show ¬ (17 : Int) = 19; decide, plain_num s, trivial⟩
theorem plain_lt (a b : ByteArray) : plainT (ltT a b) := by rw [plainT_eq]; exact ⟨by show ¬ (11 : Int) = 18; decide, by show ¬ (11 : Int) = 19; decide, plain_ap a, plain_ap b, trivial⟩
theorem plain_true : plainT truT := by rw [plainT_eq]; exact ⟨by decide, by decide, trivial⟩
theorem fine_num {s : ByteArray} (h : s.size ≤ bulkM) : fineT (numT s) := by rw [fineT_eq]; exact ⟨by show 0 ≤ bulkM; decide, h, fun x hx => (by cases hx), trivial, trivial⟩
theorem fine_ap {s : ByteArray} (h : s.size ≤ bulkM) : fineT (apT s) := by rw [fineT_eq]; exact ⟨by show 1 ≤ bulkM; decide, by show 0 ≤ bulkM; decide, fun x hx => (by cases hx), ⟨fine_num h, trivial⟩, trivial⟩
theorem fine_lt {a b : ByteArray} (ha : a.size ≤ bulkM) (hb : b.size ≤ bulkM) : fineT (ltT a b) := by rw [fineT_eq]; exact ⟨by show 0 ≤ bulkM; decide, by show 0 ≤ bulkM; decide, fun x hx => (by cases hx), ⟨fine_ap ha, fine_ap hb, trivial⟩, trivial⟩
theorem fine_true : fineT truT := by rw [fineT_eq]; exact ⟨by show 0 ≤ bulkM; decide, by show 0 ≤ bulkM; decide, fun x hx => (by cases hx), trivial, trivial⟩
end Go.Proofs.Ytiokmnabkccpcaa.Kit
