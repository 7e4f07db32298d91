/- Words of this claim: laws of the walk, and the library's searches by a predicate. -/
import Derived.Test.YtiokmnabkccpcaaB0
import Derived.Laws.Rows
import Derived.Laws.RangeAny
import Derived.Lib.OthersKept
set_option linter.unusedVariables false
set_option linter.unusedSimpArgs false
namespace Go.Proofs.Ytiokmnabkccpcaa.Kit
open Go.RowKit Go.Proofs.YtiokmnabkccpcaaW.PrintWords Go.Proofs.YtiokmnabkccpcaaW.PrintLast Go.Proofs.YtiokmnabkccpcaaW.PrintMore

section
variable {P : Program} {ops : Array Oper} {rest : List Oper} {o : Oper} {a : Act} {w : World} {Q : Exit → Act → World → Prop}
theorem run_loadVar_cells (w : World) (ad : Addr) (ty : TypeId) (cs : List Value) (d : TypeDesc) (hc : ∀ j v, cs[j]? = some v → w.cell? (ad.add j) = some v)
    (hu : P.underlying ty = some d) (hd : (match d with | .struct _ | .array _ _ => true | _ => false) = true) (hi : (P.info? ty).map (·.size) = some cs.length) :
    (loadVar ty ad).run P w = .ok (.agg cs.toArray) w := by
  have hl := run_loadCells_list (P := P) w ad cs hc
  cases hq : P.info? ty with
  | none => simp [hq] at hi
  | some i =>
    have hs : i.size = cs.length := by simpa [hq] using hi
    have hagg : (isAgg ty).run P w = .ok true w := by
      unfold isAgg
      rw [Sem.run_bind, run_underlying hu w]
      cases d <;> simp_all
    simp [loadVar, Sem.run_bind, hagg, sizeOf, typeInfo, hq, hs, hl]
/-- A load of a struct's cells, wherever they lie. -/
theorem wpList_load_cells (hgd : o.guard = none) (ty : TypeId) (x : Operand) (ho : o.op = .load ty x) (ad : Addr) (hx : a.eval x = .pointer (some ad)) (cs : List Value) (d : TypeDesc)
    (hu : P.underlying ty = some d) (hd : (match d with | .struct _ | .array _ _ => true | _ => false) = true) (hi : (P.info? ty).map (·.size) = some cs.length)
    (hc : ∀ j v, cs[j]? = some v → w.cell? (ad.add j) = some v) (h : wpList P ops Q rest (a.put o.dst (.agg cs.toArray)) w) : wpList P ops Q (o :: rest) a w := by
  refine wpList_plain hgd fun K hK => ?_
  unfold Oper.wp execOp
  simp only [ho, hx, Instr.loadAt, Instr.sureAddr, Sem.run_bind, Sem.run_pure, Result.andThen_ok, run_loadVar_cells w ad ty cs d hc hu hd hi]
  exact hK _ _ h
end


/-- One block has been written; all else lies as it lay. -/
structure Wrote (g : Nat) (W w1 : World) : Prop where
  size : w1.heap.size = W.heap.size
  other : ∀ k, k ≠ g → w1.heap[k]? = W.heap[k]?
  below : ∀ B a, B ≤ g → Below B a W → Below B a w1
theorem Wrote.blk {g : Nat} {W w1 : World} (h : Wrote g W w1) {k : Nat} {o : Obj} (hk : W.heap[k]? = some o) (hne : k ≠ g) : w1.heap[k]? = some o := (h.other k hne).trans hk
theorem Wrote.cell {g : Nat} {W w1 : World} (h : Wrote g W w1) {p : Addr} (hne : p.block ≠ g) : w1.cell? p = W.cell? p := World.cell?_of_block (h.other p.block hne)

section
variable {P : Program} {ops : Array Oper} {rest : List Oper} {o : Oper} {a : Act} {Q : Exit → Act → World → Prop} {W : World}
/-- 'range' over a string: the iterator by a letter. -/
theorem range_event (hgd : o.guard = none) (t : TypeId) (x : Operand) (ho : o.op = .range t x) (s : ByteArray) (hx : a.eval x = .string s) (hu : P.underlying t = some .string)
    (h : ∀ g w1, w1.heap[g]? = some (.stringIter s 0) → W.heap.size ≤ g → Below W.heap.size W w1 → wpList P ops Q rest (a.put o.dst (.pointer (some ⟨g, 0, none⟩))) w1) : wpList P ops Q (o :: rest) a W := by
  refine Kd.event_run hgd (w1 := W.iter s 0) (v := .pointer (some ⟨W.heap.size, 0, none⟩)) ?_ (h _ _ (World.iter_heap W s 0) (Nat.le_refl _) (below_alloc (Below.refl _ _) _))
  unfold execOp
  simp only [ho, hx]
  rw [Sem.run_bind, run_range_string W t s hu]
  rfl
theorem next_event (hgd : o.guard = none) (x : Operand) (ho : o.op = .next x true) (g : Nat) (hx : a.eval x = .pointer (some ⟨g, 0, none⟩)) (s : ByteArray) (pos : Nat) (hk : W.heap[g]? = some (.stringIter s pos)) (hp : pos < s.size)
    (h : ∀ w1, w1.heap[g]? = some (.stringIter s (pos + (Utf8.decode s pos).2)) → Wrote g W w1 → wpList P ops Q rest (a.put o.dst (.tuple #[.bool true, .int .i64 pos, .int .i32 (Utf8.decode s pos).1])) w1) : wpList P ops Q (o :: rest) a W := by
  refine Kd.event_run hgd (w1 := World.iterAt W g s (pos + (Utf8.decode s pos).2)) (v := .tuple #[.bool true, .int .i64 pos, .int .i32 (Utf8.decode s pos).1]) ?_ (h _ ?_ ⟨?_, ?_, ?_⟩)
  · unfold execOp
    simp only [ho, hx]
    rw [Sem.run_bind, Lib.run_next_any_at W g s pos _ hk hp]
    rfl
  · exact Lib.iterAt_heap W g s pos _ hk
  · exact Lib.iterAt_size W g s _
  · intro k hk
    exact Lib.iterAt_other W g k s _ hk
  · intro B a' hB hb
    exact Lib.below_iterAt hb hB s _
theorem next_end (hgd : o.guard = none) (x : Operand) (ho : o.op = .next x true) (g : Nat) (hx : a.eval x = .pointer (some ⟨g, 0, none⟩)) (s : ByteArray) (pos : Nat) (hk : W.heap[g]? = some (.stringIter s pos)) (hp : ¬ pos < s.size)
    (h : wpList P ops Q rest (a.put o.dst (.tuple #[.bool false])) W) : wpList P ops Q (o :: rest) a W := by
  refine Kd.event_run hgd (w1 := W) (v := .tuple #[.bool false]) ?_ h
  unfold execOp
  simp only [ho, hx]
  rw [Sem.run_bind, Lib.run_next_end_at W g s pos _ hk hp]
  rfl
end
theorem decode_low (s : ByteArray) (pos : Nat) (h : pos < s.size) (ha : bt s pos < 128) : ((Utf8.decode s pos).1 : Int) = bt s pos ∧ (Utf8.decode s pos).2 = 1 := by
  have hb : bt s pos = ((s[pos]'h).toNat : Int) := by simp [bt, h]
  rw [hb] at ha ⊢
  rw [decode_ascii s pos h (by omega)]
  exact ⟨rfl, rfl⟩
theorem decode_up (s : ByteArray) (pos : Nat) (h : pos < s.size) (ha : 128 ≤ bt s pos) : 128 ≤ ((Utf8.decode s pos).1 : Int) := by
  have hb : bt s pos = ((s[pos]'h).toNat : Int) := by simp [bt, h]
  rw [hb] at ha
  have := (decode_high s pos h (by omega)).1
  omega


theorem wrote_setRow {P : Program} (W : World) (g : Nat) (cs old : Array Value) (t : TypeId) (hg : W.heap[g]? = some (.cells old t (0, 0))) : (W.setRow g cs).heap[g]? = some (.cells cs t (0, 0)) ∧ Wrote g W (W.setRow g cs) := by
  have hlt : g < W.heap.size := blk_lt hg
  refine ⟨setRow_heap W g old cs t _ hg, ⟨by simp [World.setRow], fun k hk => ?_, fun B a hB hb => ?_⟩⟩
  · simp only [World.setRow, Array.getElem?_modify]
    rw [if_neg (Ne.symm hk)]
  · refine hb.trans ⟨rfl, rfl, rfl, by simp [World.setRow], fun k hk => ?_⟩
    simp only [World.setRow, Array.getElem?_modify]
    rw [if_neg (by omega)]
theorem wrote_setCell (W : World) (g i : Nat) (v : Value) (old : Array Value) (t : TypeId) (hg : W.heap[g]? = some (.cells old t (0, 0))) : (W.setCell ⟨g, i, none⟩ v).heap[g]? = some (.cells (old.setIfInBounds i v) t (0, 0)) ∧ Wrote g W (W.setCell ⟨g, i, none⟩ v) := by
  refine ⟨blk_set hg i v, ⟨by simp [World.setCell], fun k hk => Below.heap_setCell W ⟨g, i, none⟩ v k hk, fun B a hB hb => hb.setCell hB v⟩⟩
section
variable {P : Program} {ops : Array Oper} {rest : List Oper} {o : Oper} {a : Act} {Q : Exit → Act → World → Prop} {W : World}
/-- A struct's store into a block of the call's own. -/
theorem store_row_event (hgd : o.guard = none) (hN : o.dst = none) (ty : TypeId) (x y : Operand) (ho : o.op = .store ty x y)
    (g : Nat) (cells : Array Value) (hx : a.eval x = .pointer (some ⟨g, 0, none⟩)) (hy : a.eval y = .agg cells)
    (t : TypeId) (old : Array Value) (hg : W.heap[g]? = some (.cells old t (0, 0))) (hi : (P.info? ty).map (·.size) = some cells.size)
    (hold : old.size = cells.size) (h1 : cells.toList.all (·.oneCell') = true)
    (h : ∀ w1, w1.heap[g]? = some (.cells cells t (0, 0)) → Wrote g W w1 → wpList P ops Q rest a w1) : wpList P ops Q (o :: rest) a W := by
  refine wpList_store_row hgd ty x y ho g cells hx hy t old hg hi hold (by rw [← Array.all_toList]; exact h1) ?_
  rw [hN]
  exact h _ (wrote_setRow (P := P) W g cells old t hg).1 (wrote_setRow (P := P) W g cells old t hg).2
/-- A store of one cell into a block of the call's own. -/
theorem store_cell_event (hgd : o.guard = none) (hN : o.dst = none) (g i : Nat) (v : Value) (t : TypeId) (old : Array Value) (hg : W.heap[g]? = some (.cells old t (0, 0)))
    (hrun : (execOp a.eval o).run P W = .ok .skip (W.setCell ⟨g, i, none⟩ v))
    (h : ∀ w1, w1.heap[g]? = some (.cells (old.setIfInBounds i v) t (0, 0)) → Wrote g W w1 → wpList P ops Q rest a w1) : wpList P ops Q (o :: rest) a W := by
  refine wpList_plain hgd fun K hK => ?_
  unfold Oper.wp
  rw [hrun]
  show K (a.put o.dst undef) _
  rw [hN]
  exact hK _ _ (h _ (wrote_setCell W g i v old t hg).1 (wrote_setCell W g i v old t hg).2)
end
theorem results_cell_tmp_row {P : Program} {fn : Func} {p u : Tmp} {ty : TypeId} (h : fn.results = #[.cell p ty, .tmp u]) (tmps : Array Value) (w : World) (g : Nat) (t : TypeId) (cs : Array Value) (fr : Nat × Nat) (d : TypeDesc)
    (hp : tmps.getD p undef = .pointer (some ⟨g, 0, none⟩)) (hg : w.heap[g]? = some (.cells cs t fr))
    (hu : P.underlying ty = some d) (hd : (match d with | .struct _ | .array _ _ => true | _ => false) = true) (hi : (P.info? ty).map (·.size) = some cs.size) :
    (results fn tmps).run P w = .ok (.tuple #[.agg cs, tmps.getD u undef]) w := by
  rw [results_cell_tmp h, hp]
  simp [asAddr, Result.andThen, run_loadVar_row w g t ty cs fr d hg hu hd hi]
/-- A whole number's cell in a row that is read. -/
theorem C_int_at {w : World} {k : IntKind} {A : Option Addr} {n : Nat} {xs : List Int} (h : (Kd.int k).C w A n xs) (i : Nat) (hi : i < n) : ∃ ad, A = some ad ∧ w.cell? (ad.add i) = some (.int k (rd xs i)) := by
  obtain ⟨ad, c, e, hl, hK, hc⟩ := Kd.C_get h 0 (i : Int) (by omega) (by omega)
  have hK' : c = [.int k (xs.getD i 0)] := hK
  subst hK'
  refine ⟨ad, e, ?_⟩
  have := hc 0 _ rfl
  have e1 : (Kd.int k).sz = 1 := rfl
  rw [e1, Nat.mul_one, Nat.add_zero] at this
  exact this
theorem C_str_at {w : World} {A : Option Addr} {n : Nat} {xs : List ByteArray} (h : Kd.string.C w A n xs) (i : Nat) (hi : i < n) : ∃ ad, A = some ad ∧ w.cell? (ad.add i) = some (.string (xs.getD i ⟨#[]⟩)) := by
  obtain ⟨ad, c, e, hl, hK, hc⟩ := Kd.C_get h ⟨#[]⟩ (i : Int) (by omega) (by omega)
  have hK' : c = [.string (xs.getD i ⟨#[]⟩)] := hK
  subst hK'
  refine ⟨ad, e, ?_⟩
  have := hc 0 _ rfl
  have e1 : Kd.string.sz = 1 := rfl
  rw [e1, Nat.mul_one, Nat.add_zero] at this
  exact this

/-- The first place where p holds, or -1. -/
def idxOf {α : Type} (p : α → Bool) (xs : List α) : Int := match xs.findIdx? p with | some i => (i : Int) | none => -1
theorem idxOf_hit {α : Type} (p : α → Bool) (xs : List α) (z : α) (k : Nat) (hk : k < xs.length) (h : p (xs.getD k z) = true) (hb : ∀ j, j < k → p (xs.getD j z) = false) : idxOf p xs = k := by
  unfold idxOf
  have : xs.findIdx? p = some k := by
    rw [List.findIdx?_eq_some_iff_getElem]
    refine ⟨hk, by simpa [List.getD_eq_getElem?_getD, hk] using h, fun j hj => ?_⟩
    have := hb j hj
    simpa [List.getD_eq_getElem?_getD, Nat.lt_trans hj hk] using this
  rw [this]
theorem idxOf_miss {α : Type} (p : α → Bool) (xs : List α) (z : α) (hb : ∀ j, j < xs.length → p (xs.getD j z) = false) : idxOf p xs = -1 := by
  unfold idxOf
  have : xs.findIdx? p = none := by
    rw [List.findIdx?_eq_none_iff]
    intro x hx
    obtain ⟨j, hj, rfl⟩ := List.getElem_of_mem hx
    have := hb j hj
    simpa [List.getD_eq_getElem?_getD, hj] using this
  rw [this]
theorem idxOf_any {α : Type} (p : α → Bool) (xs : List α) : decide (0 ≤ idxOf p xs) = xs.any p := by
  unfold idxOf
  cases h : xs.findIdx? p with
  | none =>
    rw [List.findIdx?_eq_none_iff] at h
    simp only [show ¬ (0 : Int) ≤ -1 from by omega, decide_false]
    symm
    rw [List.any_eq_false]
    intro x hx
    simp [h x hx]
  | some i =>
    rw [List.findIdx?_eq_some_iff_getElem] at h
    obtain ⟨hi, hp, _⟩ := h
    simp only [show (0 : Int) ≤ (i : Int) from by omega, decide_true]
    symm
    rw [List.any_eq_true]
    exact ⟨_, List.getElem_mem hi, hp⟩

/-- What is asked of a predicate on elements (struct or not): at each of them, in every later world. -/
def PredOn (P : Program) {α : Type} (k : Kd α) (enc : List Value → Value) (g : Nat) (caps : Array Value) (p : α → Bool) (xs : List α) (w : World) : Prop :=
  ∀ j, j < xs.length → ∀ (z : α) (W : World) (cs : List Value), Below w.heap.size w W → k.K W (xs.getD j z) cs → Calls P g (#[enc cs] ++ caps) W fun e W' => e = .returned (.bool (p (xs.getD j z))) ∧ Below w.heap.size w W'


theorem size_Tm : (Try.prog.info? 40).map (·.size) = some kTm.sz := by kernel_rfl
set_option maxHeartbeats 1000000 in
theorem indexFunc_Tm (xs : List Tm) (A : Option Addr) (c : Nat) (g : Nat) (caps : Array Value) (eg : ∀ args w, (callFunc g args).run Try.prog w = .ok (.enter g args) w) (p : Tm → Bool) (w : World)
    (hC : Kd.C kTm w A xs.length xs) (hp : PredOn Try.prog kTm (fun cs => .agg cs.toArray) g caps p xs w) (hn : xs.length ≤ 9223372036854775807) :
    Calls Try.prog 33 #[.slice A xs.length c, .func (.func g) #[] caps] w fun e w' => e = .returned (.int .i64 (idxOf p xs)) ∧ Below w.heap.size w w' := by
  have HR := Aside0.mk hC
  have HP := Aside0.mk hp
  clear hC hp
  go_enter Try.func33, Try.ntmps33
  go_wp2
  go_loopg [5, 8] xs.length (fun gg _ v8 wr => ∃ kk : Nat, kk ≤ xs.length ∧ xs.length - kk ≤ gg ∧ v8 = .int .i64 kk ∧ Aside0 (Below w.heap.size w wr) ∧ Aside0 (∀ j, j < kk → p (xs.getD j zTm) = false))
  case atStart => exact ⟨0, Nat.zero_le _, by omega, rfl, ⟨Below.refl _ w⟩, ⟨fun j hj => absurd hj (Nat.not_lt_zero _)⟩⟩
  case round =>
    obtain ⟨kk, hkk, hg, rfl, BW, AA⟩ := hrel
    by_cases hlt : kk < xs.length
    · obtain ⟨ad, cs, e, hl, hK, hc⟩ := Kd.C_get HR.out zTm (kk : Int) (by omega) (by omega)
      subst e
      have hK' := kTm.K_below BW.out hK
      rw [show ((kk : Int)).toNat = kk from rfl] at hK' hc
      have HC := Aside0.mk (HP.out kk hlt zTm wr cs BW.out hK')
      have HL := Aside0.mk (show ∀ j v, cs[j]? = some v → wr.cell? ((ad.add (kk * kTm.sz)).add j) = some v from fun j v hv => by
          have := hc j v hv
          rw [add_add]
          exact (BW.out.cell (World.block_lt_of_cell? w _ this)).trans this)
      have HN := Aside0.mk (show (Try.prog.info? 40).map (·.size) = some cs.length from by rw [hl]; exact size_Tm)
      clear hc hK hK' hl
      generalize hq : p (xs.getD kk zTm) = q at HC
      have HQ := Aside0.mk hq
      clear hq
      cases q with
      | true =>
        go_wp2_with (((with_reducible refine gate_dst (N := 15) rfl ?_); refine wpList_load_cells rfl 40 _ rfl (ad.add (kk * kTm.sz)) rfl cs _ Try.underlying40 rfl HN.out HL.out ?_))
        refine HC.out.mono ?_
        rintro e w' ⟨rfl, hb'⟩
        go_wp2
        go_ret
        exact ⟨by rw [idxOf_hit p xs zTm kk hlt HQ.out AA.out]; rfl, hb'⟩
      | false =>
        go_wp2_with (((with_reducible refine gate_dst (N := 15) rfl ?_); refine wpList_load_cells rfl 40 _ rfl (ad.add (kk * kTm.sz)) rfl cs _ Try.underlying40 rfl HN.out HL.out ?_))
        refine HC.out.mono ?_
        rintro e w' ⟨rfl, hb'⟩
        go_wp2
        go_roundg (xs.length - (kk + 1))
        case measure => omega
        case rel => exact ⟨kk + 1, by omega, by omega, by go_num, ⟨hb'⟩, ⟨fun j hj => by
          by_cases e : j = kk
          · subst e; exact HQ.out
          · exact AA.out j (by omega)⟩⟩
    · have : kk = xs.length := by omega
      subst this
      go_wp2
      go_ret
      exact ⟨by rw [idxOf_miss p xs zTm AA.out]; rfl, BW.out⟩
theorem size_Bd : (Try.prog.info? 70).map (·.size) = some kBd.sz := by kernel_rfl
set_option maxHeartbeats 1000000 in
theorem indexFunc_Bd (xs : List Bd) (A : Option Addr) (c : Nat) (g : Nat) (caps : Array Value) (eg : ∀ args w, (callFunc g args).run Try.prog w = .ok (.enter g args) w) (p : Bd → Bool) (w : World)
    (hC : Kd.C kBd w A xs.length xs) (hp : PredOn Try.prog kBd (fun cs => .agg cs.toArray) g caps p xs w) (hn : xs.length ≤ 9223372036854775807) :
    Calls Try.prog 68 #[.slice A xs.length c, .func (.func g) #[] caps] w fun e w' => e = .returned (.int .i64 (idxOf p xs)) ∧ Below w.heap.size w w' := by
  have HR := Aside0.mk hC
  have HP := Aside0.mk hp
  clear hC hp
  go_enter Try.func68, Try.ntmps68
  go_wp2
  go_loopg [5, 8] xs.length (fun gg _ v8 wr => ∃ kk : Nat, kk ≤ xs.length ∧ xs.length - kk ≤ gg ∧ v8 = .int .i64 kk ∧ Aside0 (Below w.heap.size w wr) ∧ Aside0 (∀ j, j < kk → p (xs.getD j zBd) = false))
  case atStart => exact ⟨0, Nat.zero_le _, by omega, rfl, ⟨Below.refl _ w⟩, ⟨fun j hj => absurd hj (Nat.not_lt_zero _)⟩⟩
  case round =>
    obtain ⟨kk, hkk, hg, rfl, BW, AA⟩ := hrel
    by_cases hlt : kk < xs.length
    · obtain ⟨ad, cs, e, hl, hK, hc⟩ := Kd.C_get HR.out zBd (kk : Int) (by omega) (by omega)
      subst e
      have hK' := kBd.K_below BW.out hK
      rw [show ((kk : Int)).toNat = kk from rfl] at hK' hc
      have HC := Aside0.mk (HP.out kk hlt zBd wr cs BW.out hK')
      have HL := Aside0.mk (show ∀ j v, cs[j]? = some v → wr.cell? ((ad.add (kk * kBd.sz)).add j) = some v from fun j v hv => by
          have := hc j v hv
          rw [add_add]
          exact (BW.out.cell (World.block_lt_of_cell? w _ this)).trans this)
      have HN := Aside0.mk (show (Try.prog.info? 70).map (·.size) = some cs.length from by rw [hl]; exact size_Bd)
      clear hc hK hK' hl
      generalize hq : p (xs.getD kk zBd) = q at HC
      have HQ := Aside0.mk hq
      clear hq
      cases q with
      | true =>
        go_wp2_with (((with_reducible refine gate_dst (N := 15) rfl ?_); refine wpList_load_cells rfl 70 _ rfl (ad.add (kk * kBd.sz)) rfl cs _ Try.underlying70 rfl HN.out HL.out ?_))
        refine HC.out.mono ?_
        rintro e w' ⟨rfl, hb'⟩
        go_wp2
        go_ret
        exact ⟨by rw [idxOf_hit p xs zBd kk hlt HQ.out AA.out]; rfl, hb'⟩
      | false =>
        go_wp2_with (((with_reducible refine gate_dst (N := 15) rfl ?_); refine wpList_load_cells rfl 70 _ rfl (ad.add (kk * kBd.sz)) rfl cs _ Try.underlying70 rfl HN.out HL.out ?_))
        refine HC.out.mono ?_
        rintro e w' ⟨rfl, hb'⟩
        go_wp2
        go_roundg (xs.length - (kk + 1))
        case measure => omega
        case rel => exact ⟨kk + 1, by omega, by omega, by go_num, ⟨hb'⟩, ⟨fun j hj => by
          by_cases e : j = kk
          · subst e; exact HQ.out
          · exact AA.out j (by omega)⟩⟩
    · have : kk = xs.length := by omega
      subst this
      go_wp2
      go_ret
      exact ⟨by rw [idxOf_miss p xs zBd AA.out]; rfl, BW.out⟩
theorem size_Sg : (Try.prog.info? 35).map (·.size) = some kSg.sz := by kernel_rfl
set_option maxHeartbeats 1000000 in
theorem indexFunc_Sg (xs : List Sg) (A : Option Addr) (c : Nat) (g : Nat) (caps : Array Value) (eg : ∀ args w, (callFunc g args).run Try.prog w = .ok (.enter g args) w) (p : Sg → Bool) (w : World)
    (hC : Kd.C kSg w A xs.length xs) (hp : PredOn Try.prog kSg (fun cs => .agg cs.toArray) g caps p xs w) (hn : xs.length ≤ 9223372036854775807) :
    Calls Try.prog 37 #[.slice A xs.length c, .func (.func g) #[] caps] w fun e w' => e = .returned (.int .i64 (idxOf p xs)) ∧ Below w.heap.size w w' := by
  have HR := Aside0.mk hC
  have HP := Aside0.mk hp
  clear hC hp
  go_enter Try.func37, Try.ntmps37
  go_wp2
  go_loopg [5, 8] xs.length (fun gg _ v8 wr => ∃ kk : Nat, kk ≤ xs.length ∧ xs.length - kk ≤ gg ∧ v8 = .int .i64 kk ∧ Aside0 (Below w.heap.size w wr) ∧ Aside0 (∀ j, j < kk → p (xs.getD j zSg) = false))
  case atStart => exact ⟨0, Nat.zero_le _, by omega, rfl, ⟨Below.refl _ w⟩, ⟨fun j hj => absurd hj (Nat.not_lt_zero _)⟩⟩
  case round =>
    obtain ⟨kk, hkk, hg, rfl, BW, AA⟩ := hrel
    by_cases hlt : kk < xs.length
    · obtain ⟨ad, cs, e, hl, hK, hc⟩ := Kd.C_get HR.out zSg (kk : Int) (by omega) (by omega)
      subst e
      have hK' := kSg.K_below BW.out hK
      rw [show ((kk : Int)).toNat = kk from rfl] at hK' hc
      have HC := Aside0.mk (HP.out kk hlt zSg wr cs BW.out hK')
      have HL := Aside0.mk (show ∀ j v, cs[j]? = some v → wr.cell? ((ad.add (kk * kSg.sz)).add j) = some v from fun j v hv => by
          have := hc j v hv
          rw [add_add]
          exact (BW.out.cell (World.block_lt_of_cell? w _ this)).trans this)
      have HN := Aside0.mk (show (Try.prog.info? 35).map (·.size) = some cs.length from by rw [hl]; exact size_Sg)
      clear hc hK hK' hl
      generalize hq : p (xs.getD kk zSg) = q at HC
      have HQ := Aside0.mk hq
      clear hq
      cases q with
      | true =>
        go_wp2_with (((with_reducible refine gate_dst (N := 15) rfl ?_); refine wpList_load_cells rfl 35 _ rfl (ad.add (kk * kSg.sz)) rfl cs _ Try.underlying35 rfl HN.out HL.out ?_))
        refine HC.out.mono ?_
        rintro e w' ⟨rfl, hb'⟩
        go_wp2
        go_ret
        exact ⟨by rw [idxOf_hit p xs zSg kk hlt HQ.out AA.out]; rfl, hb'⟩
      | false =>
        go_wp2_with (((with_reducible refine gate_dst (N := 15) rfl ?_); refine wpList_load_cells rfl 35 _ rfl (ad.add (kk * kSg.sz)) rfl cs _ Try.underlying35 rfl HN.out HL.out ?_))
        refine HC.out.mono ?_
        rintro e w' ⟨rfl, hb'⟩
        go_wp2
        go_roundg (xs.length - (kk + 1))
        case measure => omega
        case rel => exact ⟨kk + 1, by omega, by omega, by go_num, ⟨hb'⟩, ⟨fun j hj => by
          by_cases e : j = kk
          · subst e; exact HQ.out
          · exact AA.out j (by omega)⟩⟩
    · have : kk = xs.length := by omega
      subst this
      go_wp2
      go_ret
      exact ⟨by rw [idxOf_miss p xs zSg AA.out]; rfl, BW.out⟩
theorem size_Tb : (Try.prog.info? 28).map (·.size) = some kTb.sz := by kernel_rfl
set_option maxHeartbeats 1000000 in
theorem indexFunc_Tb (xs : List Tb) (A : Option Addr) (c : Nat) (g : Nat) (caps : Array Value) (eg : ∀ args w, (callFunc g args).run Try.prog w = .ok (.enter g args) w) (p : Tb → Bool) (w : World)
    (hC : Kd.C kTb w A xs.length xs) (hp : PredOn Try.prog kTb (fun cs => .agg cs.toArray) g caps p xs w) (hn : xs.length ≤ 9223372036854775807) :
    Calls Try.prog 39 #[.slice A xs.length c, .func (.func g) #[] caps] w fun e w' => e = .returned (.int .i64 (idxOf p xs)) ∧ Below w.heap.size w w' := by
  have HR := Aside0.mk hC
  have HP := Aside0.mk hp
  clear hC hp
  go_enter Try.func39, Try.ntmps39
  go_wp2
  go_loopg [5, 8] xs.length (fun gg _ v8 wr => ∃ kk : Nat, kk ≤ xs.length ∧ xs.length - kk ≤ gg ∧ v8 = .int .i64 kk ∧ Aside0 (Below w.heap.size w wr) ∧ Aside0 (∀ j, j < kk → p (xs.getD j zTb) = false))
  case atStart => exact ⟨0, Nat.zero_le _, by omega, rfl, ⟨Below.refl _ w⟩, ⟨fun j hj => absurd hj (Nat.not_lt_zero _)⟩⟩
  case round =>
    obtain ⟨kk, hkk, hg, rfl, BW, AA⟩ := hrel
    by_cases hlt : kk < xs.length
    · obtain ⟨ad, cs, e, hl, hK, hc⟩ := Kd.C_get HR.out zTb (kk : Int) (by omega) (by omega)
      subst e
      have hK' := kTb.K_below BW.out hK
      rw [show ((kk : Int)).toNat = kk from rfl] at hK' hc
      have HC := Aside0.mk (HP.out kk hlt zTb wr cs BW.out hK')
      have HL := Aside0.mk (show ∀ j v, cs[j]? = some v → wr.cell? ((ad.add (kk * kTb.sz)).add j) = some v from fun j v hv => by
          have := hc j v hv
          rw [add_add]
          exact (BW.out.cell (World.block_lt_of_cell? w _ this)).trans this)
      have HN := Aside0.mk (show (Try.prog.info? 28).map (·.size) = some cs.length from by rw [hl]; exact size_Tb)
      clear hc hK hK' hl
      generalize hq : p (xs.getD kk zTb) = q at HC
      have HQ := Aside0.mk hq
      clear hq
      cases q with
      | true =>
        go_wp2_with (((with_reducible refine gate_dst (N := 15) rfl ?_); refine wpList_load_cells rfl 28 _ rfl (ad.add (kk * kTb.sz)) rfl cs _ Try.underlying28 rfl HN.out HL.out ?_))
        refine HC.out.mono ?_
        rintro e w' ⟨rfl, hb'⟩
        go_wp2
        go_ret
        exact ⟨by rw [idxOf_hit p xs zTb kk hlt HQ.out AA.out]; rfl, hb'⟩
      | false =>
        go_wp2_with (((with_reducible refine gate_dst (N := 15) rfl ?_); refine wpList_load_cells rfl 28 _ rfl (ad.add (kk * kTb.sz)) rfl cs _ Try.underlying28 rfl HN.out HL.out ?_))
        refine HC.out.mono ?_
        rintro e w' ⟨rfl, hb'⟩
        go_wp2
        go_roundg (xs.length - (kk + 1))
        case measure => omega
        case rel => exact ⟨kk + 1, by omega, by omega, by go_num, ⟨hb'⟩, ⟨fun j hj => by
          by_cases e : j = kk
          · subst e; exact HQ.out
          · exact AA.out j (by omega)⟩⟩
    · have : kk = xs.length := by omega
      subst this
      go_wp2
      go_ret
      exact ⟨by rw [idxOf_miss p xs zTb AA.out]; rfl, BW.out⟩

set_option maxHeartbeats 1000000 in
theorem containsFunc_Tm (xs : List Tm) (A : Option Addr) (c : Nat) (g : Nat) (caps : Array Value) (eg : ∀ args w, (callFunc g args).run Try.prog w = .ok (.enter g args) w) (p : Tm → Bool) (w : World)
    (hC : Kd.C kTm w A xs.length xs) (hp : PredOn Try.prog kTm (fun cs => .agg cs.toArray) g caps p xs w) (hn : xs.length ≤ 9223372036854775807) :
    Calls Try.prog 16 #[.slice A xs.length c, .func (.func g) #[] caps] w fun e w' => e = .returned (.bool (xs.any p)) ∧ Below w.heap.size w w' := by
  have HI := Aside0.mk (indexFunc_Tm xs A c g caps eg p w hC hp hn)
  have HA := Aside0.mk (idxOf_any p xs)
  clear hC hp
  go_enter Try.func16, Try.ntmps16
  go_wp2_with fail
  refine HI.out.mono ?_
  rintro e w' ⟨rfl, hb'⟩
  go_wp2
  go_ret
  exact ⟨by rw [← HA.out]; rfl, hb'⟩
set_option maxHeartbeats 1000000 in
theorem containsFunc_Bd (xs : List Bd) (A : Option Addr) (c : Nat) (g : Nat) (caps : Array Value) (eg : ∀ args w, (callFunc g args).run Try.prog w = .ok (.enter g args) w) (p : Bd → Bool) (w : World)
    (hC : Kd.C kBd w A xs.length xs) (hp : PredOn Try.prog kBd (fun cs => .agg cs.toArray) g caps p xs w) (hn : xs.length ≤ 9223372036854775807) :
    Calls Try.prog 63 #[.slice A xs.length c, .func (.func g) #[] caps] w fun e w' => e = .returned (.bool (xs.any p)) ∧ Below w.heap.size w w' := by
  have HI := Aside0.mk (indexFunc_Bd xs A c g caps eg p w hC hp hn)
  have HA := Aside0.mk (idxOf_any p xs)
  clear hC hp
  go_enter Try.func63, Try.ntmps63
  go_wp2_with fail
  refine HI.out.mono ?_
  rintro e w' ⟨rfl, hb'⟩
  go_wp2
  go_ret
  exact ⟨by rw [← HA.out]; rfl, hb'⟩

end Go.Proofs.Ytiokmnabkccpcaa.Kit
