/- An edge more: where an 'extract' stands apart from a later operation, it is enough to serve the orders in which it comes ahead of that. No program in it. -/
import Derived.Test.YtjimkkkiilcpoaaFlowH
set_option linter.unusedVariables false
set_option linter.unusedSimpArgs false
namespace Go.Proofs.Ytjimkkkiilcpoaa
open Go.RowKit

variable {P : Program} {ops ops' : Array Oper} {Q : Exit → Act → World → Prop}

theorem extract_op {os : Oper} {x : Operand} {k : Nat} (hop : os.op = .extract x k) (a : Act) : execOp a.eval os = (Instr.extract (a.eval x) k >>= fun v => pure (.value v)) := by
  unfold execOp
  simp only [hop]
theorem extract_yields {s : Nat} {os : Oper} {x : Operand} {k : Nat} (hs : ops[s]? = some os) (hop : os.op = .extract x k) (hg : os.guard = none) {K : Act → World → Prop} {a : Act} {w : World} (h : wpOp P ops Q s K a w) :
    ∃ v, Yields P ops os v a ∧ K (a.put os.dst v) w := by
  have e := extract_op hop a
  have hw : Region.wanted os (yielded ops a.tmps) = true := by simp [Region.wanted, hg]
  unfold wpOp at h
  rw [hs] at h
  simp only [hw, if_true] at h
  have hc : (∃ v, Instr.extract (a.eval x) k = pure v) ∨ ∃ m, Instr.extract (a.eval x) k = stuck m := by
    unfold Instr.extract
    split
    · split
      · exact .inl ⟨_, rfl⟩
      · exact .inr ⟨_, rfl⟩
    · exact .inr ⟨_, rfl⟩
  rcases hc with ⟨v, hv⟩ | ⟨m, hm⟩
  · rw [hv] at e
    have hr : ∀ w, (execOp a.eval os).run P w = .ok (.value v) w := fun w => by rw [e]; rfl
    refine ⟨v, .inl ⟨hw, hr⟩, ?_⟩
    rcases h with h | ⟨h, _⟩
    · unfold Oper.wp at h
      rw [hr] at h
      exact h
    · unfold Oper.asks at h
      rw [e] at h
      have h1 : noRoomEvent ∈ (#[] : Array Event) := h.1
      simp at h1
  · rw [hm] at e
    rcases h with h | ⟨h, _⟩
    · unfold Oper.wp at h
      rw [e] at h
      exact h.elim
    · unfold Oper.asks at h
      rw [e] at h
      have h1 : noRoomEvent ∈ (#[] : Array Event) := h.1
      simp at h1

/-- The operations with one edge more. -/
def moreEdge (ops : Array Oper) (s t : Nat) : Array Oper := match ops[t]? with
  | some ot => ops.setIfInBounds t { ot with after := ot.after.push { on := s, ground := .data } }
  | none => ops
/-- What the kernel reckons: s is an unguarded extract, apart from t and whatever else does not wait for it; t waits for all that s waits for; none selects. -/
def edgeB (ops : Array Oper) (s t : Nat) : Bool :=
  match ops[s]?, ops[t]? with
  | some os, some ot => decide (s ≠ t) && (match os.op with | .extract _ _ => true | _ => false) && os.guard.isNone && Region.noSelect ops &&
      (os.after.all fun e => !Region.binds .any e || ot.after.any fun e' => Region.binds .any e' && e'.on == e.on) &&
      ((List.range ops.size).all fun j => decide (j = s) || (os.after.any fun e => Region.binds .any e && e.on == j) || match ops[j]? with | some oj => (oj.after.any fun e => Region.binds .any e && e.on == s) || os.apart ops oj | none => true)
  | _, _ => false

theorem edge_more {s t : Nat} (hB : edgeB ops s t = true) (hQ : ∀ (d : Option Tmp) (v : Value) c (a : Act) w, Q (.panic c) (a.put d v) w → Q (.panic c) a w) :
    ∀ (fuel : Nat) (listed : Array Bool) (a : Act) (w : World), listed.size = ops.size → wpAny P .any (moreEdge ops s t) Q fuel listed a w → wpAny P .any ops Q fuel listed a w := by
  unfold edgeB at hB
  split at hB
  case h_2 => cases hB
  rename_i os ot hs ht
  simp only [Bool.and_eq_true, decide_eq_true_eq] at hB
  obtain ⟨⟨⟨⟨⟨hst, hop⟩, hg⟩, hsel⟩, hsub⟩, hap⟩ := hB
  obtain ⟨x, k, hop⟩ : ∃ x k, os.op = .extract x k := by
    split at hop
    · rename_i x k h; exact ⟨x, k, h⟩
    · cases hop
  have hg : os.guard = none := by simpa using hg
  have hts : t < ops.size := (Array.getElem?_eq_some_iff.1 ht).1
  have hm : moreEdge ops s t = ops.setIfInBounds t { ot with after := ot.after.push { on := s, ground := .data } } := by unfold moreEdge; rw [ht]
  have hne : ∀ i, i ≠ t → (moreEdge ops s t)[i]? = ops[i]? := fun i hi => by rw [hm, Array.getElem?_setIfInBounds_ne (Ne.symm hi)]
  have heq : (moreEdge ops s t)[t]? = some { ot with after := ot.after.push { on := s, ground := .data } } := by rw [hm]; simp [hts]
  have hy : ∀ tm, yielded (moreEdge ops s t) tm = yielded ops tm := fun tm => by
    funext g
    unfold yielded
    by_cases h : g = t
    · subst h; rw [heq, ht]; rfl
    · rw [hne g h]
  have hop' : ∀ i K a w, wpOp P (moreEdge ops s t) Q i K a w → wpOp P ops Q i K a w := fun i K a w h => by
    unfold wpOp at *
    by_cases hi : i = t
    · subst hi
      rw [heq] at h
      rw [ht]
      simp only [hy] at h
      exact h
    · rw [hne i hi] at h
      simp only [hy] at h
      exact h
  have hmono : ∀ {i : Nat} {K K' : Act → World → Prop} {a : Act} {w : World}, (∀ a w, K a w → K' a w) → wpOp P ops Q i K a w → wpOp P ops Q i K' a w := fun {i K K' a w} hk h => by
    unfold wpOp at *
    split at h
    · exact hk _ _ h
    · rename_i o ho
      split
      · rename_i hw
        rw [if_pos hw] at h
        exact h.imp (Oper.wp_mono hk) id
      · rename_i hw
        rw [if_neg hw] at h
        exact hk _ _ h
  -- who is ready in one is so in the other
  have hr1 : ∀ {i : Nat} {listed : Array Bool}, i ∈ Region.ready .any (moreEdge ops s t) listed → i ∈ Region.ready .any ops listed := fun {i listed} h => by
    obtain ⟨h0, o, ho, hall⟩ := mem_ready.1 h
    by_cases hi : i = t
    · subst hi
      rw [heq] at ho
      cases ho
      exact mem_ready.2 ⟨h0, ot, ht, fun e he hb => hall e (by simp [he]) hb⟩
    · rw [hne i hi] at ho
      exact mem_ready.2 ⟨h0, o, ho, hall⟩
  have hr2 : ∀ {i : Nat} {listed : Array Bool}, i ∈ Region.ready .any ops listed → i ≠ t ∨ listed.getD s false = true → i ∈ Region.ready .any (moreEdge ops s t) listed := fun {i listed} h hc => by
    obtain ⟨h0, o, ho, hall⟩ := mem_ready.1 h
    by_cases hi : i = t
    · subst hi
      rw [ht] at ho
      cases ho
      refine mem_ready.2 ⟨h0, _, heq, fun e he hb => ?_⟩
      rcases Array.mem_push.1 he with he | rfl
      · exact hall e he hb
      · exact hc.resolve_left (fun h => h rfl)
    · exact mem_ready.2 ⟨h0, o, by rw [hne i hi]; exact ho, hall⟩
  have hr3 : ∀ {listed : Array Bool}, listed.size = ops.size → t ∈ Region.ready .any ops listed → listed.getD s false = false → s ∈ Region.ready .any ops listed := fun {listed} hsz h hc => by
    obtain ⟨h0, o, ho, hall⟩ := mem_ready.1 h
    rw [ht] at ho
    cases ho
    refine mem_ready.2 ⟨?_, os, hs, fun e he hb => ?_⟩
    · have hss : s < listed.size := by rw [hsz]; exact (Array.getElem?_eq_some_iff.1 hs).1
      simpa [Array.getD, hss] using hc
    · have h1 := Array.all_eq_true'.1 hsub e he
      simp only [hb, Bool.not_true, Bool.false_or] at h1
      obtain ⟨j, hj, h2⟩ := Array.any_eq_true.1 h1
      simp only [Bool.and_eq_true, beq_iff_eq] at h2
      rw [← h2.2]
      exact hall _ (Array.getElem_mem hj) h2.1
  have hsel' : ∀ (j : Nat) (o : Oper) cs b, ops[j]? = some o → o.op ≠ .select cs b := fun j o cs b h => Region.noSelect_spec hsel j o cs b h
  have hap' : ∀ j oj, ops[j]? = some oj → j ≠ s → (∀ e ∈ os.after, Region.binds .any e = true → e.on ≠ j) → (∀ e ∈ oj.after, Region.binds .any e = true → e.on ≠ s) → os.apart ops oj = true := fun j oj hj hjs hw hn => by
    have h1 := List.all_eq_true.1 hap j (List.mem_range.2 (Array.getElem?_eq_some_iff.1 hj).1)
    rw [hj] at h1
    simp only [Bool.or_eq_true, decide_eq_true_eq] at h1
    rcases h1 with (h1 | h1) | h1 | h1
    · exact absurd h1 hjs
    · obtain ⟨i, hi, h2⟩ := Array.any_eq_true.1 h1
      simp only [Bool.and_eq_true, beq_iff_eq] at h2
      exact absurd h2.2 (hw _ (Array.getElem_mem hi) h2.1)
    · obtain ⟨i, hi, h2⟩ := Array.any_eq_true.1 h1
      simp only [Bool.and_eq_true, beq_iff_eq] at h2
      exact absurd h2.2 (hn _ (Array.getElem_mem hi) h2.1)
    · exact h1
  intro fuel
  induction fuel with
  | zero =>
    intro listed a w hsz h
    refine ⟨List.eq_nil_iff_forall_not_mem.2 fun i hi => ?_, h.2⟩
    by_cases hc : i ≠ t ∨ listed.getD s false = true
    · have := hr2 hi hc
      rw [h.1] at this
      cases this
    · simp only [not_or, Classical.not_not, Bool.not_eq_true] at hc
      obtain ⟨rfl, hc⟩ := hc
      have := hr2 (hr3 hsz hi hc) (.inl hst)
      rw [h.1] at this
      cases this
  | succ fuel ih =>
    intro listed a w hsz h
    refine ⟨fun h0 => h.1 (List.eq_nil_iff_forall_not_mem.2 fun i hi => by have := hr1 hi; rw [h0] at this; cases this), fun i hi => ?_⟩
    by_cases hc : i ≠ t ∨ listed.getD s false = true
    · exact hmono (fun a' w' h' => ih _ a' w' (by simpa using hsz) h') (hop' _ _ _ _ (h.2 i (hr2 hi hc)))
    · simp only [not_or, Classical.not_not, Bool.not_eq_true] at hc
      obtain ⟨rfl, hc⟩ := hc
      have hrs := hr3 hsz hi hc
      have h1 := hop' _ _ _ _ (h.2 s (hr2 hrs (.inl hst)))
      obtain ⟨v, hyv, h2⟩ := extract_yields hs hop hg h1
      have h3 := ih _ _ _ (by simpa using hsz) h2
      have h4 := wpAny_first (md := .any) hs hsel' (fun c a w => hQ os.dst v c a w) fuel listed a w (fun j oj hj hjs hju hn => hap' j oj hj hjs (fun e he hb heq => by
        obtain ⟨_, o, ho, hall⟩ := mem_ready.1 hrs
        rw [hs] at ho
        cases ho
        have h5 := hall e he hb
        rw [heq, getD_both hju] at h5
        cases h5) hn) hrs hyv h3
      exact h4.2 i hi

theorem moreEdge_size (ops : Array Oper) (s t : Nat) : (moreEdge ops s t).size = ops.size := by unfold moreEdge; split <;> simp

/-- The region's law, with an edge more. -/
theorem wp_flow_edge {G : World → World → Prop} (hG : FG.Pre G) {id : Nat} {L : List Oper} {a : Act} {w : World} (s t n : Nat) (S : World → Prop) (sp : List (Option (Value → World → Prop))) (hm : P.follows .mixedOrders = true) (hE : edgeB L.toArray s t = true)
    (hB : FH.flowH ((moreEdge L.toArray s t).toList.take n) ((moreEdge L.toArray s t).toList.drop n) a.tmps.size = true) (hQ : ∀ (d : Option Tmp) (v : Value) c (a : Act) w, Q (.panic c) (a.put d v) w → Q (.panic c) a w)
    (hS0 : S w.drew) (hS : ∀ w w', S w → G w w' → S w') (hR : FH.StabE G sp)
    (hF : FH.FlowE G P (moreEdge L.toArray s t) S w Q ((moreEdge L.toArray s t).toList.drop n) ((moreEdge L.toArray s t).toList.take n) sp 0 (fun _ => a) (fun _ => [])) : (Code.region id L.toArray true).wp P Q a w := by
  obtain ⟨sp', hs', h3⟩ := FH.flow_of_E hR hF
  refine wp_region_any hm (edge_more hE hQ _ _ _ _ (by simp) ?_)
  have hsz := moreEdge_size L.toArray s t
  generalize hops : moreEdge L.toArray s t = ops' at *
  have e : ops' = (ops'.toList.take n ++ ops'.toList.drop n).toArray := by rw [List.take_append_drop]
  generalize ops'.toList.take n = l at *
  generalize ops'.toList.drop n = tail at *
  refine FH.flow_any hG e hB hS (FH.stab_of hs') h3 _ _ a w.drew ?_ ?_
  · unfold unlisted
    rw [← hsz]
    exact Nat.le_trans (List.length_filter_le _ _) (by simp)
  · rw [← hsz]
    exact ⟨⟨by simp, fun j oj _ hl => (by rw [getD_replicate_false] at hl; cases hl), fun t ht1 ht => by simp [Array.getD] at ht ⊢; omega⟩, hS0, hG.drew w,
      ⟨fun m => match sp'[m]? with | some (Sum.inl c) => c | _ => undef, fun m c hm => by simp [hm], fun m R _ hl => (by rw [getD_replicate_false] at hl; cases hl), fun m o d _ hl => (by rw [getD_replicate_false] at hl; cases hl), fun t _ => rfl⟩, rfl, rfl⟩
end Go.Proofs.Ytjimkkkiilcpoaa
