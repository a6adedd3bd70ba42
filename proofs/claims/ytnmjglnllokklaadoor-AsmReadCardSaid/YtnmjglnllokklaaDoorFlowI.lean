/- XFlow inside a fence that holds all functions, in a round or out of one. No program in it. -/
import Derived.Test.YtnmjglnllokklaaDoorFlow
import Derived.RangeFuncNested
import Derived.OrdersIn
import Derived.TacticsInMore
set_option linter.unusedVariables false
set_option linter.unusedSimpArgs false
namespace Go.Proofs.YtnmjglnllokklaaDoor
open Go.RowKit

/-- A fence that holds all functions, at any depth. -/
structure Wide (Φ : Fence) : Prop where
  fn : ∀ f, Φ.fn f
  depth : Φ.depth = none
  calls : ∀ {n : Nat} {P : Program} {f : FuncId} {args : Array Value} {w : World} {R : Ending → World → Prop}, Calls P f args w R → CallsIn Φ n P f args w R
theorem Wide.wide : Wide Fence.wide := ⟨fun _ => trivial, rfl, fun h => callsIn_wide.2 h⟩
theorem Wide.round (l : Nat) : Wide (Fence.wide.inRound l) := ⟨fun _ => trivial, rfl, fun h => CallsIn.inRound l (callsIn_wide.2 h)⟩
def noDeferB (ops : Array Oper) : Bool := ops.toList.all fun o => match o.op with | .defer _ => false | _ => true
theorem noDefer_spec {ops : Array Oper} (h : noDeferB ops = true) {i : Nat} {o : Oper} (ho : ops[i]? = some o) (c : Call) : o.op ≠ .defer c := by
  intro e
  have := List.all_eq_true.1 h o (by rw [Array.mem_toList_iff]; exact Array.mem_of_getElem? ho)
  simp [e] at this
theorem semAt_all (Φ : Fence) (ρ : Operand → Value) (o : Oper) (h : ∀ c, o.op ≠ .defer c) : o.semAt Φ.round ρ = execOp ρ o := Oper.semAt_eq _ _ _ h

def FlowI (Φ : Fence) (r : Nat) (P : Program) (ops : Array Oper) (S : World → Prop) (w0 : World) (Q : Exit → Act → World → Prop) (tail : List Oper) (vs : Nat → Value) : List Oper → List Spec → Nat → Act → List (Nat × (World → Prop)) → Prop
  | o :: rest, s :: sp, k, a, F => (∀ w, S w → Below w0.heap.size w0 w → facts o F w → opOk P ops o a w (specR s)) ∧
      FlowI Φ r P ops S w0 Q tail vs rest sp (k + 1) (a.put o.dst (specV s (vs k))) (addF s k (vs k) F)
  | [], [], _, a, F => ∀ w, S w → Below w0.heap.size w0 w → allF F w → wpListIn Φ r P ops Q tail a w
  | _, _, _, _, _ => False

section
variable {Φ : Fence} {r : Nat} {P : Program} {ops : Array Oper} {S : World → Prop} {w0 : World} {Q : Exit → Act → World → Prop} {tail : List Oper}

theorem flow_lenI {vs : Nat → Value} : ∀ {l : List Oper} {sp : List Spec} {k : Nat} {a : Act} {F : List (Nat × (World → Prop))}, FlowI Φ r P ops S w0 Q tail vs l sp k a F → sp.length = l.length
  | [], [], _, _, _, _ => rfl
  | [], _ :: _, _, _, _, h => h.elim
  | _ :: _, [], _, _, _, h => h.elim
  | _ :: _, _ :: _, _, _, _, h => by simp [flow_lenI h.2]

theorem flow_atI {vs : Nat → Value} : ∀ {l : List Oper} {sp : List Spec} {k : Nat} {a : Act} {F : List (Nat × (World → Prop))}, FlowI Φ r P ops S w0 Q tail vs l sp k a F →
    (∀ m c, sp[m]? = some (.inl c) → vs (k + m) = c) → ∀ (j : Nat) (o : Oper) (s : Spec), l[j]? = some o → sp[j]? = some s → ∀ w, S w → Below w0.heap.size w0 w →
    (∀ p ∈ F, waitsB o p.1 = true → p.2 w) → (∀ (m : Nat) (R : Value → World → Prop), m < j → sp[m]? = some (Sum.inr R) → waitsB o (k + m) = true → R (vs (k + m)) w) →
    opOk P ops o (lexA vs (l.take j) k a) w (specR s)
  | [], _, _, _, _, _, _, _, _, _, h, _ => by simp at h
  | _ :: _, [], _, _, _, h, _, _, _, _, _, _ => h.elim
  | o' :: l, s' :: sp, k, a, F, h, hc, 0, o, s, ho, hs => fun w hS hB hF _ => by
    simp at ho hs
    subst ho
    subst hs
    exact h.1 w hS hB (facts_of hF)
  | o' :: l, s' :: sp, k, a, F, h, hc, j + 1, o, s, ho, hs => fun w hS hB hF hR => by
    have e : specV s' (vs k) = vs k := by
      cases s' with
      | inl c => exact (hc 0 c rfl).symm
      | inr R => rfl
    have h2 := h.2
    rw [e] at h2
    rw [List.take_succ_cons, lexA]
    refine flow_atI h2 (fun m c hm => by rw [show k + 1 + m = k + (m + 1) by omega]; exact hc (m + 1) c (by simpa using hm)) j o s (by simpa using ho) (by simpa using hs) w hS hB ?_ ?_
    · intro p hp hw
      rcases mem_addF hp with hp | ⟨R, rfl, rfl⟩
      · exact hF p hp hw
      · exact hR 0 R (by omega) rfl hw
    · intro m R hm hsp hw
      rw [show k + 1 + m = k + (m + 1) by omega] at hw ⊢
      exact hR (m + 1) R (by omega) (by simpa using hsp) hw

theorem flow_endI {vs : Nat → Value} : ∀ {l : List Oper} {sp : List Spec} {k : Nat} {a : Act} {F : List (Nat × (World → Prop))}, FlowI Φ r P ops S w0 Q tail vs l sp k a F →
    (∀ m c, sp[m]? = some (.inl c) → vs (k + m) = c) → ∀ w, S w → Below w0.heap.size w0 w → (∀ p ∈ F, p.2 w) → (∀ (m : Nat) (R : Value → World → Prop), sp[m]? = some (Sum.inr R) → R (vs (k + m)) w) →
    wpListIn Φ r P ops Q tail (lexA vs l k a) w
  | [], [], _, _, _, h, _ => fun w hS hB hF _ => h w hS hB (allF_of hF)
  | [], _ :: _, _, _, _, h, _ => h.elim
  | _ :: _, [], _, _, _, h, _ => h.elim
  | o' :: l, s' :: sp, k, a, F, h, hc => fun w hS hB hF hR => by
    have e : specV s' (vs k) = vs k := by
      cases s' with
      | inl c => exact (hc 0 c rfl).symm
      | inr R => rfl
    have h2 := h.2
    rw [e] at h2
    rw [lexA]
    refine flow_endI h2 (fun m c hm => by rw [show k + 1 + m = k + (m + 1) by omega]; exact hc (m + 1) c (by simpa using hm)) w hS hB ?_ ?_
    · intro p hp
      rcases mem_addF hp with hp | ⟨R, rfl, rfl⟩
      · exact hF p hp
      · exact hR 0 R rfl
    · intro m R hsp
      rw [show k + 1 + m = k + (m + 1) by omega]
      exact hR (m + 1) R (by simpa using hsp)

/-- In order, behind all of the rest. -/
theorem tail_anyI {n0 : Nat} (hc : Region.chainB .any ops n0 = true) (hE : ∀ i o, ops[i]? = some o → ∀ e ∈ o.after, Region.binds .any e = true → e.on < i) :
    ∀ (fuel k : Nat) (listed : Array Bool) (a : Act) (w : World), n0 ≤ k → k ≤ ops.size → ops.size ≤ k + fuel → listed.size = ops.size →
    (∀ i, i < k → listed.getD i false = true) → (∀ i, k ≤ i → i < ops.size → listed.getD i true = false) → wpListIn Φ r P ops Q (ops.toList.drop k) a w → wpAnyIn Φ r P .any ops Q fuel listed a w
  | 0, k, listed, a, w, hk, hkl, hf, hs, h1, h2, h => by
    have hk' : k = ops.size := by omega
    subst hk'
    rw [List.drop_of_length_le (by simp)] at h
    refine ⟨List.eq_nil_iff_forall_not_mem.2 fun i hi => ?_, h⟩
    obtain ⟨hu, o, ho, _⟩ := unfold_ready hi
    have := h1 i (Array.getElem?_eq_some_iff.1 ho).1
    rw [getD_both hu] at this
    cases this
  | fuel + 1, k, listed, a, w, hk, hkl, hf, hs, h1, h2, h => by
    by_cases hend : k = ops.size
    · subst hend
      rw [List.drop_of_length_le (by simp)] at h
      refine ⟨fun _ => h, fun i hi => ?_⟩
      obtain ⟨hu, o, ho, _⟩ := unfold_ready hi
      have := h1 i (Array.getElem?_eq_some_iff.1 ho).1
      rw [getD_both hu] at this
      cases this
    have hks : k < ops.size := by omega
    have hok : ops[k]? = some ops[k] := Array.getElem?_eq_getElem hks
    have hrk : k ∈ Region.ready .any ops listed := mem_ready.2 ⟨h2 k (Nat.le_refl _) hks, _, hok, fun e he hb => h1 _ (hE k _ hok e he hb)⟩
    refine ⟨fun h0 => (by rw [h0] at hrk; cases hrk), fun i hi => ?_⟩
    obtain ⟨hu, o, ho, hall⟩ := unfold_ready hi
    have his : i < ops.size := (Array.getElem?_eq_some_iff.1 ho).1
    have hik : i = k := by
      have hge : k ≤ i := by
        rcases Nat.lt_or_ge i k with h' | h'
        · have := h1 i h'; rw [getD_both hu] at this; cases this
        · exact h'
      rcases Nat.lt_or_ge k i with h' | h'
      · exfalso
        have := List.all_eq_true.1 hc i (List.mem_range.2 his)
        simp only [Bool.or_eq_true, decide_eq_true_eq] at this
        rcases this with h3 | h3
        · omega
        · obtain ⟨o', ho', e, he, hb, hon⟩ := Region.waitsFor_spec h3
          have : o' = o := Option.some.inj (ho'.symm.trans ho)
          subst this
          have h4 := hall e he hb
          rw [hon, getD_both (h2 (i - 1) (by omega) (by omega))] at h4
          cases h4
      · omega
    subst hik
    have hd : ops.toList.drop i = ops[i] :: ops.toList.drop (i + 1) := by
      rw [List.drop_eq_getElem_cons (by simpa using hks)]
      simp
    rw [hd] at h
    have ih : ∀ a' w', wpListIn Φ r P ops Q (ops.toList.drop (i + 1)) a' w' → wpAnyIn Φ r P .any ops Q fuel (listed.setIfInBounds i true) a' w' := fun a' w' h' =>
      tail_anyI hc hE fuel (i + 1) _ a' w' (by omega) (by omega) (by omega) (by simpa using hs)
        (fun j hj => by
          by_cases e : i = j
          · subst e; simp [Array.getD, hs, hks]
          · rw [getD_set_ne false e]; exact h1 j (by omega))
        (fun j hj hjs => by rw [getD_set_ne true (by omega)]; exact h2 j (by omega) hjs) h'
    unfold wpOpIn
    rw [hok]
    simp only [wpListIn] at h
    show if Region.wanted ops[i] (yielded ops a.tmps) = true then _ else _
    split
    · rename_i hw
      rw [if_pos hw] at h
      exact Oper.wpIn_mono ih h
    · rename_i hw
      rw [if_neg hw] at h
      exact ⟨h.1, ih _ _ h.2⟩

theorem flow_anyI (hΦ : Wide Φ) {l : List Oper} {sp : List Spec} {a0 : Act} (hops : ops = (l ++ tail).toArray) (hnod : noDeferB ops = true) (hB : flowB l tail a0.tmps.size = true)
    (hS : ∀ w w', S w → Below w.heap.size w w' → S w')
    (hR : ∀ (m : Nat) (R : Value → World → Prop), sp[m]? = some (Sum.inr R) → ∀ v w w', R v w → Below w.heap.size w w' → R v w')
    (hF : ∀ vs, FlowI Φ r P ops S w0 Q tail vs l sp 0 a0 []) :
    ∀ (fuel : Nat) (listed : Array Bool) (a : Act) (w : World), unlisted ops listed ≤ fuel → w0.heap.size ≤ w.heap.size → Inv P ops S w0 l sp a0 listed a w → wpAnyIn Φ r P .any ops Q fuel listed a w := by
  subst hops
  have hlen : sp.length = l.length := flow_lenI (hF fun _ => undef)
  simp only [flowB, Bool.and_eq_true, decide_eq_true_eq] at hB
  obtain ⟨⟨⟨⟨⟨⟨⟨hsink, hchain⟩, htl⟩, hsel⟩, hedge⟩, hnd⟩, hdst'⟩, hlook⟩ := hB
  have hsz : (l ++ tail).toArray.size = l.length + tail.length := by simp
  have hE : ∀ i o, (l ++ tail).toArray[i]? = some o → ∀ e ∈ o.after, Region.binds .any e = true → e.on < i := by
    intro i o ho e he hb
    have hm : (o, i) ∈ (l ++ tail).zipIdx := by
      rw [List.mem_zipIdx_iff_getElem?]
      simpa using ho
    have h1 := List.all_eq_true.1 hedge _ hm
    have h2 := Array.all_eq_true'.1 h1 e he
    simpa [hb] using h2
  have hin : ∀ i, i < l.length → ∀ o, (l ++ tail).toArray[i]? = some o → l[i]? = some o := by
    intro i hi o ho
    simpa [List.getElem?_append_left hi] using ho
  have hdst : ∀ (m : Nat) (o : Oper) (d : Nat), l[m]? = some o → o.dst = some d → d < a0.tmps.size := by
    intro m o d hm hd
    have := List.all_eq_true.1 hdst' o (List.mem_of_getElem? hm)
    simpa [hd] using this
  have hlook' : ∀ (i m : Nat) (o o' : Oper) (t : Nat), l[i]? = some o → l[m]? = some o' → o'.dst = some t → t ∈ o.looksAt (l ++ tail).toArray → waitsB o m = true := by
    intro i m o o' t hi hm hd ht
    have h1 := List.all_eq_true.1 hlook (o, i) (by rw [List.mem_zipIdx_iff_getElem?]; simpa using hi)
    have h2 := List.all_eq_true.1 h1 t ht
    have h3 := List.all_eq_true.1 h2 (o', m) (by rw [List.mem_zipIdx_iff_getElem?]; simpa using hm)
    simpa [hd] using h3
  intro fuel
  induction fuel with
  | zero =>
    intro listed a w hle _ inv
    exfalso
    have h1 := inv.head.tail l.length (Nat.le_refl _) (by omega)
    have : l.length ∈ (List.range (l ++ tail).toArray.size).filter fun i => !listed.getD i true := List.mem_filter.2 ⟨List.mem_range.2 (by omega), by simp [h1]⟩
    have h2 := List.length_pos_of_mem this
    unfold unlisted at hle
    omega
  | succ fuel ih =>
    intro listed a w hle hw0 inv
    obtain ⟨vs, v1, v2, v3, v4⟩ := inv.vals
    by_cases hall : ∀ i, i < l.length → listed.getD i false = true
    · have ha : a = lexA vs l 0 a0 := by
        refine act_ext (by rw [lexA_defers]; exact inv.defers) (by rw [lexA_size]; exact inv.size) fun t => ?_
        by_cases hex : ∃ (m : Nat) (o : Oper), l[m]? = some o ∧ o.dst = some t
        · obtain ⟨m, o, hm, hd⟩ := hex
          rw [v3 m o t hm (hall m (List.getElem?_eq_some_iff.1 hm).1) hd, lexA_at vs l 0 a0 m o t hnd hm hd (hdst m o t hm hd), Nat.zero_add]
        · rw [lexA_ne vs l 0 a0 t (fun o ho hd => hex (by obtain ⟨m, hm⟩ := List.mem_iff_getElem?.1 ho; exact ⟨m, o, hm, hd⟩))]
          exact v4 t fun m o hm _ hd => hex ⟨m, o, hm, hd⟩
      have hend := flow_endI (hF vs) (fun m c hm => by rw [Nat.zero_add]; exact v1 m c hm) w inv.s inv.grown (fun p hp => by cases hp) (fun m R hm => by
        rw [Nat.zero_add]
        exact v2 m R hm (hall m (by have := (List.getElem?_eq_some_iff.1 hm).1; omega)))
      rw [← ha] at hend
      refine tail_anyI hchain hE (fuel + 1) l.length listed a w (Nat.le_refl _) (by omega) ?_ inv.head.size hall (fun i h1 h2 => inv.head.tail i h1 h2) (by simpa using hend)
      have hsub : tail.length ≤ unlisted (l ++ tail).toArray listed := by
        unfold unlisted
        have e1 : List.range (l ++ tail).toArray.size = List.range l.length ++ List.range' l.length tail.length := by
          rw [hsz, List.range_eq_range', List.range_eq_range']
          exact (List.range'_append_1 (s := 0) (m := l.length) (n := tail.length) |>.symm.trans (by simp))
        have e2 : (List.range' l.length tail.length).filter (fun i => !listed.getD i true) = List.range' l.length tail.length := List.filter_eq_self.2 fun x hx => by
          have := List.mem_range'_1.1 hx
          simp [inv.head.tail x this.1 (by omega)]
        rw [e1, List.filter_append, e2]
        simp
      omega
    · simp only [Classical.not_forall] at hall
      obtain ⟨j, hj, hjl⟩ := hall
      have hju : listed.getD j true = false := getD_in (by rw [inv.head.size]; omega) (by simpa using hjl)
      obtain ⟨rr, hr⟩ := exists_ready hE inv.head.size (j + 1) j (by omega) (by omega) hju
      refine ⟨fun h0 => (by rw [h0] at hr; cases hr), fun i hi => ?_⟩
      obtain ⟨hu, o, ho, hwt⟩ := unfold_ready hi
      have hil : i < l.length := by
        rcases Nat.lt_or_ge i l.length with h | h
        · exact h
        · exact absurd hi (tail_waits hsink hchain (by omega) inv.head _ j rfl hj hju i h)
      have hol := hin i hil o ho
      obtain ⟨s, hsp⟩ : ∃ s, sp[i]? = some s := ⟨_, List.getElem?_eq_getElem (by omega)⟩
      have hwaits : ∀ m, waitsB o m = true → listed.getD m false = true ∧ m < i := by
        intro m hm
        obtain ⟨e, he, hb⟩ := List.any_eq_true.1 hm
        rw [Array.mem_toList_iff] at he
        simp only [Bool.and_eq_true, beq_iff_eq] at hb
        have h1 := hwt e he hb.1
        have h2 := hE i o ho e he hb.1
        rw [hb.2] at h1 h2
        exact ⟨h1, h2⟩
      have hop := flow_atI (hF vs) (fun m c hm => by rw [Nat.zero_add]; exact v1 m c hm) i o s hol hsp w inv.s inv.grown (fun p hp => by cases hp) (fun m R hmi hm hw => by
        rw [Nat.zero_add] at hw ⊢
        exact v2 m R hm (hwaits m hw).1)
      have hslots : ∀ t : Nat, t ∈ o.looksAt (l ++ tail).toArray → a.tmps[t]? = (lexA vs (l.take i) 0 a0).tmps[t]? := by
        intro t ht
        by_cases hex : ∃ (m : Nat) (o' : Oper), l[m]? = some o' ∧ o'.dst = some t
        · obtain ⟨m, o', hm, hd⟩ := hex
          have hw := hwaits m (hlook' i m o o' t hol hm hd ht)
          rw [v3 m o' t hm hw.1 hd, lexA_at vs (l.take i) 0 a0 m o' t ?_ ?_ hd (hdst m o' t hm hd), Nat.zero_add]
          · exact hnd.sublist ((List.take_sublist i l).filterMap _)
          · rw [List.getElem?_take, if_pos hw.2]; exact hm
        · rw [lexA_ne vs (l.take i) 0 a0 t (fun o' ho' hd => hex (by obtain ⟨m, hm⟩ := List.mem_iff_getElem?.1 (List.mem_of_mem_take ho'); exact ⟨m, o', hm, hd⟩))]
          exact v4 t fun m o' hm _ hd => hex ⟨m, o', hm, hd⟩
      have hwd := wanted_of_slots (ops := (l ++ tail).toArray) hslots
      have hex : execOp a.eval o = execOp (lexA vs (l.take i) 0 a0).eval o := execOp_congr o (fun cs b => Region.noSelect_spec hsel i o cs b ho) fun x hx =>
        eval_of_slots fun t ht => hslots t (List.mem_append_left _ (List.mem_filterMap.2 ⟨x, by simpa using hx, by rw [ht]⟩))
      have hless : unlisted (l ++ tail).toArray (listed.setIfInBounds i true) ≤ fuel := by
        have := unlisted_set (ops := (l ++ tail).toArray) (listed := listed) (i := i) (by omega) inv.head.size hu
        omega
      have next : ∀ v w', Below w.heap.size w w' → specR s v w' → wpAnyIn Φ r P .any (l ++ tail).toArray Q fuel (listed.setIfInBounds i true) (a.put o.dst v) w' := fun v w' hb hv =>
        ih _ _ _ hless (Nat.le_trans hw0 hb.size) (inv.step hS hR hw0 hnd hdst hi hil hol hsp hb hv)
      unfold wpOpIn
      rw [ho]
      unfold opOk at hop
      rw [← hwd, ← hex] at hop
      show if Region.wanted o (yielded (l ++ tail).toArray a.tmps) = true then _ else _
      split
      · rename_i hw
        rw [if_pos hw] at hop
        unfold Oper.wpIn
        refine ⟨fun f _ => hΦ.fn f, ?_⟩
        rw [semAt_all Φ _ o (noDefer_spec hnod ho)]
        generalize (execOp a.eval o).run P w = z at *
        cases z with
        | ok n w' =>
          cases n <;> simp only [upOk] at hop <;> simp only [Oper.uponIn]
          case value u => exact next _ _ hop.1 hop.2
          case skip => exact next _ _ hop.1 hop.2
          case enter f args => exact ⟨fun h => (by rw [hΦ.depth] at h; cases h), CallsIn.mono (hΦ.calls hop) fun e w'' ⟨v, he, hb, hv⟩ => by subst he; exact next _ _ hb hv⟩
        | halt x w' => simp only [upOk] at hop
      · rename_i hw
        rw [if_neg hw] at hop
        exact ⟨fun f _ => hΦ.fn f, next _ _ (Below.refl _ _) hop⟩

/-- **The region's law.** -/
theorem wpIn_flow (hΦ : Wide Φ) {id : Nat} {l : List Oper} {a : Act} {w : World} (S : World → Prop) (sp : List Spec) (hm : P.follows .mixedOrders = true) (hnod : noDeferB (l ++ tail).toArray = true) (hB : flowB l tail a.tmps.size = true)
    (hS0 : S w.drew) (hS : ∀ w w', S w → Below w.heap.size w w' → S w')
    (hR : ∀ (m : Nat) (R : Value → World → Prop), sp[m]? = some (Sum.inr R) → ∀ v w w', R v w → Below w.heap.size w w' → R v w')
    (hF : ∀ vs, FlowI Φ r P (l ++ tail).toArray S w Q tail vs l sp 0 a []) : (Code.region id (l ++ tail).toArray true).wpIn Φ r P Q a w := by
  refine wpIn_region_any hm ?_
  refine flow_anyI hΦ rfl hnod hB hS hR hF _ _ a w.drew ?_ (Nat.le_refl _) ?_
  · unfold unlisted
    exact Nat.le_trans (List.length_filter_le _ _) (by simp)
  · refine ⟨⟨by simp, fun j oj _ hl => (by rw [getD_replicate_false] at hl; cases hl), fun t _ ht => by simp [Array.getD] at ht ⊢; omega⟩, hS0, (Below.refl _ _).drew,
      ⟨fun m => match sp[m]? with | some (Sum.inl c) => c | _ => undef, fun m c hm => by simp [hm], fun m R _ hl => (by rw [getD_replicate_false] at hl; cases hl), fun m o d _ hl => (by rw [getD_replicate_false] at hl; cases hl), fun t _ => rfl⟩, rfl, rfl⟩

/-- The same, the known values found on the way: each is there for all values of the others. -/
def FlowIE (Φ : Fence) (r : Nat) (P : Program) (ops : Array Oper) (S : World → Prop) (w0 : World) (Q : Exit → Act → World → Prop) (tail : List Oper) : List Oper → List (Option (Value → World → Prop)) → Nat → ((Nat → Value) → Act) → ((Nat → Value) → List (Nat × (World → Prop))) → Prop
  | o :: rest, none :: sp, k, A, F => ∃ c, (∀ vs w, S w → Below w0.heap.size w0 w → facts o (F vs) w → opOk P ops o (A vs) w (specR (.inl c))) ∧
      FlowIE Φ r P ops S w0 Q tail rest sp (k + 1) (fun vs => (A vs).put o.dst c) F
  | o :: rest, some R :: sp, k, A, F => (∀ vs w, S w → Below w0.heap.size w0 w → facts o (F vs) w → opOk P ops o (A vs) w (specR (.inr R))) ∧
      FlowIE Φ r P ops S w0 Q tail rest sp (k + 1) (fun vs => (A vs).put o.dst (vs k)) (fun vs => (k, R (vs k)) :: F vs)
  | [], [], _, A, F => ∀ vs w, S w → Below w0.heap.size w0 w → allF (F vs) w → wpListIn Φ r P ops Q tail (A vs) w
  | _, _, _, _, _ => False

theorem flow_of_EI : ∀ {l : List Oper} {sp : List (Option (Value → World → Prop))} {k : Nat} {A : (Nat → Value) → Act} {F : (Nat → Value) → List (Nat × (World → Prop))},
    StabE sp → FlowIE Φ r P ops S w0 Q tail l sp k A F → ∃ sp' : List Spec, Stab sp' ∧ ∀ vs, FlowI Φ r P ops S w0 Q tail vs l sp' k (A vs) (F vs)
  | [], [], _, _, _, _, h => ⟨[], trivial, fun vs => h vs⟩
  | [], _ :: _, _, _, _, _, h => h.elim
  | _ :: _, [], _, _, _, _, h => h.elim
  | o :: l, none :: sp, k, A, F, hs, h => by
    obtain ⟨c, h1, h2⟩ := h
    obtain ⟨sp', hs', h3⟩ := flow_of_EI (sp := sp) hs h2
    exact ⟨.inl c :: sp', hs', fun vs => ⟨h1 vs, h3 vs⟩⟩
  | o :: l, some R :: sp, k, A, F, hs, h => by
    obtain ⟨h1, h2⟩ := h
    obtain ⟨sp', hs', h3⟩ := flow_of_EI (sp := sp) hs.2 h2
    exact ⟨.inr R :: sp', ⟨hs.1, hs'⟩, fun vs => ⟨h1 vs, h3 vs⟩⟩

/-- A region that is written out: its first n operations in whatever order, the rest in order behind them. -/
theorem wpIn_flow_lit (hΦ : Wide Φ) {id : Nat} {L : List Oper} {a : Act} {w : World} (n : Nat) (S : World → Prop) (sp : List (Option (Value → World → Prop))) (hm : P.follows .mixedOrders = true) (hnod : noDeferB L.toArray = true) (hB : flowB (L.take n) (L.drop n) a.tmps.size = true)
    (hS0 : S w.drew) (hS : ∀ w w', S w → Below w.heap.size w w' → S w')
    (hR : StabE sp)
    (hF : FlowIE Φ r P L.toArray S w Q (L.drop n) (L.take n) sp 0 (fun _ => a) (fun _ => [])) : (Code.region id L.toArray true).wpIn Φ r P Q a w := by
  obtain ⟨sp', hs', h3⟩ := flow_of_EI hR hF
  have h := wpIn_flow (Φ := Φ) (r := r) hΦ (P := P) (Q := Q) (id := id) (l := L.take n) (tail := L.drop n) (a := a) (w := w) S sp' hm (by rw [List.take_append_drop]; exact hnod) hB hS0 hS (stab_of hs')
  rw [List.take_append_drop] at h
  exact h h3
end
end Go.Proofs.YtnmjglnllokklaaDoor
