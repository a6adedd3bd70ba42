/- XFlow over any relation of worlds that holds of each and itself, joins, and lets draws by; nothing need stand behind the operations in whatever order. Printed by mk_flowh.py. No program in it. -/
import Derived.Test.YtjimkkkiilcpoaaFlowG
set_option linter.unusedVariables false
set_option linter.unusedSimpArgs false
namespace Go.Proofs.Ytjimkkkiilcpoaa.FH
open Go.RowKit Go.Proofs.Ytjimkkkiilcpoaa

def flowH (l tail : List Oper) (size : Nat) : Bool :=
  let ops := (l ++ tail).toArray
  (decide (tail.length = 0) || (Region.sinkB .any ops l.length && Region.chainB .any ops l.length && decide (0 < tail.length))) && Region.noSelect ops &&
  (ops.toList.zipIdx.all fun (o, i) => o.after.all fun e => !Region.binds .any e || decide (e.on < i)) &&
  decide ((l.filterMap (·.dst)).Nodup) && (l.all fun o => match o.dst with | some d => decide (d < size) | none => true) &&
  (l.zipIdx.all fun (o, _) => (o.looksAt ops).all fun t => l.zipIdx.all fun (o', k) => o'.dst != some t || waitsB o k)

def FlowP (G : World → World → Prop) (P : Program) (ops : Array Oper) (S : World → Prop) (w0 : World) (Q : Exit → Act → World → Prop) (tail : List Oper) (vs : Nat → Value) : List Oper → List Spec → Nat → Act → List (Nat × (World → Prop)) → Prop
  | o :: rest, s :: sp, k, a, F => (∀ w, S w → G w0 w → facts o F w → FG.opOk G P ops o a w (specR s)) ∧
      FlowP G P ops S w0 Q tail vs rest sp (k + 1) (a.put o.dst (specV s (vs k))) (addF s k (vs k) F)
  | [], [], _, a, F => ∀ w, S w → G w0 w → allF F w → wpList P ops Q tail a w
  | _, _, _, _, _ => False

section
variable {P : Program} {ops : Array Oper} {S : World → Prop} {w0 : World} {Q : Exit → Act → World → Prop} {tail : List Oper} {G : World → World → Prop}

theorem flow_len {vs : Nat → Value} : ∀ {l : List Oper} {sp : List Spec} {k : Nat} {a : Act} {F : List (Nat × (World → Prop))}, FlowP G P ops S w0 Q tail vs l sp k a F → sp.length = l.length
  | [], [], _, _, _, _ => rfl
  | [], _ :: _, _, _, _, h => h.elim
  | _ :: _, [], _, _, _, h => h.elim
  | _ :: _, _ :: _, _, _, _, h => by simp [flow_len h.2]

theorem flow_at {vs : Nat → Value} : ∀ {l : List Oper} {sp : List Spec} {k : Nat} {a : Act} {F : List (Nat × (World → Prop))}, FlowP G P ops S w0 Q tail vs l sp k a F →
    (∀ m c, sp[m]? = some (.inl c) → vs (k + m) = c) → ∀ (j : Nat) (o : Oper) (s : Spec), l[j]? = some o → sp[j]? = some s → ∀ w, S w → G w0 w →
    (∀ p ∈ F, waitsB o p.1 = true → p.2 w) → (∀ (m : Nat) (R : Value → World → Prop), m < j → sp[m]? = some (Sum.inr R) → waitsB o (k + m) = true → R (vs (k + m)) w) →
    FG.opOk G P ops o (lexA vs (l.take j) k a) w (specR s)
  | [], _, _, _, _, _, _, _, _, _, h, _ => by simp at h
  | _ :: _, [], _, _, _, h, _, _, _, _, _, _ => h.elim
  | o' :: l, s' :: sp, k, a, F, h, hc, 0, o, s, ho, hs => fun w hS hB hF _ => by
    simp at ho hs
    subst ho
    subst hs
    exact h.1 w hS hB (facts_of hF)
  | o' :: l, s' :: sp, k, a, F, h, hc, j + 1, o, s, ho, hs => fun w hS hB hF hR => by
    have e : specV s' (vs k) = vs k := by
      cases s' with
      | inl c => exact (hc 0 c rfl).symm
      | inr R => rfl
    have h2 := h.2
    rw [e] at h2
    rw [List.take_succ_cons, lexA]
    refine flow_at h2 (fun m c hm => by rw [show k + 1 + m = k + (m + 1) by omega]; exact hc (m + 1) c (by simpa using hm)) j o s (by simpa using ho) (by simpa using hs) w hS hB ?_ ?_
    · intro p hp hw
      rcases mem_addF hp with hp | ⟨R, rfl, rfl⟩
      · exact hF p hp hw
      · exact hR 0 R (by omega) rfl hw
    · intro m R hm hsp hw
      rw [show k + 1 + m = k + (m + 1) by omega] at hw ⊢
      exact hR (m + 1) R (by omega) (by simpa using hsp) hw

theorem flow_end {vs : Nat → Value} : ∀ {l : List Oper} {sp : List Spec} {k : Nat} {a : Act} {F : List (Nat × (World → Prop))}, FlowP G P ops S w0 Q tail vs l sp k a F →
    (∀ m c, sp[m]? = some (.inl c) → vs (k + m) = c) → ∀ w, S w → G w0 w → (∀ p ∈ F, p.2 w) → (∀ (m : Nat) (R : Value → World → Prop), sp[m]? = some (Sum.inr R) → R (vs (k + m)) w) →
    wpList P ops Q tail (lexA vs l k a) w
  | [], [], _, _, _, h, _ => fun w hS hB hF _ => h w hS hB (allF_of hF)
  | [], _ :: _, _, _, _, h, _ => h.elim
  | _ :: _, [], _, _, _, h, _ => h.elim
  | o' :: l, s' :: sp, k, a, F, h, hc => fun w hS hB hF hR => by
    have e : specV s' (vs k) = vs k := by
      cases s' with
      | inl c => exact (hc 0 c rfl).symm
      | inr R => rfl
    have h2 := h.2
    rw [e] at h2
    rw [lexA]
    refine flow_end h2 (fun m c hm => by rw [show k + 1 + m = k + (m + 1) by omega]; exact hc (m + 1) c (by simpa using hm)) w hS hB ?_ ?_
    · intro p hp
      rcases mem_addF hp with hp | ⟨R, rfl, rfl⟩
      · exact hF p hp
      · exact hR 0 R rfl
    · intro m R hsp
      rw [show k + 1 + m = k + (m + 1) by omega]
      exact hR (m + 1) R (by simpa using hsp)

/-- What is known at any time, in whatever order. -/
structure Inv (G : World → World → Prop) (P : Program) (ops : Array Oper) (S : World → Prop) (w0 : World) (l : List Oper) (sp : List Spec) (a0 : Act) (listed : Array Bool) (a : Act) (w : World) : Prop where
  head : HeadInv .any ops l.length listed
  s : S w
  grown : G w0 w
  vals : ∃ vs : Nat → Value, (∀ m c, sp[m]? = some (Sum.inl c) → vs m = c) ∧
    (∀ (m : Nat) (R : Value → World → Prop), sp[m]? = some (Sum.inr R) → listed.getD m false = true → R (vs m) w) ∧
    (∀ m o d, l[m]? = some o → listed.getD m false = true → o.dst = some d → a.tmps[d]? = some (vs m)) ∧
    (∀ t : Nat, (∀ m o, l[m]? = some o → listed.getD m false = true → o.dst ≠ some t) → a.tmps[t]? = a0.tmps[t]?)
  size : a.tmps.size = a0.tmps.size
  defers : a.defers = a0.defers

theorem Inv.step (hG : FG.Pre G) {l : List Oper} {sp : List Spec} {a0 : Act} {listed : Array Bool} {a : Act} {w w' : World} {i : Nat} {o : Oper} {s : Spec} {v : Value}
    (hS : ∀ w w', S w → G w w' → S w')
    (hR : ∀ (m : Nat) (R : Value → World → Prop), sp[m]? = some (Sum.inr R) → ∀ v w w', R v w → G w w' → R v w')
    (hnd : (l.filterMap (·.dst)).Nodup) (hdst : ∀ (m : Nat) (o : Oper) (d : Nat), l[m]? = some o → o.dst = some d → d < a0.tmps.size)
    (inv : Inv G P ops S w0 l sp a0 listed a w) (hi : i ∈ Region.ready .any ops listed) (hil : i < l.length) (ho : l[i]? = some o) (hs : sp[i]? = some s)
    (hb : G w w') (hv : specR s v w') : Inv G P ops S w0 l sp a0 (listed.setIfInBounds i true) (a.put o.dst v) w' := by
  obtain ⟨vs, v1, v2, v3, v4⟩ := inv.vals
  have hun := (unfold_ready hi).1
  have his : i < listed.size := by
    rcases Nat.lt_or_ge i listed.size with h' | h'
    · exact h'
    · simp [Array.getD, Nat.not_lt.2 h'] at hun
  refine ⟨inv.head.set hi hil, hS _ _ inv.s hb, hG.trans inv.grown hb, ⟨fun m => if m = i then v else vs m, ?_, ?_, ?_, ?_⟩, by rw [put_size]; exact inv.size, by rw [put_defers']; exact inv.defers⟩
  · intro m c hm
    by_cases e : m = i
    · subst e
      rw [hs] at hm
      cases hm
      show (if m = m then v else vs m) = c
      rw [if_pos rfl]
      exact hv
    · simpa [e] using v1 m c hm
  · intro m R hm hl
    by_cases e : m = i
    · subst e
      rw [hs] at hm
      cases hm
      show R (if m = m then v else vs m) w'
      rw [if_pos rfl]
      exact hv
    · rw [getD_set_ne false (fun h => e h.symm)] at hl
      simpa [e] using hR m R hm _ _ _ (v2 m R hm hl) hb
  · intro m o' d hm hl hd
    by_cases e : m = i
    · subst e
      rw [ho] at hm
      cases hm
      rw [hd, put_at _ _ _ (by rw [inv.size]; exact hdst _ _ _ ho hd)]
      simp
    · rw [getD_set_ne false (fun h => e h.symm)] at hl
      rw [put_ne _ _ _ _ (fun h => e (dst_inj hnd hm ho hd h))]
      simpa [e] using v3 m o' d hm hl hd
  · intro t ht
    rw [put_ne _ _ _ _ (fun h => ht i o ho (by simp [Array.getD, his]) h)]
    refine v4 t fun m o' hm hl => ht m o' hm ?_
    exact getD_set_true hl

theorem flow_any (hG : FG.Pre G) {l : List Oper} {sp : List Spec} {a0 : Act} (hops : ops = (l ++ tail).toArray) (hB : flowH l tail a0.tmps.size = true)
    (hS : ∀ w w', S w → G w w' → S w')
    (hR : ∀ (m : Nat) (R : Value → World → Prop), sp[m]? = some (Sum.inr R) → ∀ v w w', R v w → G w w' → R v w')
    (hF : ∀ vs, FlowP G P ops S w0 Q tail vs l sp 0 a0 []) :
    ∀ (fuel : Nat) (listed : Array Bool) (a : Act) (w : World), unlisted ops listed ≤ fuel → Inv G P ops S w0 l sp a0 listed a w → wpAny P .any ops Q fuel listed a w := by
  subst hops
  have hlen : sp.length = l.length := flow_len (hF fun _ => undef)
  simp only [flowH, Bool.or_eq_true, Bool.and_eq_true, decide_eq_true_eq] at hB
  obtain ⟨⟨⟨⟨⟨hsc, hsel⟩, hedge⟩, hnd⟩, hdst'⟩, hlook⟩ := hB
  have hsz : (l ++ tail).toArray.size = l.length + tail.length := by simp
  have hE : ∀ i o, (l ++ tail).toArray[i]? = some o → ∀ e ∈ o.after, Region.binds .any e = true → e.on < i := by
    intro i o ho e he hb
    have hm : (o, i) ∈ (l ++ tail).zipIdx := by
      rw [List.mem_zipIdx_iff_getElem?]
      simpa using ho
    have h1 := List.all_eq_true.1 hedge _ hm
    have h2 := Array.all_eq_true'.1 h1 e he
    simpa [hb] using h2
  have hin : ∀ i, i < l.length → ∀ o, (l ++ tail).toArray[i]? = some o → l[i]? = some o := by
    intro i hi o ho
    simpa [List.getElem?_append_left hi] using ho
  have hdst : ∀ (m : Nat) (o : Oper) (d : Nat), l[m]? = some o → o.dst = some d → d < a0.tmps.size := by
    intro m o d hm hd
    have := List.all_eq_true.1 hdst' o (List.mem_of_getElem? hm)
    simpa [hd] using this
  have hlook' : ∀ (i m : Nat) (o o' : Oper) (t : Nat), l[i]? = some o → l[m]? = some o' → o'.dst = some t → t ∈ o.looksAt (l ++ tail).toArray → waitsB o m = true := by
    intro i m o o' t hi hm hd ht
    have h1 := List.all_eq_true.1 hlook (o, i) (by rw [List.mem_zipIdx_iff_getElem?]; simpa using hi)
    have h2 := List.all_eq_true.1 h1 t ht
    have h3 := List.all_eq_true.1 h2 (o', m) (by rw [List.mem_zipIdx_iff_getElem?]; simpa using hm)
    simpa [hd] using h3
  have hchain : Region.chainB .any (l ++ tail).toArray l.length = true := by
    rcases hsc with h | h
    · have htl : tail = [] := List.eq_nil_of_length_eq_zero h
      subst htl
      refine List.all_eq_true.2 fun i hi => ?_
      have := List.mem_range.1 hi
      simp at this
      simp only [Bool.or_eq_true, decide_eq_true_eq]
      left
      omega
    · exact h.1.2
  have hend : ∀ (fuel : Nat) (listed : Array Bool) (a : Act) (w : World), (∀ i, i < l.length → listed.getD i false = true) → unlisted (l ++ tail).toArray listed ≤ fuel → Inv G P (l ++ tail).toArray S w0 l sp a0 listed a w → wpAny P .any (l ++ tail).toArray Q fuel listed a w := by
    intro fuel listed a w hall hle inv
    obtain ⟨vs, v1, v2, v3, v4⟩ := inv.vals
    have ha : a = lexA vs l 0 a0 := by
      refine act_ext (by rw [lexA_defers]; exact inv.defers) (by rw [lexA_size]; exact inv.size) fun t => ?_
      by_cases hex : ∃ (m : Nat) (o : Oper), l[m]? = some o ∧ o.dst = some t
      · obtain ⟨m, o, hm, hd⟩ := hex
        rw [v3 m o t hm (hall m (List.getElem?_eq_some_iff.1 hm).1) hd, lexA_at vs l 0 a0 m o t hnd hm hd (hdst m o t hm hd), Nat.zero_add]
      · rw [lexA_ne vs l 0 a0 t (fun o ho hd => hex (by obtain ⟨m, hm⟩ := List.mem_iff_getElem?.1 ho; exact ⟨m, o, hm, hd⟩))]
        exact v4 t fun m o hm _ hd => hex ⟨m, o, hm, hd⟩
    have hfin := flow_end (hF vs) (fun m c hm => by rw [Nat.zero_add]; exact v1 m c hm) w inv.s inv.grown (fun p hp => by cases hp) (fun m R hm => by
      rw [Nat.zero_add]
      exact v2 m R hm (hall m (by have := (List.getElem?_eq_some_iff.1 hm).1; omega)))
    rw [← ha] at hfin
    refine tail_any hchain hE fuel l.length listed a w (Nat.le_refl _) (by omega) ?_ inv.head.size hall (fun i h1 h2 => inv.head.tail i h1 h2) (by simpa using hfin)
    have hsub : tail.length ≤ unlisted (l ++ tail).toArray listed := by
      unfold unlisted
      have e1 : List.range (l ++ tail).toArray.size = List.range l.length ++ List.range' l.length tail.length := by
        rw [hsz, List.range_eq_range', List.range_eq_range']
        exact (List.range'_append_1 (s := 0) (m := l.length) (n := tail.length) |>.symm.trans (by simp))
      have e2 : (List.range' l.length tail.length).filter (fun i => !listed.getD i true) = List.range' l.length tail.length := List.filter_eq_self.2 fun x hx => by
        have := List.mem_range'_1.1 hx
        simp [inv.head.tail x this.1 (by omega)]
      rw [e1, List.filter_append, e2]
      simp
    omega
  intro fuel
  induction fuel with
  | zero =>
    intro listed a w hle inv
    refine hend 0 listed a w (fun i hi => ?_) (by omega) inv
    have h1 : unlisted (l ++ tail).toArray listed = 0 := by omega
    unfold unlisted at h1
    have h2 := List.eq_nil_of_length_eq_zero h1
    have h3 : i ∉ (List.range (l ++ tail).toArray.size).filter fun i => !listed.getD i true := by rw [h2]; exact List.not_mem_nil
    have h4 : listed.getD i true = true := by
      cases e : listed.getD i true with
      | true => rfl
      | false => exact absurd (List.mem_filter.2 ⟨List.mem_range.2 (by omega), by rw [e]; rfl⟩) h3
    have his : i < listed.size := by rw [inv.head.size]; omega
    simpa [Array.getD, his] using h4
  | succ fuel ih =>
    intro listed a w hle inv
    obtain ⟨vs, v1, v2, v3, v4⟩ := inv.vals
    by_cases hall : ∀ i, i < l.length → listed.getD i false = true
    · exact hend (fuel + 1) listed a w hall (by omega) inv
    · simp only [Classical.not_forall] at hall
      obtain ⟨j, hj, hjl⟩ := hall
      have hju : listed.getD j true = false := getD_in (by rw [inv.head.size]; omega) (by simpa using hjl)
      obtain ⟨r, hr⟩ := exists_ready hE inv.head.size (j + 1) j (by omega) (by omega) hju
      refine ⟨fun h0 => (by rw [h0] at hr; cases hr), fun i hi => ?_⟩
      obtain ⟨hu, o, ho, hwt⟩ := unfold_ready hi
      have hil : i < l.length := by
        rcases Nat.lt_or_ge i l.length with h | h
        · exact h
        · rcases hsc with hs0 | hs0
          · have := (Array.getElem?_eq_some_iff.1 ho).1
            omega
          · exact absurd hi (tail_waits hs0.1.1 hs0.1.2 (by omega) inv.head _ j rfl hj hju i h)
      have hol := hin i hil o ho
      obtain ⟨s, hsp⟩ : ∃ s, sp[i]? = some s := ⟨_, List.getElem?_eq_getElem (by omega)⟩
      have hwaits : ∀ m, waitsB o m = true → listed.getD m false = true ∧ m < i := by
        intro m hm
        obtain ⟨e, he, hb⟩ := List.any_eq_true.1 hm
        rw [Array.mem_toList_iff] at he
        simp only [Bool.and_eq_true, beq_iff_eq] at hb
        have h1 := hwt e he hb.1
        have h2 := hE i o ho e he hb.1
        rw [hb.2] at h1 h2
        exact ⟨h1, h2⟩
      have hop := flow_at (hF vs) (fun m c hm => by rw [Nat.zero_add]; exact v1 m c hm) i o s hol hsp w inv.s inv.grown (fun p hp => by cases hp) (fun m R hmi hm hw => by
        rw [Nat.zero_add] at hw ⊢
        exact v2 m R hm (hwaits m hw).1)
      have hslots : ∀ t : Nat, t ∈ o.looksAt (l ++ tail).toArray → a.tmps[t]? = (lexA vs (l.take i) 0 a0).tmps[t]? := by
        intro t ht
        by_cases hex : ∃ (m : Nat) (o' : Oper), l[m]? = some o' ∧ o'.dst = some t
        · obtain ⟨m, o', hm, hd⟩ := hex
          have hw := hwaits m (hlook' i m o o' t hol hm hd ht)
          rw [v3 m o' t hm hw.1 hd, lexA_at vs (l.take i) 0 a0 m o' t ?_ ?_ hd (hdst m o' t hm hd), Nat.zero_add]
          · exact hnd.sublist ((List.take_sublist i l).filterMap _)
          · rw [List.getElem?_take, if_pos hw.2]; exact hm
        · rw [lexA_ne vs (l.take i) 0 a0 t (fun o' ho' hd => hex (by obtain ⟨m, hm⟩ := List.mem_iff_getElem?.1 (List.mem_of_mem_take ho'); exact ⟨m, o', hm, hd⟩))]
          exact v4 t fun m o' hm _ hd => hex ⟨m, o', hm, hd⟩
      have hwd := wanted_of_slots (ops := (l ++ tail).toArray) hslots
      have hex : execOp a.eval o = execOp (lexA vs (l.take i) 0 a0).eval o := execOp_congr o (fun cs b => Region.noSelect_spec hsel i o cs b ho) fun x hx =>
        eval_of_slots fun t ht => hslots t (List.mem_append_left _ (List.mem_filterMap.2 ⟨x, by simpa using hx, by rw [ht]⟩))
      have hless : unlisted (l ++ tail).toArray (listed.setIfInBounds i true) ≤ fuel := by
        have := unlisted_set (ops := (l ++ tail).toArray) (listed := listed) (i := i) (by omega) inv.head.size hu
        omega
      have next : ∀ v w', G w w' → specR s v w' → wpAny P .any (l ++ tail).toArray Q fuel (listed.setIfInBounds i true) (a.put o.dst v) w' := fun v w' hb hv =>
        ih _ _ _ hless (inv.step hG hS hR hnd hdst hi hil hol hsp hb hv)
      unfold wpOp
      rw [ho]
      unfold FG.opOk at hop
      rw [← hwd, ← hex] at hop
      show if Region.wanted o (yielded (l ++ tail).toArray a.tmps) = true then _ else _
      split
      · rename_i hw
        rw [if_pos hw] at hop
        refine .inl ?_
        unfold Oper.wp
        generalize (execOp a.eval o).run P w = r at *
        cases r with
        | ok n w' =>
          cases n <;> simp only [FG.upOk] at hop <;> simp only [Oper.upon]
          case value u => exact next _ _ hop.1 hop.2
          case skip => exact next _ _ hop.1 hop.2
          case enter f args => exact hop.mono fun e w'' ⟨v, he, hb, hv⟩ => by subst he; exact next _ _ hb hv
        | halt x w' => simp only [FG.upOk] at hop
      · rename_i hw
        rw [if_neg hw] at hop
        exact next _ _ (hG.refl _) hop

/-- **The region's law.** -/
theorem wp_flow (hG : FG.Pre G) {id : Nat} {l : List Oper} {a : Act} {w : World} (S : World → Prop) (sp : List Spec) (hm : P.follows .mixedOrders = true) (hB : flowH l tail a.tmps.size = true)
    (hS0 : S w.drew) (hS : ∀ w w', S w → G w w' → S w')
    (hR : ∀ (m : Nat) (R : Value → World → Prop), sp[m]? = some (Sum.inr R) → ∀ v w w', R v w → G w w' → R v w')
    (hF : ∀ vs, FlowP G P (l ++ tail).toArray S w Q tail vs l sp 0 a []) : (Code.region id (l ++ tail).toArray true).wp P Q a w := by
  refine wp_region_any hm ?_
  refine flow_any hG rfl hB hS hR hF _ _ a w.drew ?_ ?_
  · unfold unlisted
    exact Nat.le_trans (List.length_filter_le _ _) (by simp)
  · refine ⟨⟨by simp, fun j oj _ hl => (by rw [getD_replicate_false] at hl; cases hl), fun t _ ht => by simp [Array.getD] at ht ⊢; omega⟩, hS0, hG.drew w,
      ⟨fun m => match sp[m]? with | some (Sum.inl c) => c | _ => undef, fun m c hm => by simp [hm], fun m R _ hl => (by rw [getD_replicate_false] at hl; cases hl), fun m o d _ hl => (by rw [getD_replicate_false] at hl; cases hl), fun t _ => rfl⟩, rfl, rfl⟩

/-- What is said of the values is kept by growth. -/
def Stab (G : World → World → Prop) : List Spec → Prop
  | [] => True
  | .inl _ :: sp => Stab G sp
  | .inr R :: sp => (∀ v w w', R v w → G w w' → R v w') ∧ Stab G sp
theorem stab_of : ∀ {sp : List Spec}, Stab G sp → ∀ (m : Nat) (R : Value → World → Prop), sp[m]? = some (Sum.inr R) → ∀ v w w', R v w → G w w' → R v w'
  | [], _, _, _, h => by simp at h
  | .inl _ :: sp, h, 0, R, hm => by simp at hm
  | .inl _ :: sp, h, m + 1, R, hm => stab_of (sp := sp) h m R (by simpa using hm)
  | .inr R' :: sp, h, 0, R, hm => by simp at hm; subst hm; exact h.1
  | .inr R' :: sp, h, m + 1, R, hm => stab_of (sp := sp) h.2 m R (by simpa using hm)

/-- The same, the known values found on the way: each is there for all values of the others. -/
def FlowE (G : World → World → Prop) (P : Program) (ops : Array Oper) (S : World → Prop) (w0 : World) (Q : Exit → Act → World → Prop) (tail : List Oper) : List Oper → List (Option (Value → World → Prop)) → Nat → ((Nat → Value) → Act) → ((Nat → Value) → List (Nat × (World → Prop))) → Prop
  | o :: rest, none :: sp, k, A, F => ∃ c, (∀ vs w, S w → G w0 w → facts o (F vs) w → FG.opOk G P ops o (A vs) w (specR (.inl c))) ∧
      FlowE G P ops S w0 Q tail rest sp (k + 1) (fun vs => (A vs).put o.dst c) F
  | o :: rest, some R :: sp, k, A, F => (∀ vs w, S w → G w0 w → facts o (F vs) w → FG.opOk G P ops o (A vs) w (specR (.inr R))) ∧
      FlowE G P ops S w0 Q tail rest sp (k + 1) (fun vs => (A vs).put o.dst (vs k)) (fun vs => (k, R (vs k)) :: F vs)
  | [], [], _, A, F => ∀ vs w, S w → G w0 w → allF (F vs) w → wpList P ops Q tail (A vs) w
  | _, _, _, _, _ => False

def StabE (G : World → World → Prop) : List (Option (Value → World → Prop)) → Prop
  | [] => True
  | none :: sp => StabE G sp
  | some R :: sp => (∀ v w w', R v w → G w w' → R v w') ∧ StabE G sp

theorem flow_of_E : ∀ {l : List Oper} {sp : List (Option (Value → World → Prop))} {k : Nat} {A : (Nat → Value) → Act} {F : (Nat → Value) → List (Nat × (World → Prop))},
    StabE G sp → FlowE G P ops S w0 Q tail l sp k A F → ∃ sp' : List Spec, Stab G sp' ∧ ∀ vs, FlowP G P ops S w0 Q tail vs l sp' k (A vs) (F vs)
  | [], [], _, _, _, _, h => ⟨[], trivial, fun vs => h vs⟩
  | [], _ :: _, _, _, _, _, h => h.elim
  | _ :: _, [], _, _, _, _, h => h.elim
  | o :: l, none :: sp, k, A, F, hs, h => by
    obtain ⟨c, h1, h2⟩ := h
    obtain ⟨sp', hs', h3⟩ := flow_of_E (sp := sp) hs h2
    exact ⟨.inl c :: sp', hs', fun vs => ⟨h1 vs, h3 vs⟩⟩
  | o :: l, some R :: sp, k, A, F, hs, h => by
    obtain ⟨h1, h2⟩ := h
    obtain ⟨sp', hs', h3⟩ := flow_of_E (sp := sp) hs.2 h2
    exact ⟨.inr R :: sp', ⟨hs.1, hs'⟩, fun vs => ⟨h1 vs, h3 vs⟩⟩

/-- A region that is written out: its first n operations in whatever order, the rest in order behind them. -/
theorem wp_flow_lit (hG : FG.Pre G) {id : Nat} {L : List Oper} {a : Act} {w : World} (n : Nat) (S : World → Prop) (sp : List (Option (Value → World → Prop))) (hm : P.follows .mixedOrders = true) (hB : flowH (L.take n) (L.drop n) a.tmps.size = true)
    (hS0 : S w.drew) (hS : ∀ w w', S w → G w w' → S w')
    (hR : StabE G sp)
    (hF : FlowE G P L.toArray S w Q (L.drop n) (L.take n) sp 0 (fun _ => a) (fun _ => [])) : (Code.region id L.toArray true).wp P Q a w := by
  obtain ⟨sp', hs', h3⟩ := flow_of_E hR hF
  have h := wp_flow hG (P := P) (Q := Q) (id := id) (l := L.take n) (tail := L.drop n) (a := a) (w := w) S sp' hm hB hS0 hS (stab_of hs')
  rw [List.take_append_drop] at h
  exact h h3
end
end Go.Proofs.Ytjimkkkiilcpoaa.FH
