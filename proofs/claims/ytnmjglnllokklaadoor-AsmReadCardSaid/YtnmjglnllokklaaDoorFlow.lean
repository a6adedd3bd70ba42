/- A region that draws its order: each operation is shown once, in whatever world that has grown since and in which what it waits for is done; what follows in order behind all of them is walked as a list. No program in it. -/
import Derived.Test.YtnmjglnllokklaaDoorLib
import Derived.StillTail
set_option linter.unusedVariables false
set_option linter.unusedSimpArgs false
namespace Go.Proofs.YtnmjglnllokklaaDoor
open Go.RowKit

/-- What an operation leaves in its slot: a known value, or one of which something is known that growth keeps. -/
abbrev Spec := Sum Value (Value → World → Prop)
def specR : Spec → Value → World → Prop
  | .inl c, v, _ => v = c
  | .inr R, v, w => R v w
def specV : Spec → Value → Value
  | .inl c, _ => c
  | .inr _, v => v
def addF (s : Spec) (k : Nat) (v : Value) (F : List (Nat × (World → Prop))) : List (Nat × (World → Prop)) :=
  match s with
  | .inl _ => F
  | .inr R => (k, R v) :: F
def waitsB (o : Oper) (k : Nat) : Bool := o.after.toList.any fun e => Region.binds .any e && e.on == k
/-- Of what is known, that which the operation waits for. -/
def facts (o : Oper) : List (Nat × (World → Prop)) → World → Prop
  | [], _ => True
  | (k, G) :: rest, w => (waitsB o k = true → G w) ∧ facts o rest w
def allF : List (Nat × (World → Prop)) → World → Prop
  | [], _ => True
  | (_, G) :: rest, w => G w ∧ allF rest w

def callPost (w : World) (R : Value → World → Prop) (e : Ending) (w'' : World) : Prop := ∃ v, e = .returned v ∧ Below w.heap.size w w'' ∧ R v w''
def upOk (P : Program) (w : World) (R : Value → World → Prop) : Result Next → Prop
  | .ok (.value v) w' => Below w.heap.size w w' ∧ R v w'
  | .ok .skip w' => Below w.heap.size w w' ∧ R undef w'
  | .ok (.enter f args) w' => Calls P f args w' (callPost w R)
  | _ => False
def opOk (P : Program) (ops : Array Oper) (o : Oper) (a : Act) (w : World) (R : Value → World → Prop) : Prop :=
  if Region.wanted o (yielded ops a.tmps) then upOk P w R ((execOp a.eval o).run P w) else R undef w

attribute [go_sem] opOk upOk
theorem opOk_load {P : Program} {ops : Array Oper} {o : Oper} {a : Act} {w : World} {T : TypeId} {x : Operand} {p v : Value} (hg : o.guard = none) (ho : o.op = .load T x) (hx : a.eval x = p) (h : (Instr.loadAt T p).run P w = .ok v w) :
    opOk P ops o a w (fun u _ => u = v) := by
  unfold opOk
  rw [if_pos (by simp [Region.wanted, hg])]
  have e : (execOp a.eval o).run P w = .ok (.value v) w := by
    unfold execOp
    simp [ho, hx, h]
  rw [e]
  exact ⟨Below.refl _ _, rfl⟩
theorem callPost.of {w : World} {R : Value → World → Prop} {e : Ending} {w'' : World} {v : Value} (he : e = .returned v) (hb : Below w.heap.size w w'') (hR : R v w'') : callPost w R e w'' := ⟨v, he, hb, hR⟩

def FlowP (P : Program) (ops : Array Oper) (S : World → Prop) (w0 : World) (Q : Exit → Act → World → Prop) (tail : List Oper) (vs : Nat → Value) : List Oper → List Spec → Nat → Act → List (Nat × (World → Prop)) → Prop
  | o :: rest, s :: sp, k, a, F => (∀ w, S w → Below w0.heap.size w0 w → facts o F w → opOk P ops o a w (specR s)) ∧
      FlowP P ops S w0 Q tail vs rest sp (k + 1) (a.put o.dst (specV s (vs k))) (addF s k (vs k) F)
  | [], [], _, a, F => ∀ w, S w → Below w0.heap.size w0 w → allF F w → wpList P ops Q tail a w
  | _, _, _, _, _ => False

section
variable {P : Program} {ops : Array Oper} {S : World → Prop} {w0 : World} {Q : Exit → Act → World → Prop} {tail : List Oper}

def lexA (vs : Nat → Value) : List Oper → Nat → Act → Act
  | [], _, a => a
  | o :: l, k, a => lexA vs l (k + 1) (a.put o.dst (vs k))

theorem put_size (a : Act) (d : Option Tmp) (v : Value) : (a.put d v).tmps.size = a.tmps.size := by cases d <;> simp [Act.put]
theorem put_defers' (a : Act) (d : Option Tmp) (v : Value) : (a.put d v).defers = a.defers := by cases d <;> rfl
theorem put_ne (a : Act) (d : Option Tmp) (v : Value) (t : Nat) (h : d ≠ some t) : (a.put d v).tmps[t]? = a.tmps[t]? := by
  cases d with
  | none => rfl
  | some d => simp only [Act.put]; rw [Array.getElem?_setIfInBounds_ne (fun e => h (by rw [e]))]
theorem put_at (a : Act) (d : Nat) (v : Value) (h : d < a.tmps.size) : (a.put (some d) v).tmps[d]? = some v := by
  simp [Act.put, h]

theorem lexA_size (vs : Nat → Value) : ∀ (l : List Oper) (k : Nat) (a : Act), (lexA vs l k a).tmps.size = a.tmps.size
  | [], _, _ => rfl
  | o :: l, k, a => by rw [lexA, lexA_size vs l, put_size]
theorem lexA_defers (vs : Nat → Value) : ∀ (l : List Oper) (k : Nat) (a : Act), (lexA vs l k a).defers = a.defers
  | [], _, _ => rfl
  | o :: l, k, a => by rw [lexA, lexA_defers vs l, put_defers']
theorem lexA_ne (vs : Nat → Value) : ∀ (l : List Oper) (k : Nat) (a : Act) (t : Nat), (∀ o ∈ l, o.dst ≠ some t) → (lexA vs l k a).tmps[t]? = a.tmps[t]?
  | [], _, _, _, _ => rfl
  | o :: l, k, a, t, h => by
    rw [lexA, lexA_ne vs l _ _ t (fun o' ho' => h o' (List.mem_cons_of_mem _ ho')), put_ne _ _ _ _ (h o (List.mem_cons_self ..))]
theorem lexA_at (vs : Nat → Value) : ∀ (l : List Oper) (k : Nat) (a : Act) (j : Nat) (o : Oper) (d : Nat), (l.filterMap (·.dst)).Nodup → l[j]? = some o → o.dst = some d → d < a.tmps.size →
    (lexA vs l k a).tmps[d]? = some (vs (k + j))
  | [], _, _, _, _, _, _, h, _, _ => by simp at h
  | o' :: l, k, a, 0, o, d, hn, h, hd, hs => by
    simp at h
    subst h
    rw [lexA, lexA_ne vs l _ _ d, hd, put_at _ _ _ hs]
    · rfl
    · intro o2 ho2 h2
      simp only [List.filterMap_cons, hd, List.nodup_cons] at hn
      exact hn.1 (List.mem_filterMap.2 ⟨o2, ho2, h2⟩)
  | o' :: l, k, a, j + 1, o, d, hn, h, hd, hs => by
    have hn' : (l.filterMap (·.dst)).Nodup := by
      rw [List.filterMap_cons] at hn
      split at hn
      · exact hn
      · exact (List.nodup_cons.1 hn).2
    rw [lexA, lexA_at vs l (k + 1) _ j o d hn' (by simpa using h) hd (by rw [put_size]; exact hs)]
    congr 2
    omega

theorem facts_of {o : Oper} {w : World} : ∀ {F : List (Nat × (World → Prop))}, (∀ p ∈ F, waitsB o p.1 = true → p.2 w) → facts o F w
  | [], _ => trivial
  | (k, G) :: F, h => ⟨h (k, G) (List.mem_cons_self ..), facts_of fun p hp => h p (List.mem_cons_of_mem _ hp)⟩
theorem allF_of {w : World} : ∀ {F : List (Nat × (World → Prop))}, (∀ p ∈ F, p.2 w) → allF F w
  | [], _ => trivial
  | (k, G) :: F, h => ⟨h (k, G) (List.mem_cons_self ..), allF_of fun p hp => h p (List.mem_cons_of_mem _ hp)⟩

theorem flow_len {vs : Nat → Value} : ∀ {l : List Oper} {sp : List Spec} {k : Nat} {a : Act} {F : List (Nat × (World → Prop))}, FlowP P ops S w0 Q tail vs l sp k a F → sp.length = l.length
  | [], [], _, _, _, _ => rfl
  | [], _ :: _, _, _, _, h => h.elim
  | _ :: _, [], _, _, _, h => h.elim
  | _ :: _, _ :: _, _, _, _, h => by simp [flow_len h.2]

theorem mem_addF {s : Spec} {k : Nat} {v : Value} {F : List (Nat × (World → Prop))} {p : Nat × (World → Prop)} (h : p ∈ addF s k v F) : p ∈ F ∨ ∃ R, s = .inr R ∧ p = (k, R v) := by
  cases s with
  | inl c => exact .inl h
  | inr R =>
    rcases List.mem_cons.1 h with h | h
    · exact .inr ⟨R, rfl, h⟩
    · exact .inl h

theorem flow_at {vs : Nat → Value} : ∀ {l : List Oper} {sp : List Spec} {k : Nat} {a : Act} {F : List (Nat × (World → Prop))}, FlowP P ops S w0 Q tail vs l sp k a F →
    (∀ m c, sp[m]? = some (.inl c) → vs (k + m) = c) → ∀ (j : Nat) (o : Oper) (s : Spec), l[j]? = some o → sp[j]? = some s → ∀ w, S w → Below w0.heap.size w0 w →
    (∀ p ∈ F, waitsB o p.1 = true → p.2 w) → (∀ (m : Nat) (R : Value → World → Prop), m < j → sp[m]? = some (Sum.inr R) → waitsB o (k + m) = true → R (vs (k + m)) w) →
    opOk P ops o (lexA vs (l.take j) k a) w (specR s)
  | [], _, _, _, _, _, _, _, _, _, h, _ => by simp at h
  | _ :: _, [], _, _, _, h, _, _, _, _, _, _ => h.elim
  | o' :: l, s' :: sp, k, a, F, h, hc, 0, o, s, ho, hs => fun w hS hB hF _ => by
    simp at ho hs
    subst ho
    subst hs
    exact h.1 w hS hB (facts_of hF)
  | o' :: l, s' :: sp, k, a, F, h, hc, j + 1, o, s, ho, hs => fun w hS hB hF hR => by
    have e : specV s' (vs k) = vs k := by
      cases s' with
      | inl c => exact (hc 0 c rfl).symm
      | inr R => rfl
    have h2 := h.2
    rw [e] at h2
    rw [List.take_succ_cons, lexA]
    refine flow_at h2 (fun m c hm => by rw [show k + 1 + m = k + (m + 1) by omega]; exact hc (m + 1) c (by simpa using hm)) j o s (by simpa using ho) (by simpa using hs) w hS hB ?_ ?_
    · intro p hp hw
      rcases mem_addF hp with hp | ⟨R, rfl, rfl⟩
      · exact hF p hp hw
      · exact hR 0 R (by omega) rfl hw
    · intro m R hm hsp hw
      rw [show k + 1 + m = k + (m + 1) by omega] at hw ⊢
      exact hR (m + 1) R (by omega) (by simpa using hsp) hw

theorem flow_end {vs : Nat → Value} : ∀ {l : List Oper} {sp : List Spec} {k : Nat} {a : Act} {F : List (Nat × (World → Prop))}, FlowP P ops S w0 Q tail vs l sp k a F →
    (∀ m c, sp[m]? = some (.inl c) → vs (k + m) = c) → ∀ w, S w → Below w0.heap.size w0 w → (∀ p ∈ F, p.2 w) → (∀ (m : Nat) (R : Value → World → Prop), sp[m]? = some (Sum.inr R) → R (vs (k + m)) w) →
    wpList P ops Q tail (lexA vs l k a) w
  | [], [], _, _, _, h, _ => fun w hS hB hF _ => h w hS hB (allF_of hF)
  | [], _ :: _, _, _, _, h, _ => h.elim
  | _ :: _, [], _, _, _, h, _ => h.elim
  | o' :: l, s' :: sp, k, a, F, h, hc => fun w hS hB hF hR => by
    have e : specV s' (vs k) = vs k := by
      cases s' with
      | inl c => exact (hc 0 c rfl).symm
      | inr R => rfl
    have h2 := h.2
    rw [e] at h2
    rw [lexA]
    refine flow_end h2 (fun m c hm => by rw [show k + 1 + m = k + (m + 1) by omega]; exact hc (m + 1) c (by simpa using hm)) w hS hB ?_ ?_
    · intro p hp
      rcases mem_addF hp with hp | ⟨R, rfl, rfl⟩
      · exact hF p hp
      · exact hR 0 R rfl
    · intro m R hsp
      rw [show k + 1 + m = k + (m + 1) by omega]
      exact hR (m + 1) R (by simpa using hsp)

/-! ### It serves every order -/
theorem filter_lt (l : List Nat) (p q : Nat → Bool) (hpq : ∀ x, q x = true → p x = true) (i : Nat) (hi : i ∈ l) (hp : p i = true) (hq : q i = false) : (l.filter q).length < (l.filter p).length := by
  induction l with
  | nil => cases hi
  | cons x l ih =>
    have hle : (l.filter q).length ≤ (l.filter p).length := by
      clear ih hi
      induction l with
      | nil => simp
      | cons y l ih =>
        by_cases h1 : q y = true
        · simp [List.filter_cons, h1, hpq y h1, ih]
        · by_cases h2 : p y = true
          · simp [List.filter_cons, h1, h2]; omega
          · simp [List.filter_cons, h1, h2, ih]
    rcases List.mem_cons.1 hi with rfl | hi
    · simp [List.filter_cons, hp, hq]; omega
    · have := ih hi
      by_cases h1 : q x = true
      · simp [List.filter_cons, h1, hpq x h1]; omega
      · by_cases h2 : p x = true
        · simp [List.filter_cons, h1, h2]; omega
        · simp [List.filter_cons, h1, h2]; omega

def unlisted (ops : Array Oper) (listed : Array Bool) : Nat := ((List.range ops.size).filter fun i => !listed.getD i true).length

theorem unlisted_set {i : Nat} {listed : Array Bool} (hi : i < ops.size) (hs : listed.size = ops.size) (hu : listed.getD i true = false) : unlisted ops (listed.setIfInBounds i true) < unlisted ops listed := by
  refine filter_lt _ _ _ (fun x hx => ?_) i (List.mem_range.2 hi) (by simp [hu]) (by simp [Array.getD, hs, hi])
  by_cases h : i = x
  · subst h; simp [hu]
  · rwa [getD_set_ne true h] at hx

/-- What the kernel reckons of the region: each operation waits for earlier ones alone; no select; the slots of those ahead of the tail are unlike; whatever such a one looks at was made outside, or is waited for; the tail waits for all, in order. -/
def flowB (l tail : List Oper) (size : Nat) : Bool :=
  let ops := (l ++ tail).toArray
  Region.sinkB .any ops l.length && Region.chainB .any ops l.length && decide (0 < tail.length) && Region.noSelect ops &&
  (ops.toList.zipIdx.all fun (o, i) => o.after.all fun e => !Region.binds .any e || decide (e.on < i)) &&
  decide ((l.filterMap (·.dst)).Nodup) && (l.all fun o => match o.dst with | some d => decide (d < size) | none => true) &&
  (l.zipIdx.all fun (o, _) => (o.looksAt ops).all fun t => l.zipIdx.all fun (o', k) => o'.dst != some t || waitsB o k)

theorem unfold_ready {i : Nat} {listed : Array Bool} (h : i ∈ Region.ready .any ops listed) : listed.getD i true = false ∧ ∃ o, ops[i]? = some o ∧ ∀ e ∈ o.after, Region.binds .any e = true → listed.getD e.on false = true := mem_ready.1 h

/-- In order, behind all of the rest. -/
theorem tail_any {n0 : Nat} (hc : Region.chainB .any ops n0 = true) (hE : ∀ i o, ops[i]? = some o → ∀ e ∈ o.after, Region.binds .any e = true → e.on < i) :
    ∀ (fuel k : Nat) (listed : Array Bool) (a : Act) (w : World), n0 ≤ k → k ≤ ops.size → ops.size ≤ k + fuel → listed.size = ops.size →
    (∀ i, i < k → listed.getD i false = true) → (∀ i, k ≤ i → i < ops.size → listed.getD i true = false) → wpList P ops Q (ops.toList.drop k) a w → wpAny P .any ops Q fuel listed a w
  | 0, k, listed, a, w, hk, hkl, hf, hs, h1, h2, h => by
    have hk' : k = ops.size := by omega
    subst hk'
    rw [List.drop_of_length_le (by simp)] at h
    refine ⟨List.eq_nil_iff_forall_not_mem.2 fun i hi => ?_, h⟩
    obtain ⟨hu, o, ho, _⟩ := unfold_ready hi
    have := h1 i (Array.getElem?_eq_some_iff.1 ho).1
    rw [getD_both hu] at this
    cases this
  | fuel + 1, k, listed, a, w, hk, hkl, hf, hs, h1, h2, h => by
    by_cases hend : k = ops.size
    · subst hend
      rw [List.drop_of_length_le (by simp)] at h
      refine ⟨fun _ => h, fun i hi => ?_⟩
      obtain ⟨hu, o, ho, _⟩ := unfold_ready hi
      have := h1 i (Array.getElem?_eq_some_iff.1 ho).1
      rw [getD_both hu] at this
      cases this
    have hks : k < ops.size := by omega
    have hok : ops[k]? = some ops[k] := Array.getElem?_eq_getElem hks
    have hrk : k ∈ Region.ready .any ops listed := mem_ready.2 ⟨h2 k (Nat.le_refl _) hks, _, hok, fun e he hb => h1 _ (hE k _ hok e he hb)⟩
    refine ⟨fun h0 => (by rw [h0] at hrk; cases hrk), fun i hi => ?_⟩
    obtain ⟨hu, o, ho, hall⟩ := unfold_ready hi
    have his : i < ops.size := (Array.getElem?_eq_some_iff.1 ho).1
    have hik : i = k := by
      have hge : k ≤ i := by
        rcases Nat.lt_or_ge i k with h' | h'
        · have := h1 i h'; rw [getD_both hu] at this; cases this
        · exact h'
      rcases Nat.lt_or_ge k i with h' | h'
      · exfalso
        have := List.all_eq_true.1 hc i (List.mem_range.2 his)
        simp only [Bool.or_eq_true, decide_eq_true_eq] at this
        rcases this with h3 | h3
        · omega
        · obtain ⟨o', ho', e, he, hb, hon⟩ := Region.waitsFor_spec h3
          have : o' = o := Option.some.inj (ho'.symm.trans ho)
          subst this
          have h4 := hall e he hb
          rw [hon, getD_both (h2 (i - 1) (by omega) (by omega))] at h4
          cases h4
      · omega
    subst hik
    have hd : ops.toList.drop i = ops[i] :: ops.toList.drop (i + 1) := by
      rw [List.drop_eq_getElem_cons (by simpa using hks)]
      simp
    rw [hd] at h
    have ih : ∀ a' w', wpList P ops Q (ops.toList.drop (i + 1)) a' w' → wpAny P .any ops Q fuel (listed.setIfInBounds i true) a' w' := fun a' w' h' =>
      tail_any hc hE fuel (i + 1) _ a' w' (by omega) (by omega) (by omega) (by simpa using hs)
        (fun j hj => by
          by_cases e : i = j
          · subst e; simp [Array.getD, hs, hks]
          · rw [getD_set_ne false e]; exact h1 j (by omega))
        (fun j hj hjs => by rw [getD_set_ne true (by omega)]; exact h2 j (by omega) hjs) h'
    unfold wpOp
    rw [hok]
    simp only [wpList] at h
    show if Region.wanted ops[i] (yielded ops a.tmps) = true then _ else _
    split
    · rename_i hw
      rw [if_pos hw] at h
      rcases h with h | h
      · exact .inl (Oper.wp_mono ih h)
      · exact .inr h
    · rename_i hw
      rw [if_neg hw] at h
      exact ih _ _ h

theorem act_ext {a b : Act} (hd : a.defers = b.defers) (hs : a.tmps.size = b.tmps.size) (h : ∀ t : Nat, a.tmps[t]? = b.tmps[t]?) : a = b := by
  obtain ⟨x, d⟩ := a
  obtain ⟨y, e⟩ := b
  simp only at hd hs h
  subst hd
  have : x = y := Array.ext_getElem? (fun t => h t)
  rw [this]

theorem eval_of_slots {a b : Act} {x : Operand} (h : ∀ t : Nat, x = .tmp t → a.tmps[t]? = b.tmps[t]?) : a.eval x = b.eval x := by
  cases x with
  | tmp t => simp [Act.eval, h t rfl]
  | _ => rfl

theorem wanted_of_slots {a b : Act} {o : Oper} (h : ∀ t : Nat, t ∈ o.looksAt ops → a.tmps[t]? = b.tmps[t]?) : Region.wanted o (yielded ops a.tmps) = Region.wanted o (yielded ops b.tmps) := by
  unfold Region.wanted
  cases hg : o.guard with
  | none => rfl
  | some gw =>
    obtain ⟨g, want⟩ := gw
    have : yielded ops a.tmps g = yielded ops b.tmps g := by
      unfold yielded
      cases ht : (ops[g]?).bind (·.dst) with
      | none => rfl
      | some t =>
        have := h t (by simp [Oper.looksAt, hg, ht])
        simp [this]
    simp only [this]

/-- What is known at any time, in whatever order. -/
structure Inv (P : Program) (ops : Array Oper) (S : World → Prop) (w0 : World) (l : List Oper) (sp : List Spec) (a0 : Act) (listed : Array Bool) (a : Act) (w : World) : Prop where
  head : HeadInv .any ops l.length listed
  s : S w
  grown : Below w0.heap.size w0 w
  vals : ∃ vs : Nat → Value, (∀ m c, sp[m]? = some (Sum.inl c) → vs m = c) ∧
    (∀ (m : Nat) (R : Value → World → Prop), sp[m]? = some (Sum.inr R) → listed.getD m false = true → R (vs m) w) ∧
    (∀ m o d, l[m]? = some o → listed.getD m false = true → o.dst = some d → a.tmps[d]? = some (vs m)) ∧
    (∀ t : Nat, (∀ m o, l[m]? = some o → listed.getD m false = true → o.dst ≠ some t) → a.tmps[t]? = a0.tmps[t]?)
  size : a.tmps.size = a0.tmps.size
  defers : a.defers = a0.defers

theorem dst_inj : ∀ {l : List Oper} {m i : Nat} {o o' : Oper} {d : Nat}, (l.filterMap (·.dst)).Nodup → l[m]? = some o → l[i]? = some o' → o.dst = some d → o'.dst = some d → m = i
  | [], _, _, _, _, _, _, h, _, _, _ => by simp at h
  | x :: l, m, i, o, o', d, hn, hm, hi, hd, hd' => by
    have hn' : (l.filterMap (·.dst)).Nodup := by
      rw [List.filterMap_cons] at hn
      split at hn
      · exact hn
      · exact (List.nodup_cons.1 hn).2
    have hx : ∀ {j : Nat} {y : Oper}, l[j]? = some y → y.dst = some d → x.dst ≠ some d := fun {j y} hj hy hxd => by
      simp only [List.filterMap_cons, hxd, List.nodup_cons] at hn
      exact hn.1 (List.mem_filterMap.2 ⟨y, List.mem_of_getElem? hj, hy⟩)
    cases m with
    | zero =>
      simp at hm
      subst hm
      cases i with
      | zero => rfl
      | succ i => exact absurd hd (hx (by simpa using hi) hd')
    | succ m =>
      cases i with
      | zero =>
        simp at hi
        subst hi
        exact absurd hd' (hx (by simpa using hm) hd)
      | succ i => exact congrArg (· + 1) (dst_inj hn' (by simpa using hm) (by simpa using hi) hd hd')

theorem exists_ready (hE : ∀ i o, ops[i]? = some o → ∀ e ∈ o.after, Region.binds .any e = true → e.on < i) {listed : Array Bool} (hs : listed.size = ops.size) :
    ∀ (n i : Nat), i < n → i < ops.size → listed.getD i true = false → ∃ j, j ∈ Region.ready .any ops listed
  | 0, _, h, _, _ => by omega
  | n + 1, i, h, hi, hu => by
    by_cases hall : ∀ e ∈ ops[i].after, Region.binds .any e = true → listed.getD e.on false = true
    · exact ⟨i, mem_ready.2 ⟨hu, ops[i], Array.getElem?_eq_getElem hi, hall⟩⟩
    · simp only [Classical.not_forall] at hall
      obtain ⟨e, he, hb, hl⟩ := hall
      have hlt := hE i _ (Array.getElem?_eq_getElem hi) e he hb
      exact exists_ready hE hs n e.on (by omega) (by omega) (getD_in (by omega) (by simpa using hl))

theorem Inv.step {l : List Oper} {sp : List Spec} {a0 : Act} {listed : Array Bool} {a : Act} {w w' : World} {i : Nat} {o : Oper} {s : Spec} {v : Value}
    (hS : ∀ w w', S w → Below w.heap.size w w' → S w')
    (hR : ∀ (m : Nat) (R : Value → World → Prop), sp[m]? = some (Sum.inr R) → ∀ v w w', R v w → Below w.heap.size w w' → R v w')
    (hw0 : w0.heap.size ≤ w.heap.size)
    (hnd : (l.filterMap (·.dst)).Nodup) (hdst : ∀ (m : Nat) (o : Oper) (d : Nat), l[m]? = some o → o.dst = some d → d < a0.tmps.size)
    (inv : Inv P ops S w0 l sp a0 listed a w) (hi : i ∈ Region.ready .any ops listed) (hil : i < l.length) (ho : l[i]? = some o) (hs : sp[i]? = some s)
    (hb : Below w.heap.size w w') (hv : specR s v w') : Inv P ops S w0 l sp a0 (listed.setIfInBounds i true) (a.put o.dst v) w' := by
  obtain ⟨vs, v1, v2, v3, v4⟩ := inv.vals
  have hun := (unfold_ready hi).1
  have his : i < listed.size := by
    rcases Nat.lt_or_ge i listed.size with h' | h'
    · exact h'
    · simp [Array.getD, Nat.not_lt.2 h'] at hun
  refine ⟨inv.head.set hi hil, hS _ _ inv.s hb, below_then inv.grown hw0 hb, ⟨fun m => if m = i then v else vs m, ?_, ?_, ?_, ?_⟩, by rw [put_size]; exact inv.size, by rw [put_defers']; exact inv.defers⟩
  · intro m c hm
    by_cases e : m = i
    · subst e
      rw [hs] at hm
      cases hm
      show (if m = m then v else vs m) = c
      rw [if_pos rfl]
      exact hv
    · simpa [e] using v1 m c hm
  · intro m R hm hl
    by_cases e : m = i
    · subst e
      rw [hs] at hm
      cases hm
      show R (if m = m then v else vs m) w'
      rw [if_pos rfl]
      exact hv
    · rw [getD_set_ne false (fun h => e h.symm)] at hl
      simpa [e] using hR m R hm _ _ _ (v2 m R hm hl) hb
  · intro m o' d hm hl hd
    by_cases e : m = i
    · subst e
      rw [ho] at hm
      cases hm
      rw [hd, put_at _ _ _ (by rw [inv.size]; exact hdst _ _ _ ho hd)]
      simp
    · rw [getD_set_ne false (fun h => e h.symm)] at hl
      rw [put_ne _ _ _ _ (fun h => e (dst_inj hnd hm ho hd h))]
      simpa [e] using v3 m o' d hm hl hd
  · intro t ht
    rw [put_ne _ _ _ _ (fun h => ht i o ho (by simp [Array.getD, his]) h)]
    refine v4 t fun m o' hm hl => ht m o' hm ?_
    exact getD_set_true hl

theorem flow_any {l : List Oper} {sp : List Spec} {a0 : Act} (hops : ops = (l ++ tail).toArray) (hB : flowB l tail a0.tmps.size = true)
    (hS : ∀ w w', S w → Below w.heap.size w w' → S w')
    (hR : ∀ (m : Nat) (R : Value → World → Prop), sp[m]? = some (Sum.inr R) → ∀ v w w', R v w → Below w.heap.size w w' → R v w')
    (hF : ∀ vs, FlowP P ops S w0 Q tail vs l sp 0 a0 []) :
    ∀ (fuel : Nat) (listed : Array Bool) (a : Act) (w : World), unlisted ops listed ≤ fuel → w0.heap.size ≤ w.heap.size → Inv P ops S w0 l sp a0 listed a w → wpAny P .any ops Q fuel listed a w := by
  subst hops
  have hlen : sp.length = l.length := flow_len (hF fun _ => undef)
  simp only [flowB, Bool.and_eq_true, decide_eq_true_eq] at hB
  obtain ⟨⟨⟨⟨⟨⟨⟨hsink, hchain⟩, htl⟩, hsel⟩, hedge⟩, hnd⟩, hdst'⟩, hlook⟩ := hB
  have hsz : (l ++ tail).toArray.size = l.length + tail.length := by simp
  have hE : ∀ i o, (l ++ tail).toArray[i]? = some o → ∀ e ∈ o.after, Region.binds .any e = true → e.on < i := by
    intro i o ho e he hb
    have hm : (o, i) ∈ (l ++ tail).zipIdx := by
      rw [List.mem_zipIdx_iff_getElem?]
      simpa using ho
    have h1 := List.all_eq_true.1 hedge _ hm
    have h2 := Array.all_eq_true'.1 h1 e he
    simpa [hb] using h2
  have hin : ∀ i, i < l.length → ∀ o, (l ++ tail).toArray[i]? = some o → l[i]? = some o := by
    intro i hi o ho
    simpa [List.getElem?_append_left hi] using ho
  have hdst : ∀ (m : Nat) (o : Oper) (d : Nat), l[m]? = some o → o.dst = some d → d < a0.tmps.size := by
    intro m o d hm hd
    have := List.all_eq_true.1 hdst' o (List.mem_of_getElem? hm)
    simpa [hd] using this
  have hlook' : ∀ (i m : Nat) (o o' : Oper) (t : Nat), l[i]? = some o → l[m]? = some o' → o'.dst = some t → t ∈ o.looksAt (l ++ tail).toArray → waitsB o m = true := by
    intro i m o o' t hi hm hd ht
    have h1 := List.all_eq_true.1 hlook (o, i) (by rw [List.mem_zipIdx_iff_getElem?]; simpa using hi)
    have h2 := List.all_eq_true.1 h1 t ht
    have h3 := List.all_eq_true.1 h2 (o', m) (by rw [List.mem_zipIdx_iff_getElem?]; simpa using hm)
    simpa [hd] using h3
  intro fuel
  induction fuel with
  | zero =>
    intro listed a w hle _ inv
    exfalso
    have h1 := inv.head.tail l.length (Nat.le_refl _) (by omega)
    have : l.length ∈ (List.range (l ++ tail).toArray.size).filter fun i => !listed.getD i true := List.mem_filter.2 ⟨List.mem_range.2 (by omega), by simp [h1]⟩
    have h2 := List.length_pos_of_mem this
    unfold unlisted at hle
    omega
  | succ fuel ih =>
    intro listed a w hle hw0 inv
    obtain ⟨vs, v1, v2, v3, v4⟩ := inv.vals
    by_cases hall : ∀ i, i < l.length → listed.getD i false = true
    · have ha : a = lexA vs l 0 a0 := by
        refine act_ext (by rw [lexA_defers]; exact inv.defers) (by rw [lexA_size]; exact inv.size) fun t => ?_
        by_cases hex : ∃ (m : Nat) (o : Oper), l[m]? = some o ∧ o.dst = some t
        · obtain ⟨m, o, hm, hd⟩ := hex
          rw [v3 m o t hm (hall m (List.getElem?_eq_some_iff.1 hm).1) hd, lexA_at vs l 0 a0 m o t hnd hm hd (hdst m o t hm hd), Nat.zero_add]
        · rw [lexA_ne vs l 0 a0 t (fun o ho hd => hex (by obtain ⟨m, hm⟩ := List.mem_iff_getElem?.1 ho; exact ⟨m, o, hm, hd⟩))]
          exact v4 t fun m o hm _ hd => hex ⟨m, o, hm, hd⟩
      have hend := flow_end (hF vs) (fun m c hm => by rw [Nat.zero_add]; exact v1 m c hm) w inv.s inv.grown (fun p hp => by cases hp) (fun m R hm => by
        rw [Nat.zero_add]
        exact v2 m R hm (hall m (by have := (List.getElem?_eq_some_iff.1 hm).1; omega)))
      rw [← ha] at hend
      refine tail_any hchain hE (fuel + 1) l.length listed a w (Nat.le_refl _) (by omega) ?_ inv.head.size hall (fun i h1 h2 => inv.head.tail i h1 h2) (by simpa using hend)
      have hsub : tail.length ≤ unlisted (l ++ tail).toArray listed := by
        unfold unlisted
        have e1 : List.range (l ++ tail).toArray.size = List.range l.length ++ List.range' l.length tail.length := by
          rw [hsz, List.range_eq_range', List.range_eq_range']
          exact (List.range'_append_1 (s := 0) (m := l.length) (n := tail.length) |>.symm.trans (by simp))
        have e2 : (List.range' l.length tail.length).filter (fun i => !listed.getD i true) = List.range' l.length tail.length := List.filter_eq_self.2 fun x hx => by
          have := List.mem_range'_1.1 hx
          simp [inv.head.tail x this.1 (by omega)]
        rw [e1, List.filter_append, e2]
        simp
      omega
    · simp only [Classical.not_forall] at hall
      obtain ⟨j, hj, hjl⟩ := hall
      have hju : listed.getD j true = false := getD_in (by rw [inv.head.size]; omega) (by simpa using hjl)
      obtain ⟨r, hr⟩ := exists_ready hE inv.head.size (j + 1) j (by omega) (by omega) hju
      refine ⟨fun h0 => (by rw [h0] at hr; cases hr), fun i hi => ?_⟩
      obtain ⟨hu, o, ho, hwt⟩ := unfold_ready hi
      have hil : i < l.length := by
        rcases Nat.lt_or_ge i l.length with h | h
        · exact h
        · exact absurd hi (tail_waits hsink hchain (by omega) inv.head _ j rfl hj hju i h)
      have hol := hin i hil o ho
      obtain ⟨s, hsp⟩ : ∃ s, sp[i]? = some s := ⟨_, List.getElem?_eq_getElem (by omega)⟩
      have hwaits : ∀ m, waitsB o m = true → listed.getD m false = true ∧ m < i := by
        intro m hm
        obtain ⟨e, he, hb⟩ := List.any_eq_true.1 hm
        rw [Array.mem_toList_iff] at he
        simp only [Bool.and_eq_true, beq_iff_eq] at hb
        have h1 := hwt e he hb.1
        have h2 := hE i o ho e he hb.1
        rw [hb.2] at h1 h2
        exact ⟨h1, h2⟩
      have hop := flow_at (hF vs) (fun m c hm => by rw [Nat.zero_add]; exact v1 m c hm) i o s hol hsp w inv.s inv.grown (fun p hp => by cases hp) (fun m R hmi hm hw => by
        rw [Nat.zero_add] at hw ⊢
        exact v2 m R hm (hwaits m hw).1)
      have hslots : ∀ t : Nat, t ∈ o.looksAt (l ++ tail).toArray → a.tmps[t]? = (lexA vs (l.take i) 0 a0).tmps[t]? := by
        intro t ht
        by_cases hex : ∃ (m : Nat) (o' : Oper), l[m]? = some o' ∧ o'.dst = some t
        · obtain ⟨m, o', hm, hd⟩ := hex
          have hw := hwaits m (hlook' i m o o' t hol hm hd ht)
          rw [v3 m o' t hm hw.1 hd, lexA_at vs (l.take i) 0 a0 m o' t ?_ ?_ hd (hdst m o' t hm hd), Nat.zero_add]
          · exact hnd.sublist ((List.take_sublist i l).filterMap _)
          · rw [List.getElem?_take, if_pos hw.2]; exact hm
        · rw [lexA_ne vs (l.take i) 0 a0 t (fun o' ho' hd => hex (by obtain ⟨m, hm⟩ := List.mem_iff_getElem?.1 (List.mem_of_mem_take ho'); exact ⟨m, o', hm, hd⟩))]
          exact v4 t fun m o' hm _ hd => hex ⟨m, o', hm, hd⟩
      have hwd := wanted_of_slots (ops := (l ++ tail).toArray) hslots
      have hex : execOp a.eval o = execOp (lexA vs (l.take i) 0 a0).eval o := execOp_congr o (fun cs b => Region.noSelect_spec hsel i o cs b ho) fun x hx =>
        eval_of_slots fun t ht => hslots t (List.mem_append_left _ (List.mem_filterMap.2 ⟨x, by simpa using hx, by rw [ht]⟩))
      have hless : unlisted (l ++ tail).toArray (listed.setIfInBounds i true) ≤ fuel := by
        have := unlisted_set (ops := (l ++ tail).toArray) (listed := listed) (i := i) (by omega) inv.head.size hu
        omega
      have next : ∀ v w', Below w.heap.size w w' → specR s v w' → wpAny P .any (l ++ tail).toArray Q fuel (listed.setIfInBounds i true) (a.put o.dst v) w' := fun v w' hb hv =>
        ih _ _ _ hless (Nat.le_trans hw0 hb.size) (inv.step hS hR hw0 hnd hdst hi hil hol hsp hb hv)
      unfold wpOp
      rw [ho]
      unfold opOk at hop
      rw [← hwd, ← hex] at hop
      show if Region.wanted o (yielded (l ++ tail).toArray a.tmps) = true then _ else _
      split
      · rename_i hw
        rw [if_pos hw] at hop
        refine .inl ?_
        unfold Oper.wp
        generalize (execOp a.eval o).run P w = r at *
        cases r with
        | ok n w' =>
          cases n <;> simp only [upOk] at hop <;> simp only [Oper.upon]
          case value u => exact next _ _ hop.1 hop.2
          case skip => exact next _ _ hop.1 hop.2
          case enter f args => exact hop.mono fun e w'' ⟨v, he, hb, hv⟩ => by subst he; exact next _ _ hb hv
        | halt x w' => simp only [upOk] at hop
      · rename_i hw
        rw [if_neg hw] at hop
        exact next _ _ (Below.refl _ _) hop

/-- **The region's law.** -/
theorem wp_flow {id : Nat} {l : List Oper} {a : Act} {w : World} (S : World → Prop) (sp : List Spec) (hm : P.follows .mixedOrders = true) (hB : flowB l tail a.tmps.size = true)
    (hS0 : S w.drew) (hS : ∀ w w', S w → Below w.heap.size w w' → S w')
    (hR : ∀ (m : Nat) (R : Value → World → Prop), sp[m]? = some (Sum.inr R) → ∀ v w w', R v w → Below w.heap.size w w' → R v w')
    (hF : ∀ vs, FlowP P (l ++ tail).toArray S w Q tail vs l sp 0 a []) : (Code.region id (l ++ tail).toArray true).wp P Q a w := by
  refine wp_region_any hm ?_
  refine flow_any rfl hB hS hR hF _ _ a w.drew ?_ (Nat.le_refl _) ?_
  · unfold unlisted
    exact Nat.le_trans (List.length_filter_le _ _) (by simp)
  · refine ⟨⟨by simp, fun j oj _ hl => (by rw [getD_replicate_false] at hl; cases hl), fun t _ ht => by simp [Array.getD] at ht ⊢; omega⟩, hS0, (Below.refl _ _).drew,
      ⟨fun m => match sp[m]? with | some (Sum.inl c) => c | _ => undef, fun m c hm => by simp [hm], fun m R _ hl => (by rw [getD_replicate_false] at hl; cases hl), fun m o d _ hl => (by rw [getD_replicate_false] at hl; cases hl), fun t _ => rfl⟩, rfl, rfl⟩

/-- What is said of the values is kept by growth. -/
def Stab : List Spec → Prop
  | [] => True
  | .inl _ :: sp => Stab sp
  | .inr R :: sp => (∀ v w w', R v w → Below w.heap.size w w' → R v w') ∧ Stab sp
theorem stab_of : ∀ {sp : List Spec}, Stab sp → ∀ (m : Nat) (R : Value → World → Prop), sp[m]? = some (Sum.inr R) → ∀ v w w', R v w → Below w.heap.size w w' → R v w'
  | [], _, _, _, h => by simp at h
  | .inl _ :: sp, h, 0, R, hm => by simp at hm
  | .inl _ :: sp, h, m + 1, R, hm => stab_of (sp := sp) h m R (by simpa using hm)
  | .inr R' :: sp, h, 0, R, hm => by simp at hm; subst hm; exact h.1
  | .inr R' :: sp, h, m + 1, R, hm => stab_of (sp := sp) h.2 m R (by simpa using hm)

/-- The same, the known values found on the way: each is there for all values of the others. -/
def FlowE (P : Program) (ops : Array Oper) (S : World → Prop) (w0 : World) (Q : Exit → Act → World → Prop) (tail : List Oper) : List Oper → List (Option (Value → World → Prop)) → Nat → ((Nat → Value) → Act) → ((Nat → Value) → List (Nat × (World → Prop))) → Prop
  | o :: rest, none :: sp, k, A, F => ∃ c, (∀ vs w, S w → Below w0.heap.size w0 w → facts o (F vs) w → opOk P ops o (A vs) w (specR (.inl c))) ∧
      FlowE P ops S w0 Q tail rest sp (k + 1) (fun vs => (A vs).put o.dst c) F
  | o :: rest, some R :: sp, k, A, F => (∀ vs w, S w → Below w0.heap.size w0 w → facts o (F vs) w → opOk P ops o (A vs) w (specR (.inr R))) ∧
      FlowE P ops S w0 Q tail rest sp (k + 1) (fun vs => (A vs).put o.dst (vs k)) (fun vs => (k, R (vs k)) :: F vs)
  | [], [], _, A, F => ∀ vs w, S w → Below w0.heap.size w0 w → allF (F vs) w → wpList P ops Q tail (A vs) w
  | _, _, _, _, _ => False

def StabE : List (Option (Value → World → Prop)) → Prop
  | [] => True
  | none :: sp => StabE sp
  | some R :: sp => (∀ v w w', R v w → Below w.heap.size w w' → R v w') ∧ StabE sp

theorem flow_of_E : ∀ {l : List Oper} {sp : List (Option (Value → World → Prop))} {k : Nat} {A : (Nat → Value) → Act} {F : (Nat → Value) → List (Nat × (World → Prop))},
    StabE sp → FlowE P ops S w0 Q tail l sp k A F → ∃ sp' : List Spec, Stab sp' ∧ ∀ vs, FlowP P ops S w0 Q tail vs l sp' k (A vs) (F vs)
  | [], [], _, _, _, _, h => ⟨[], trivial, fun vs => h vs⟩
  | [], _ :: _, _, _, _, _, h => h.elim
  | _ :: _, [], _, _, _, _, h => h.elim
  | o :: l, none :: sp, k, A, F, hs, h => by
    obtain ⟨c, h1, h2⟩ := h
    obtain ⟨sp', hs', h3⟩ := flow_of_E (sp := sp) hs h2
    exact ⟨.inl c :: sp', hs', fun vs => ⟨h1 vs, h3 vs⟩⟩
  | o :: l, some R :: sp, k, A, F, hs, h => by
    obtain ⟨h1, h2⟩ := h
    obtain ⟨sp', hs', h3⟩ := flow_of_E (sp := sp) hs.2 h2
    exact ⟨.inr R :: sp', ⟨hs.1, hs'⟩, fun vs => ⟨h1 vs, h3 vs⟩⟩

/-- A region that is written out: its first n operations in whatever order, the rest in order behind them. -/
theorem wp_flow_lit {id : Nat} {L : List Oper} {a : Act} {w : World} (n : Nat) (S : World → Prop) (sp : List (Option (Value → World → Prop))) (hm : P.follows .mixedOrders = true) (hB : flowB (L.take n) (L.drop n) a.tmps.size = true)
    (hS0 : S w.drew) (hS : ∀ w w', S w → Below w.heap.size w w' → S w')
    (hR : StabE sp)
    (hF : FlowE P L.toArray S w Q (L.drop n) (L.take n) sp 0 (fun _ => a) (fun _ => [])) : (Code.region id L.toArray true).wp P Q a w := by
  obtain ⟨sp', hs', h3⟩ := flow_of_E hR hF
  have h := wp_flow (P := P) (Q := Q) (id := id) (l := L.take n) (tail := L.drop n) (a := a) (w := w) S sp' hm hB hS0 hS (stab_of hs')
  rw [List.take_append_drop] at h
  exact h h3
end
end Go.Proofs.YtnmjglnllokklaaDoor
