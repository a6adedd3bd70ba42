/-
  PermAny: for every slice of numbers the law returns true, and each argument reads as it did. Condition: none.
-/
import Derived.Test.YtjbfidgggfokcaaRows
import Derived.Test.YtjbfidgggfokcaaPermJ
import Derived.Test.YtjbfidgggfokcaaLibB
import Derived.Test.YtjbfidgggfokcaaFlow
set_option linter.unusedVariables false
set_option linter.unusedSimpArgs false
namespace Go.Proofs.Ytjbfidgggfokcaa.PermAny
open Go.ChangeShapes Go.WideShapes Go.ChangeAt Go.RowKit Go.Proofs.Ytjbfidgggfokcaa
open Go.ChangeMaps (open_string)

theorem own : ownKnob Try.prog.godebug = none := by kernel_rfl
theorem laidOut : laidOutB Try.prog = true := by kernel_rfl

theorem infoInt : (Try.prog.info? 3).map (fun i => (i.zero, i.size, i.bytes)) = some (some (.int .i64 0), 1, 8) := by kernel_rfl
def dbl (l : List Int) : List Int := l.flatMap fun x => [x, x]
theorem dbl_snoc (l : List Int) (x : Int) : dbl (l ++ [x]) = dbl l ++ [x, x] := by simp [dbl]
theorem dbl_len (l : List Int) : (dbl l).length = l.length * 2 := by
  induction l with
  | nil => rfl
  | cons x l ih => simp [dbl] at ih ⊢; omega
theorem i64s_append (xs ys : List Int) : i64s (xs ++ ys) = i64s xs ++ i64s ys := by simp [i64s]
theorem drop_cons (xs : List Int) (j : Nat) (hj : j < xs.length) : (xs.drop j).reverse = (xs.drop (j + 1)).reverse ++ [rdi xs j] := by
  rw [rdi, List.getD_eq_getElem?_getD, List.getElem?_eq_getElem hj, List.drop_eq_getElem_cons hj, List.reverse_cons]
  rfl
theorem any_ofL (xs : List Int) : ofL (dbl xs.reverse) = ofL xs ∧ ofL (xs.reverse.filter permB) = ofL xs :=
  ⟨ofL_ext fun p _ => by simp [dbl], ofL_ext fun p hp => by simp [hp]⟩
theorem of_keep (v : Value) (xs : List Int) (w : World) (h : RowI w v xs) (hl : (xs.length : Int) ≤ 4611686018427387904) :
    Calls Try.prog 21 #[v] w fun e w' => e = .returned (.int .i64 (ofL xs)) ∧ w = w' :=
  (of_row v xs w h hl).mono fun e w' ⟨h1, h2⟩ => ⟨h1, h2.symm⟩
/-- Two rows apart. -/
def apart (v u : Value) : Prop := v.ownBlock = none ∨ u.ownBlock = none ∨ v.ownBlock ≠ u.ownBlock
theorem apart.sym {v u : Value} (h : apart v u) : apart u v := by
  rcases h with h | h | h
  · exact .inr (.inl h)
  · exact .inl h
  · exact .inr (.inr (Ne.symm h))
theorem apart.ne {v u : Value} (h : apart v u) : u.ownBlock = none ∨ u.ownBlock ≠ v.ownBlock := by
  rcases h with h | h | h
  · cases hu : u.ownBlock with
    | none => exact .inl rfl
    | some k => right; rw [h]; intro e; cases e
  · exact .inl h
  · exact .inr (Ne.symm h)
theorem apart.next {W : World} {base e size n : Nat} {v u v1 : Value} {xs : List Value} (h : apart v u) (hu : W.ownsRow base e size u n xs) {s : Nat} (hs : W.heap.size ≤ s) (hb : v1.ownBlock = v.ownBlock ∨ ∀ k, v1.ownBlock = some k → s ≤ k) : apart v1 u := by
  rcases hb with hb | hb
  · unfold apart; rw [hb]; exact h
  · cases h1 : v1.ownBlock with
    | none => exact .inl h1
    | some k =>
      cases h2 : u.ownBlock with
      | none => exact .inr (.inl h2)
      | some k2 =>
        refine .inr (.inr ?_)
        rw [h1, h2]
        intro e
        cases e
        have := hb k h1
        have := (hu.lt k h2).2
        omega

set_option maxRecDepth 100000 in
set_option maxHeartbeats 3200000 in
theorem walk (v : Value) (xs : List Int) (w : World) (hv : RowI w v xs) (hm : xs.length ≤ maxLen) :
    Calls Try.prog 9 #[v] w fun e w' => e = .returned (.bool true) ∧ Below w.heap.size w w' := by
  unfold maxLen at hm
  obtain ⟨A, c, rfl⟩ := hv.form
  have r0 := Lib.hid hv
  have hxin : ∀ x ∈ xs, inI x := by obtain ⟨_, _, _, _, h⟩ := hv; exact h
  have HX := Lib.hid hxin
  clear hv hxin
  generalize hn : xs.length = n at *
  have Hn := Lib.hid hn
  clear hn
  go_enter Try.func9, Try.ntmps9
  go_wp2_with fail
  refine (head1_true _).mono ?_
  rintro e w1 ⟨rfl, B1⟩
  by_cases h : (n : Int) ≤ 900
  · have r1 := Lib.hid (r0.out.below B1)
    go_wp2
    go_loopg [4, 5, 6] n (fun k bv rv i wr => k ≤ n ∧ (∃ i' : Int, i = .int .i64 i' ∧ i' + 1 = k) ∧ wr.ownsRow w.heap.size 3 1 bv ((n - k) * 2) (i64s (dbl (xs.drop k).reverse)) ∧ (∃ q, wr.ownsRow w.heap.size 3 1 rv q (i64s ((xs.drop k).reverse.filter permB)) ∧ q ≤ n - k) ∧ apart bv rv ∧ Below w.heap.size w wr)
    case atStart =>
      have e : xs.drop n = [] := List.drop_of_length_le (by rw [Hn.out]; exact Nat.le_refl _)
      rw [e, Nat.sub_self]
      exact ⟨Nat.le_refl _, ⟨_, rfl, by omega⟩, World.ownsRow_nil _ _ _ _, ⟨0, World.ownsRow_nil _ _ _ _, Nat.le_refl _⟩, .inl rfl, B1⟩
    case round =>
      obtain ⟨hk, ⟨i', rfl, hi'⟩, hb, ⟨q, hr, hq⟩, hap, hB⟩ := hrel
      have HB := Lib.hid hB
      have HBack := Lib.hid hb
      have HRight := Lib.hid hr
      have HAp := Lib.hid hap
      have HQ := Lib.hid hq
      clear hB hb hr hap hq B1 r1
      have r2 := r0.out.below HB.out
      rcases Nat.eq_zero_or_pos gk with h0 | h0
      · subst h0
        have e : i' = -1 := by omega
        subst e
        obtain ⟨e1, e2⟩ := any_ofL xs
        have RB : Hid (RowI wr u4 (dbl xs.reverse)) := Lib.hid (RowI.own HBack.out (by intro x hx; simp [dbl] at hx; exact HX.out x hx))
        have RR : Hid (RowI wr u5 (xs.reverse.filter permB)) := Lib.hid (RowI.own HRight.out (by intro x hx; simp at hx; exact HX.out x hx.1))
        have hfl : ((xs.reverse.filter permB).length : Int) ≤ 900 := by have := List.length_filter_le permB xs.reverse; rw [List.length_reverse, Hn.out] at this; omega
        have o1 := of_keep (.slice A n c) xs wr r2 (by rw [Hn.out]; omega)
        have o2 := of_keep u4 _ wr RB.out (by rw [dbl_len, List.length_reverse, Hn.out]; omega)
        have o3 := of_keep u5 _ wr RR.out (by omega)
        rw [e1] at o2
        rw [e2] at o3
        have ol := ofL_lt xs
        generalize ofL xs = O at *
        have q1 := (perm_right (O : Int) wr ⟨by omega, by omega⟩).mono fun e w' ⟨h1, h2⟩ => (⟨h1, h2.symm⟩ : e = _ ∧ wr = w')
        rw [permB_of ol] at q1
        have O1 := Lib.hid o1
        have O2 := Lib.hid o2
        have O3 := Lib.hid o3
        have Q1 := Lib.hid q1
        clear e1 e2 o1 o2 o3 q1 hi' ol r2
        go_wp2_with fail
        refine O1.out.mono ?_
        rintro e w4 ⟨rfl, rfl⟩
        go_wp2_with fail
        refine Q1.out.mono ?_
        rintro e w5 ⟨rfl, rfl⟩
        go_wp2_with fail
        refine O2.out.mono ?_
        rintro e w6 ⟨rfl, rfl⟩
        go_wp2_with fail
        refine O3.out.mono ?_
        rintro e w7 ⟨rfl, rfl⟩
        go_wp2
        go_ret
        exact ⟨rfl, HB.out⟩
      · obtain ⟨p, hp⟩ : ∃ p : Nat, i' = p := ⟨i'.toNat, by omega⟩
        subst hp
        have i1 : (p : Int) < n := by omega
        have hgp : gk = p + 1 := by omega
        obtain ⟨b, o, rfl, hcell⟩ := r2.cellsA (by rw [Hn.out]; omega)
        have hc := hcell p (by rw [Hn.out]; omega)
        have hbl := World.block_lt_of_cell? wr _ hc
        have hcw : w.cell? ⟨b, o + p, none⟩ = some (.int .i64 (rdi xs p)) := by
          obtain ⟨b', o', e, hc'⟩ := r0.out.cellsA (by rw [Hn.out]; omega)
          cases e
          exact hc' p (by rw [Hn.out]; omega)
        have hbw := World.block_lt_of_cell? w _ hcw
        have hdr := Lib.hid (drop_cons xs p (by rw [Hn.out]; omega))
        have hin := Lib.hid (rdi_in HX.out p)
        generalize rdi xs p = d at *
        have HGP := Lib.hid hgp
        clear hcell r2 hgp hi' h0 hk
        go_wp2_with fail
        refine wp_flow_lit 10 (fun w' => b < w'.heap.size ∧ w'.cell? ⟨b, o + p, none⟩ = some (.int .i64 d) ∧ w'.ownsRow w.heap.size 3 1 u4 ((n - gk) * 2) (i64s (dbl (List.drop gk xs).reverse)) ∧ w'.ownsRow w.heap.size 3 1 u5 q (i64s (List.filter permB (List.drop gk xs).reverse)))
          [none, none, none, none, none, none, none, none, none, some (fun v w' => ∃ b7 : Nat, v = .slice (some ⟨b7, 0, none⟩) 2 2 ∧ RdL w' (some ⟨b7, 0, none⟩) (i64s [d, d]))] (by kernel_rfl) (by kernel_rfl) ⟨hbl, hc, HBack.out, HRight.out⟩
          (fun w1 w2 h hb => ⟨Nat.lt_of_lt_of_le h.1 hb.size, (hb.cell (p := ⟨b, o + p, none⟩) h.1).trans h.2.1, own_below h.2.2.1 hb, own_below h.2.2.2 hb⟩) ⟨fun v w1 w2 ⟨b7, h1, h2⟩ hb => ⟨b7, h1, h2.below hb⟩, trivial⟩ ?_
        try simp only [specV, addF, Act.put, List.setIfInBounds_toArray, List.set_cons_zero, List.set_cons_succ, List.take_succ_cons, List.take_zero, List.drop_succ_cons, List.drop_zero]
        (apply Exists.intro; refine ⟨fun vs w1 hS hB hf => ?_, ?_⟩; (focus (clear hS hB hf; go_simp; first | exact ⟨Below.refl _ _, rfl⟩ | exact rfl)); try simp only [specV, addF, Act.put, List.setIfInBounds_toArray, List.set_cons_zero, List.set_cons_succ, List.take_succ_cons, List.take_zero, List.drop_succ_cons, List.drop_zero])
        (apply Exists.intro; refine ⟨fun vs w1 hS hB hf => ?_, ?_⟩; (focus (clear hS hB hf; go_simp; first | exact ⟨Below.refl _ _, rfl⟩ | exact rfl)); try simp only [specV, addF, Act.put, List.setIfInBounds_toArray, List.set_cons_zero, List.set_cons_succ, List.take_succ_cons, List.take_zero, List.drop_succ_cons, List.drop_zero])
        (apply Exists.intro; refine ⟨fun vs w1 hS hB hf => ?_, ?_⟩; (focus (clear hS hB hf; go_simp; first | exact ⟨Below.refl _ _, rfl⟩ | exact rfl)); try simp only [specV, addF, Act.put, List.setIfInBounds_toArray, List.set_cons_zero, List.set_cons_succ, List.take_succ_cons, List.take_zero, List.drop_succ_cons, List.drop_zero])
        (apply Exists.intro; refine ⟨fun vs w1 hS hB hf => ?_, ?_⟩; (focus (clear hS hB hf; go_simp; first | exact ⟨Below.refl _ _, rfl⟩ | exact rfl)); try simp only [specV, addF, Act.put, List.setIfInBounds_toArray, List.set_cons_zero, List.set_cons_succ, List.take_succ_cons, List.take_zero, List.drop_succ_cons, List.drop_zero])
        (apply Exists.intro; refine ⟨fun vs w1 hS hB hf => ?_, ?_⟩; (focus (have hc2 := hS.2.1; clear hS hB hf; go_simp; first | exact ⟨Below.refl _ _, rfl⟩ | exact rfl)); try simp only [specV, addF, Act.put, List.setIfInBounds_toArray, List.set_cons_zero, List.set_cons_succ, List.take_succ_cons, List.take_zero, List.drop_succ_cons, List.drop_zero])
        (apply Exists.intro; refine ⟨fun vs w1 hS hB hf => ?_, ?_⟩; (focus (clear hS hB hf; go_simp; first | exact ⟨Below.refl _ _, rfl⟩ | exact rfl)); try simp only [specV, addF, Act.put, List.setIfInBounds_toArray, List.set_cons_zero, List.set_cons_succ, List.take_succ_cons, List.take_zero, List.drop_succ_cons, List.drop_zero])
        (apply Exists.intro; refine ⟨fun vs w1 hS hB hf => ?_, ?_⟩; (focus (clear hS hB hf; go_simp; first | exact ⟨Below.refl _ _, rfl⟩ | exact rfl)); try simp only [specV, addF, Act.put, List.setIfInBounds_toArray, List.set_cons_zero, List.set_cons_succ, List.take_succ_cons, List.take_zero, List.drop_succ_cons, List.drop_zero])
        (apply Exists.intro; refine ⟨fun vs w1 hS hB hf => ?_, ?_⟩; (focus (clear hS hB hf; go_simp; first | exact ⟨Below.refl _ _, rfl⟩ | exact rfl)); try simp only [specV, addF, Act.put, List.setIfInBounds_toArray, List.set_cons_zero, List.set_cons_succ, List.take_succ_cons, List.take_zero, List.drop_succ_cons, List.drop_zero])
        (apply Exists.intro; refine ⟨fun vs w1 hS hB hf => ?_, ?_⟩; (focus (have hc2 := hS.2.1; clear hS hB hf; go_simp; first | exact ⟨Below.refl _ _, rfl⟩ | exact rfl)); try simp only [specV, addF, Act.put, List.setIfInBounds_toArray, List.set_cons_zero, List.set_cons_succ, List.take_succ_cons, List.take_zero, List.drop_succ_cons, List.drop_zero])
        (refine ⟨fun vs w1 hS hB hf => ?_, ?_⟩; (focus (go_simp; exact ⟨(Below.refl _ _).alloc (Nat.le_refl _) _, w1.heap.size, rfl, RdL.new _ _ _⟩)); try simp only [specV, addF, Act.put, List.setIfInBounds_toArray, List.set_cons_zero, List.set_cons_succ, List.take_succ_cons, List.take_zero, List.drop_succ_cons, List.drop_zero])
        intro vs W5 hS hB5 hF
        obtain ⟨⟨b7, hv7, hr7⟩, _⟩ := hF
        have B5 := Lib.hid (below_then HB.out HB.out.size hB5)
        have Back5 := Lib.hid hS.2.2.1
        have Right5 := Lib.hid hS.2.2.2
        dsimp only
        rw [hv7]
        have hq2 : q ≤ 900 := by have := HQ.out; omega
        have hsz := B5.out.size
        clear hS hB5 hc hbl HBack HRight hv7
        go_wp2_with (at_builtin; refine app2 (w0 := w) (W := W5) w.heap.size rfl _ _ 30 3 (.int .i64 0) 1 8 rfl Try.underlying30 infoInt rfl (by decide) (by decide) u4 _ _ (i64s [d, d]) ⟨b7, 0, none⟩ 2 2 rfl rfl rfl (by intro u hu; simp [i64s] at hu; subst hu; rfl) Back5.out hr7 B5.out hsz (by omega) ?_; intro v6 w6 hown6 hb6 hg6 hbl6; have hc6 := (hb6.cell (p := ⟨b, o + p, none⟩) hbw).trans hcw)
        have hown7 : w6.ownsRow w.heap.size 3 1 v6 ((n - p) * 2) (i64s (dbl (xs.drop p).reverse)) := by
          rw [hdr.out, dbl_snoc, i64s_append, show (n - p) * 2 = (n - gk) * 2 + 2 by have := HGP.out; omega, ← HGP.out]
          exact hown6
        have Right6 := Lib.hid (Right5.out.kept hg6 HAp.out.ne)
        have Ap6 := Lib.hid (HAp.out.next Right5.out (Nat.le_refl _) hbl6)
        have B6 := Lib.hid hb6
        have Back6 := Lib.hid hown7
        have pr := perm_right d w6 hin.out
        rcases hd : permB d with _ | _ <;> rw [hd] at pr
        · refine pr.mono ?_
          rintro e w7 ⟨rfl, rfl⟩
          go_wp2
          go_roundg p
          have e1 : (xs.drop p).reverse.filter permB = (xs.drop gk).reverse.filter permB := by
            rw [hdr.out, List.filter_append, HGP.out]; simp [hd]
          have := HQ.out
          have := HGP.out
          exact ⟨by omega, ⟨_, rfl, by omega⟩, Back6.out, ⟨q, by rw [e1]; exact Right6.out, by omega⟩, Ap6.out, B6.out⟩
          have := HGP.out
          omega
        · refine pr.mono ?_
          rintro e w7 ⟨rfl, rfl⟩
          clear hown6 hb6 hg6 hbl6 hown7 pr
          have hs6 := B6.out.size
          go_wp2_with (at_builtin; refine app2 (w0 := w) (W := w7.alloc _) w.heap.size rfl _ _ 30 3 (.int .i64 0) 1 8 rfl Try.underlying30 infoInt rfl (by decide) (by decide) u5 _ _ (i64s [d]) ⟨w7.heap.size, 0, none⟩ 1 1 rfl rfl rfl (by intro u hu; simp [i64s] at hu; subst hu; rfl) (Right6.out.alloc _) (RdL.new w7 _ _) (B6.out.alloc hs6 _) (by simp; omega) (by omega) ?_; intro v8 w8 hown8 hb8 hg8 hbl8)
          have e1 : (xs.drop p).reverse.filter permB = (xs.drop gk).reverse.filter permB ++ [d] := by
            rw [hdr.out, List.filter_append, HGP.out]; simp [hd]
          go_roundg p
          have := HQ.out
          have := HGP.out
          exact ⟨by omega, ⟨_, rfl, by omega⟩, (Back6.out.alloc _).kept hg8 (Ap6.out.sym.ne), ⟨q + 1, by rw [e1, i64s_append]; exact hown8, by omega⟩, (Ap6.out.sym.next Back6.out (Nat.le_refl _) (by rcases hbl8 with h | h; exact .inl h; exact .inr fun k hk => by have := h k hk; simp at this; omega)).sym, hb8⟩
          have := HGP.out
          omega
  · go_wp2
    go_ret
    exact ⟨rfl, B1⟩

set_option maxRecDepth 100000 in
theorem lifted (os : Os) (started : os.Started) (H : Type) (enc : TypeId × Value → H) :
    ReturnsInHanded {} Try.checked os 9 .any (Rows.permAnySpec.pre6 enc Try.prog Try.f9 Rows.permAnyRow.domain false) (Rows.permAnySpec.post enc Try.prog Try.f9 false true false false) := by
  refine returnsInHanded_of_change (C := Try.checked) own started (by kernel_rfl) Try.func9
    (ChangeSpec.witness6 (enc := enc) (C := Try.checked) false ⟨#[], #[.slice none 0 0], []⟩ 8 (by kernel_rfl) (by kernel_rfl) (by kernel_rfl) (by kernel_rfl)) ?_
  intro W base args ds gs before hval0 hW hcnd _
  have hval : ∀ (j : Nat) t v, Try.f9.params[j]? = some t → args[j]? = some v → Value.okWide Try.prog W .any base t v := hval0
  have hW' := hW
  obtain ⟨p, q, hA0, hV, rfl, hfz, hnd⟩ := hW
  have hA : DataW.TrodAll enc Try.prog W 0 (fun _ => true) true Try.f9.params.toList args.toList ds p := hA0
  rw [Try.params9] at hA hval
  obtain ⟨v0, vs0, d0, ds0, p0, q0, hargs, rfl, rfl, h0, r0⟩ := trodAll_cons hA
  obtain ⟨rfl, rfl, rfl⟩ := trodAll_nil r0
  obtain rfl : args = #[v0] := by cases args; simp_all
  obtain ⟨rfl, rfl⟩ := trodVars_none hV
  have k0 := h0
  have lt0 : ∀ x ∈ p0, x.block < W.heap.size := by obtain ⟨m, hm⟩ := k0; exact DataW.trod_lt m _ _ _ hm
  obtain ⟨x0, hx0, hm0⟩ := open_ints' (hval 0 30 v0 rfl rfl) h0
  clear hA0 hval0
  refine (walk v0 x0 W hx0 hm0).mono fun e W' ⟨he, bel⟩ => ?_
  subst he
  exact ⟨_, rfl, _, _, _, [], _, [], hW', trodAll_mk1 (shut_bool Try.underlying4 _), (trodAll_cons_mk (Below.trod laidOut (by kernel_rfl) (of_decide_eq_true (by kernel_rfl)) k0 bel lt0) trodAll_mk0), rfl, bel.frame _, fun h => by cases h⟩

theorem over : Rows.permAnyRow.holds Try.pinned (OpenSpec.ofChange Rows.permAnySpec) :=
  OpenClaim.holds_of_wide 9 Try.f9 rfl rfl rfl rfl rfl rfl rfl ⟨rfl, rfl, rfl, rfl, rfl⟩ rfl rfl rfl rfl rfl (by kernel_rfl) Try.func9 (by kernel_rfl)
    (of_decide_eq_true (by kernel_rfl)) (by unfold Func.isWrapper; rw [if_neg (of_decide_eq_false (by kernel_rfl))]; exact ⟨rfl, rfl⟩)
    (fun os started H enc _ => lifted os started H enc)

/-- The statement. -/
theorem proved : Rows.PermAnySaid := over

#print axioms proved
end Go.Proofs.Ytjbfidgggfokcaa.PermAny
