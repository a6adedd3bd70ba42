/- Text; the program's. -/
import Derived.Test.YtnmjglnllokklaaDoorAsC
import Derived.Test.YtnmjglnllokklaaDoorLibB
import Derived.Lib.AppendIntMem
import Derived.Lib.ItoaLen
import Derived.Deep.DeepCutAuto
import Derived.Deep.CutBlock
set_option linter.unusedVariables false
set_option linter.unusedSimpArgs false
namespace Go.Proofs.YtnmjglnllokklaaDoor
open Go.RowKit

theorem itoa_any (n : Int) (w : World) (h : Env w) (hn : inI n) :
    Calls Tryd.prog 32 #[.int .i64 n] w fun e w' => e = .returned (.string ⟨(Lib.itoa n).toArray⟩) ∧ Below w.heap.size w w' :=
  (Tryd.strconv_Itoa n hn.1 hn.2 w h.1).mono fun e w' ⟨h1, k, os, h2⟩ => ⟨h1, by subst h2; exact Lib.below_grow _ _ (Nat.le_refl _) k os⟩

/-- What a number of a kind is written as. -/
def partK (c n : Int) : List (List UInt8) := if c = 114 then [114 :: Lib.itoa n] else if c = 105 then [Lib.itoa n] else if c = 119 then [Lib.itoa n] else []
def partsT (op a b c : Int) (j : Nat) : List (List UInt8) := (List.range j).flatMap fun i => partK (kc op i) (nm a b c i)
theorem partsT_succ (op a b c : Int) (j : Nat) : partsT op a b c (j + 1) = partsT op a b c j ++ partK (kc op j) (nm a b c j) := by simp [partsT, List.range_succ]
theorem partK_len (c n : Int) : (partK c n).length ≤ 1 := by
  unfold partK
  split
  · simp
  · split
    · simp
    · split <;> simp
theorem partsT_len (op a b c : Int) : ∀ j, (partsT op a b c j).length ≤ j
  | 0 => Nat.le_refl _
  | j + 1 => by
    have h1 := partsT_len op a b c j
    have h2 := partK_len (kc op j) (nm a b c j)
    rw [partsT_succ, List.length_append]
    omega
/-- How an instruction is written. -/
def textL (op a b c : Int) : List UInt8 := if rightI op a b c then Lib.join (nameN op :: partsT op a b c 3) [32] else []
def textS (op a b c : Int) : ByteArray := ⟨(textL op a b c).toArray⟩
def strV (l : List UInt8) : Value := .string ⟨l.toArray⟩
theorem own_kind {w : World} {B : Nat} {e : TypeId} {size : Nat} {v : Value} {n : Nat} {xs : List Value} (h : w.ownsRow B e size v n xs) : ∀ g, v.ownBlock = some g → ∃ c, w.heap[g]? = some (.cells c e (0, 0)) := by
  intro g hg
  rcases h.2 with ⟨rfl, _⟩ | ⟨g', cap, cur, rfl, _, hgg, _⟩
  · simp [Value.ownBlock] at hg
  · simp [Value.ownBlock] at hg
    subst hg
    exact ⟨cur, hgg⟩
theorem own_iter {w : World} {B e size n : Nat} {v : Value} {xs : List Value} {k : Nat} {s : ByteArray} {pos : Nat} (h : w.ownsRow B e size v n xs) (hk : w.heap[k]? = some (.stringIter s pos)) (pos' : Nat) : (w.iterAt k s pos').ownsRow B e size v n xs := by
  refine ⟨h.1, ?_⟩
  rcases h.2 with h2 | ⟨g, cap, cur, hv, hB, hg, r⟩
  · exact .inl h2
  · refine .inr ⟨g, cap, cur, hv, hB, ?_, r⟩
    have hkg : g ≠ k := by
      intro e1
      rw [e1, hk] at hg
      cases hg
    rw [Lib.iterAt_other w k g s pos' hkg]
    exact hg
theorem infoStr : (Tryd.prog.info? 9).map (fun i => (i.zero, i.size, i.bytes)) = some (some (.string ⟨#[]⟩), 1, 16) := by kernel_rfl
/-- A row of texts. -/
def RowStr (B : Nat) (ls : List (List UInt8)) : Value → World → Prop := fun v w => w.ownsRow B 9 1 v ls.length (ls.map strV)
theorem rowStr_stab (B : Nat) (ls : List (List UInt8)) : ∀ v w w', RowStr B ls v w → Below w.heap.size w w' → RowStr B ls v w' := fun v w w' h hb => own_below h hb

theorem row_ne {w : World} {B : Nat} {e e' : TypeId} {size : Nat} {v : Value} {n : Nat} {xs : List Value} {k : Nat} {cs : Array Value} (h : w.ownsRow B e size v n xs) (hk : Blk w k cs e') (hne : e ≠ e') : v.ownBlock = none ∨ v.ownBlock ≠ some k := by
  cases hv : v.ownBlock with
  | none => exact .inl rfl
  | some g =>
    refine .inr fun e1 => ?_
    cases e1
    obtain ⟨c, hc⟩ := own_kind h _ hv
    have h2 : w.heap[k]? = some (.cells cs e' (0, 0)) := hk
    rw [h2] at hc
    cases hc
    exact hne rfl
theorem size_set (w : World) (p : Addr) (v : Value) : (w.setCell p v).heap.size = w.heap.size := by simp [World.setCell]
theorem grown_set (w : World) (b o : Nat) (v : Value) : w.grownBy (w.setCell ⟨b, o, none⟩ v) (some b) :=
  ⟨rfl, rfl, rfl, by rw [size_set]; exact Nat.le_refl _, fun i hi hne => Below.heap_setCell _ _ _ _ (fun e => hne (by rw [e]))⟩
theorem row_not_iter {w : World} {B : Nat} {e : TypeId} {size : Nat} {v : Value} {n : Nat} {xs : List Value} {k : Nat} {s : ByteArray} {pos : Nat} (h : w.ownsRow B e size v n xs) (hk : w.heap[k]? = some (.stringIter s pos)) : v.ownBlock ≠ some k := by
  intro e1
  obtain ⟨c, hc⟩ := own_kind h _ e1
  rw [hk] at hc
  cases hc
theorem iter_grown {w w' : World} {B : Nat} {e : TypeId} {size : Nat} {v : Value} {n : Nat} {xs : List Value} {k : Nat} {s : ByteArray} {pos : Nat} (h : w.ownsRow B e size v n xs) (hk : w.heap[k]? = some (.stringIter s pos)) (hg : w.grownBy w' v.ownBlock) : w'.heap[k]? = some (.stringIter s pos) :=
  (hg.block k (Array.getElem?_eq_some_iff.1 hk).1 (fun e1 => row_not_iter h hk e1.symm)).trans hk
theorem blk_grown {w w' : World} {B : Nat} {e e' : TypeId} {size : Nat} {v : Value} {n : Nat} {xs : List Value} {k : Nat} {cs : Array Value} (h : w.ownsRow B e size v n xs) (hk : Blk w k cs e') (hne : e ≠ e') (hg : w.grownBy w' v.ownBlock) : Blk w' k cs e' :=
  (hg.block k hk.lt (fun e1 => by
    rcases row_ne h hk hne with h1 | h1
    · rw [h1] at e1; cases e1
    · exact h1 e1.symm)).trans hk
theorem iter_below {w w' : World} {k : Nat} {s : ByteArray} {pos : Nat} (hk : w.heap[k]? = some (.stringIter s pos)) (hb : Below w.heap.size w w') : w'.heap[k]? = some (.stringIter s pos) := (hb.block k (Array.getElem?_eq_some_iff.1 hk).1).trans hk
theorem row_one (W : World) (u : Value) (e : TypeId) {B : Nat} (hB : B ≤ W.heap.size) : (W.alloc (.cells #[u] e)).ownsRow B e 1 (.slice (some ⟨W.heap.size, 0, none⟩) 1 1) 1 [u] :=
  ⟨rfl, .inr ⟨W.heap.size, 1, #[u], rfl, hB, Blk.new W #[u] e, Nat.le_refl _, by decide, rfl, rfl⟩⟩
/-- A new array of three numbers. -/
def NewArr (B : Nat) : Value → World → Prop := fun v w => ∃ g, v = .pointer (some ⟨g, 0, none⟩) ∧ B ≤ g ∧ Blk w g #[.int .i64 0, .int .i64 0, .int .i64 0] 45
theorem newArr_stab (B : Nat) : ∀ v w w', NewArr B v w → Below w.heap.size w w' → NewArr B v w' := fun v w w' ⟨g, h1, h2, h3⟩ hb => ⟨g, h1, h2, h3.below hb h3.lt⟩

theorem lens_le (k : Nat) : ∀ xs : List (List UInt8), (∀ x ∈ xs, x.length ≤ k) → Lib.lens xs ≤ k * xs.length
  | [], _ => Nat.zero_le _
  | x :: xs, h => by
    have h1 := lens_le k xs fun y hy => h y (List.mem_cons_of_mem _ hy)
    have h2 := h x List.mem_cons_self
    have h3 : Lib.lens (x :: xs) = x.length + Lib.lens xs := by simp [Lib.lens]
    rw [h3, List.length_cons, Nat.mul_succ]
    omega
theorem name_short (op : Int) : (nameN op).length ≤ 30 := by
  unfold nameN
  split
  · exact Nat.zero_le _
  · rcases Nat.lt_or_ge op.toNat 30 with h | h
    · have : ∀ k, k < 30 → (nameL.getD k []).length ≤ 30 := by decide +kernel
      exact this _ h
    · rw [List.getD_eq_getElem?_getD, List.getElem?_eq_none (by rw [nameL_len]; exact h)]
      exact Nat.zero_le _
theorem part_short (c n : Int) (hn : inI n) : ∀ x ∈ partK c n, x.length ≤ 30 := by
  have h := Lib.itoa_length_le n hn.1 hn.2
  unfold partK
  split
  · intro x hx
    rw [List.mem_singleton.1 hx, List.length_cons]
    omega
  · split
    · intro x hx
      rw [List.mem_singleton.1 hx]
      omega
    · split
      · intro x hx
        rw [List.mem_singleton.1 hx]
        omega
      · intro x hx
        cases hx
theorem parts_short (op a b c : Int) (hn : ∀ j, inI (nm a b c j)) (j : Nat) : ∀ x ∈ partsT op a b c j, x.length ≤ 30 := fun x hx => by
  unfold partsT at hx
  obtain ⟨i, _, hi⟩ := List.mem_flatMap.1 hx
  exact part_short _ _ (hn i) x hi
theorem join_small (op a b c : Int) (hn : ∀ j, inI (nm a b c j)) : (Lib.join (nameN op :: partsT op a b c 3) [32]).length ≤ 140737488355328 := by
  have h1 := partsT_len op a b c 3
  have h2 := lens_le 30 (nameN op :: partsT op a b c 3) fun x hx => by
    rcases List.mem_cons.1 hx with h | h
    · rw [h]; exact name_short op
    · exact parts_short op a b c hn 3 x h
  rw [Lib.join_length]
  rw [List.length_cons] at h2
  show 1 * _ + _ ≤ _
  omega

set_option maxRecDepth 100000 in
set_option maxHeartbeats 3200000 in
theorem text_any (op a b c : Int) (w : World) (h : Env w) (ho : inI op) (ha : inI a) (hb : inI b) (hc : inI c) :
    Calls Tryd.prog 14 #[.agg #[.int .i64 (op), .int .i64 (a), .int .i64 (b), .int .i64 (c)]] w fun e w' => e = .returned (.string (textS op a b c)) ∧ Below w.heap.size w w' := by
  have HIN := Lib.hid (nm_in ha hb hc)
  have HII := Lib.hid (And.intro ho (And.intro ha (And.intro hb hc)))
  have HE := Lib.hid h
  obtain ⟨o0, o1⟩ := ho
  clear h ha hb hc
  go_enter Tryd.func14, Tryd.ntmps14
  go_wp2_with fail
  obtain ⟨W1, hW1⟩ : ∃ W1, w.alloc (.cells #[.int .i64 (op), .int .i64 (a), .int .i64 (b), .int .i64 (c)] 23) = W1 := ⟨_, rfl⟩
  have K1 := Lib.hid (show Blk W1 w.heap.size #[.int .i64 (op), .int .i64 (a), .int .i64 (b), .int .i64 (c)] 23 by rw [← hW1]; exact Blk.new _ _ _)
  have B1 := Lib.hid (show Below w.heap.size w W1 by rw [← hW1]; go_grown)
  rw [hW1]
  clear hW1
  refine (right_any op a b c W1 HII.out.1 HII.out.2.1 HII.out.2.2.1 HII.out.2.2.2).mono ?_
  rintro e w2 ⟨rfl, b2⟩
  have K2 := Lib.hid (K1.out.below b2 K1.out.lt)
  have B2 := Lib.hid (below_then B1.out B1.out.size b2)
  have HE2 := Lib.hid (HE.out.grow B2.out)
  clear K1 B1 b2
  obtain ⟨kx, hkx⟩ : ∃ kx, w.heap.size = kx := ⟨_, rfl⟩
  rw [hkx] at K2 ⊢
  clear hkx
  cases hr : rightI op a b c with
  | false =>
    have HT := Lib.hid (show textS op a b c = ⟨#[]⟩ by unfold textS textL; rw [hr, if_neg (by decide)])
    clear hr
    go_wp2
    go_ret
    exact ⟨by rw [HT.out]; rfl, B2.out⟩
  | true =>
    have HT := Lib.hid (show textS op a b c = ⟨(Lib.join (nameN op :: partsT op a b c 3) [32]).toArray⟩ by unfold textS textL; rw [hr, if_pos rfl])
    have HRT := Lib.hid hr
    clear hr
    go_upto_region 3 with fail
    refine wp_flow_lit 13 (fun w' => Env w' ∧ Blk w' kx #[.int .i64 (op), .int .i64 (a), .int .i64 (b), .int .i64 (c)] 23 ∧ Below w2.heap.size w2 w') [none, none, none, some (RowStr w2.heap.size [nameN op]), none, none, none, none, none, none, none, some (NewArr w2.heap.size), some (RowStr w2.heap.size [nameN op])] (by kernel_rfl) (by kernel_rfl)
      ⟨HE2.out.grow (Below.drew (Below.refl _ _)), K2.out.drew, (Below.drew (Below.refl _ _))⟩ (fun w1 w2 h hb => ⟨h.1.grow hb, h.2.1.below hb h.2.1.lt, below_then h.2.2 h.2.2.size hb⟩) ⟨rowStr_stab _ _, newArr_stab _, rowStr_stab _ _, trivial⟩ ?_
    (try simp (config := { maxSteps := 10000000 }) only [specV, addF, Act.put, List.setIfInBounds_toArray, List.set_cons_zero, List.set_cons_succ, List.take_succ_cons, List.take_zero, List.drop_succ_cons, List.drop_zero])
    (apply Exists.intro; refine ⟨fun vs w1 hS hB hf => ?_, ?_⟩; (focus (clear hS hB hf; go_simp; first | exact ⟨Below.refl _ _, rfl⟩ | exact rfl)); (try simp (config := { maxSteps := 10000000 }) only [specV, addF, Act.put, List.setIfInBounds_toArray, List.set_cons_zero, List.set_cons_succ, List.take_succ_cons, List.take_zero, List.drop_succ_cons, List.drop_zero]))
    (apply Exists.intro; refine ⟨fun vs w1 hS hB hf => ?_, ?_⟩; (focus (have L1 := hS.2.1.cell; have l1 := hS.2.1.lt; clear hS hB hf; go_simp; first | exact ⟨Below.refl _ _, rfl⟩ | exact rfl)); (try simp (config := { maxSteps := 10000000 }) only [specV, addF, Act.put, List.setIfInBounds_toArray, List.set_cons_zero, List.set_cons_succ, List.take_succ_cons, List.take_zero, List.drop_succ_cons, List.drop_zero]))
    (apply Exists.intro; refine ⟨fun vs w1 hS hB hf => ?_, ?_⟩; (focus (go_simp; exact (name_any op w1 hS.1 HII.out.1).mono fun e w2 ⟨he, hb⟩ => callPost.of he hb rfl)); (try simp (config := { maxSteps := 10000000 }) only [specV, addF, Act.put, List.setIfInBounds_toArray, List.set_cons_zero, List.set_cons_succ, List.take_succ_cons, List.take_zero, List.drop_succ_cons, List.drop_zero]))
    (refine ⟨fun vs w1 hS hB hf => ?_, ?_⟩; (focus (have hz := hS.2.2.size; go_simp; exact ⟨by go_grown, row_one w1 (strV (nameN op)) 9 hz⟩)); (try simp (config := { maxSteps := 10000000 }) only [specV, addF, Act.put, List.setIfInBounds_toArray, List.set_cons_zero, List.set_cons_succ, List.take_succ_cons, List.take_zero, List.drop_succ_cons, List.drop_zero]))
    (apply Exists.intro; refine ⟨fun vs w1 hS hB hf => ?_, ?_⟩; (focus (clear hS hB hf; go_simp; first | exact ⟨Below.refl _ _, rfl⟩ | exact rfl)); (try simp (config := { maxSteps := 10000000 }) only [specV, addF, Act.put, List.setIfInBounds_toArray, List.set_cons_zero, List.set_cons_succ, List.take_succ_cons, List.take_zero, List.drop_succ_cons, List.drop_zero]))
    (apply Exists.intro; refine ⟨fun vs w1 hS hB hf => ?_, ?_⟩; (focus (have L1 := hS.2.1.cell; have l1 := hS.2.1.lt; clear hS hB hf; go_simp; first | exact ⟨Below.refl _ _, rfl⟩ | exact rfl)); (try simp (config := { maxSteps := 10000000 }) only [specV, addF, Act.put, List.setIfInBounds_toArray, List.set_cons_zero, List.set_cons_succ, List.take_succ_cons, List.take_zero, List.drop_succ_cons, List.drop_zero]))
    (apply Exists.intro; refine ⟨fun vs w1 hS hB hf => ?_, ?_⟩; (focus (clear hS hB hf; go_simp; first | exact ⟨Below.refl _ _, rfl⟩ | exact rfl)); (try simp (config := { maxSteps := 10000000 }) only [specV, addF, Act.put, List.setIfInBounds_toArray, List.set_cons_zero, List.set_cons_succ, List.take_succ_cons, List.take_zero, List.drop_succ_cons, List.drop_zero]))
    (apply Exists.intro; refine ⟨fun vs w1 hS hB hf => ?_, ?_⟩; (focus (have L1 := hS.2.1.cell; have l1 := hS.2.1.lt; clear hS hB hf; go_simp; first | exact ⟨Below.refl _ _, rfl⟩ | exact rfl)); (try simp (config := { maxSteps := 10000000 }) only [specV, addF, Act.put, List.setIfInBounds_toArray, List.set_cons_zero, List.set_cons_succ, List.take_succ_cons, List.take_zero, List.drop_succ_cons, List.drop_zero]))
    (apply Exists.intro; refine ⟨fun vs w1 hS hB hf => ?_, ?_⟩; (focus (clear hS hB hf; go_simp; first | exact ⟨Below.refl _ _, rfl⟩ | exact rfl)); (try simp (config := { maxSteps := 10000000 }) only [specV, addF, Act.put, List.setIfInBounds_toArray, List.set_cons_zero, List.set_cons_succ, List.take_succ_cons, List.take_zero, List.drop_succ_cons, List.drop_zero]))
    (apply Exists.intro; refine ⟨fun vs w1 hS hB hf => ?_, ?_⟩; (focus (have L1 := hS.2.1.cell; have l1 := hS.2.1.lt; clear hS hB hf; go_simp; first | exact ⟨Below.refl _ _, rfl⟩ | exact rfl)); (try simp (config := { maxSteps := 10000000 }) only [specV, addF, Act.put, List.setIfInBounds_toArray, List.set_cons_zero, List.set_cons_succ, List.take_succ_cons, List.take_zero, List.drop_succ_cons, List.drop_zero]))
    (apply Exists.intro; refine ⟨fun vs w1 hS hB hf => ?_, ?_⟩; (focus (clear hS hB hf; go_simp; first | exact ⟨Below.refl _ _, rfl⟩ | exact rfl)); (try simp (config := { maxSteps := 10000000 }) only [specV, addF, Act.put, List.setIfInBounds_toArray, List.set_cons_zero, List.set_cons_succ, List.take_succ_cons, List.take_zero, List.drop_succ_cons, List.drop_zero]))
    (refine ⟨fun vs w1 hS hB hf => ?_, ?_⟩; (focus (have hz := hS.2.2.size; go_simp; exact ⟨by go_grown, w1.heap.size, rfl, hz, Blk.new w1 _ _⟩)); (try simp (config := { maxSteps := 10000000 }) only [specV, addF, Act.put, List.setIfInBounds_toArray, List.set_cons_zero, List.set_cons_succ, List.take_succ_cons, List.take_zero, List.drop_succ_cons, List.drop_zero]))
    (refine ⟨fun vs w1 hS hB hf => ?_, ?_⟩; (focus (obtain ⟨_, h3, _⟩ := hf; have r3 := h3 rfl; go_simp; exact ⟨Below.refl _ _, r3⟩)); (try simp (config := { maxSteps := 10000000 }) only [specV, addF, Act.put, List.setIfInBounds_toArray, List.set_cons_zero, List.set_cons_succ, List.take_succ_cons, List.take_zero, List.drop_succ_cons, List.drop_zero]))
    intro vs w5 hS hB5 hfin
    obtain ⟨h12, ⟨kn, hkn, hBn, kn5⟩, _⟩ := hfin
    have hkn' : vs 11 = .pointer (some ⟨kn, 0, none⟩) := hkn
    have h12' : RowStr w2.heap.size [nameN op] (vs 12) w5 := h12
    dsimp only
    rw [hkn']
    generalize vs 12 = v3 at *
    have hne := row_ne h12' kn5 (by decide)
    have N5 := kn5
    have c5 := kn5.cell
    have f5 := kn5.frozen
    have l5 := kn5.lt
    have HS5 := Lib.hid hS
    have cx := hS.2.1.cell
    have lx := hS.2.1.lt
    have hkk : kx ≠ kn := by have := K2.out.lt; omega
    have hkk2 : ¬ kn = kx := fun e => hkk e.symm
    have HKK := Lib.hid hkk
    clear h12 hkn hkn' hS hB5
    go_wp2_with fail
    obtain ⟨W6, hW6⟩ : ∃ W6, ((w5.setCell ⟨kn, 0, none⟩ (.int .i64 a)).setCell ⟨kn, 1, none⟩ (.int .i64 b)).setCell ⟨kn, 2, none⟩ (.int .i64 c) = W6 := ⟨_, rfl⟩
    have N6 : Blk W6 kn #[.int .i64 a, .int .i64 b, .int .i64 c] 45 := by
      rw [← hW6]
      have := ((N5.set 0 (.int .i64 a)).set 1 (.int .i64 b)).set 2 (.int .i64 c)
      exact this
    have r1 := World.ownsRow.kept (row := some kn) h12' (grown_set w5 kn 0 (.int .i64 a)) hne
    have r2 := World.ownsRow.kept (row := some kn) r1 (grown_set _ kn 1 (.int .i64 b)) hne
    have r3 := World.ownsRow.kept (row := some kn) r2 (grown_set _ kn 2 (.int .i64 c)) hne
    rw [hW6] at r3
    have b6 : Below w2.heap.size w2 W6 := by rw [← hW6]; exact ((HS5.out.2.2.setCell hBn _).setCell hBn _).setCell hBn _
    have R6 := Lib.hid r3
    have NN6 := Lib.hid N6
    have BB6 := Lib.hid b6
    rw [hW6]
    clear hW6 r1 r2 r3 h12' hne N5 c5 f5 l5 HS5 cx lx N6 b6 kn5 hkk hkk2
    refine (kinds_any op W6 HII.out.1).mono ?_
    rintro e w7 ⟨rfl, b7⟩
    have R7 := Lib.hid (own_below R6.out b7)
    have N7 := Lib.hid (NN6.out.below b7 NN6.out.lt)
    have B7 := Lib.hid (below_then BB6.out BB6.out.size b7)
    have HZ7 := Lib.hid (show w2.heap.size ≤ w7.heap.size from B7.out.size)
    clear b7 R6 NN6 BB6
    have HL := Lib.hid (knd_len op)
    have HAT := Lib.hid (knd_at op)
    generalize hn : (kndL op).length = n at *
    have Hn := Lib.hid hn
    clear hn
    go_wp2
    go_loopg [3, 5, 6] n (fun gk v3 v5 v6 wr => ∃ j : Nat, j + gk = n ∧ wr.heap[w7.heap.size]? = some (.stringIter (kndS op) j) ∧ Below w2.heap.size w2 wr ∧ w7.heap.size < wr.heap.size ∧ Blk wr kn #[.int .i64 a, .int .i64 b, .int .i64 c] 45 ∧
      RowStr w2.heap.size (nameN op :: partsT op a b c j) v3 wr)
    case atStart =>
      have hg : Below w7.heap.size w7 (w7.iter (kndS op) 0) := (Below.refl _ _).alloc (Nat.le_refl _) _
      exact ⟨0, by omega, World.iter_heap w7 (kndS op) 0, below_then B7.out B7.out.size hg, (by show w7.heap.size < (w7.alloc _).heap.size; simp), N7.out.below hg N7.out.lt, own_below R7.out hg⟩
    case round =>
      obtain ⟨j, hj, hit, hb, hz, hN, hR⟩ := hrel
      have Hj := Lib.hid hj
      have Hit := Lib.hid hit
      have HB := Lib.hid hb
      have HZ := Lib.hid hz
      have HN := Lib.hid hN
      have HR := Lib.hid hR
      clear hj hit hb hz hN hR
      have hn3 : n = 3 ∨ n = 0 := by have h1 := HL.out; split at h1 <;> omega
      have hkn7 := N7.out.lt
      rcases Nat.lt_or_ge j n with hlt | hge
      · have Hlt := Lib.hid hlt
        have hj3 : j < 3 := by omega
        obtain ⟨hl0, hl1, hl2⟩ := HAT.out j hlt
        have hnx := fun ty => Lib.run_next_ascii_at (P := Tryd.prog) wr w7.heap.size (kndS op) j ty Hit.out hl0 hl2
        rw [hl1] at hnx hl2
        have Hit2 := Lib.hid (Lib.iterAt_heap wr w7.heap.size (kndS op) j (j + 1) Hit.out)
        have HB2 := Lib.hid (Lib.below_iterAt HB.out HZ7.out (kndS op) (j + 1))
        have HR2 := Lib.hid (own_iter HR.out Hit.out (j + 1))
        have HN2 := Lib.hid (show Blk (wr.iterAt w7.heap.size (kndS op) (j + 1)) kn #[.int .i64 a, .int .i64 b, .int .i64 c] 45 from (Lib.iterAt_other wr w7.heap.size kn (kndS op) (j + 1) (by omega)).trans HN.out)
        have HZ2 := Lib.hid (show w7.heap.size < (wr.iterAt w7.heap.size (kndS op) (j + 1)).heap.size from (Array.getElem?_eq_some_iff.1 Hit2.out).1)
        generalize wr.iterAt w7.heap.size (kndS op) (j + 1) = wi at *
        have hk : wi.cell? ⟨kn, j, none⟩ = some (.int .i64 (nm a b c j)) := by
          rw [HN2.out.cell j]
          match j, hj3 with
          | 0, _ => rfl
          | 1, _ => rfl
          | 2, _ => rfl
        have hkl : kn < wi.heap.size := HN2.out.lt
        have HPL := Lib.hid (show (nameN op :: partsT op a b c j).length ≤ 4 by have := partsT_len op a b c j; rw [List.length_cons]; omega)
        have HNI := Lib.hid (HIN.out j)
        obtain ⟨nj, hnj⟩ : ∃ nj, nm a b c j = nj := ⟨_, rfl⟩
        rw [hnj] at hk HNI
        have hkc : kc op j = ((((kndL op).getD j 0).toNat : Nat) : Int) := rfl
        have hcb : ((((kndL op).getD j 0).toNat : Nat) : Int) ≤ 127 := by omega
        generalize ((((kndL op).getD j 0).toNat : Nat) : Int) = ch at *
        obtain ⟨n0, n1⟩ := HNI.out
        have i3 : (j : Int) < 3 := by omega
        clear hlt hl0 hl1 hl2 HR HN HZ HB Hit
        rcases (show ch = 114 ∨ ch = 105 ∨ ch = 119 ∨ (¬ ch = 114 ∧ ¬ ch = 105 ∧ ¬ ch = 119) by omega) with h | h | h | ⟨h1, h2, h3⟩
        · subst h
          have HSU := Lib.hid (show nameN op :: partsT op a b c (j + 1) = (nameN op :: partsT op a b c j) ++ [114 :: Lib.itoa nj] by rw [partsT_succ, hkc, hnj, partK, if_pos rfl]; rfl)
          have HUV := Lib.hid (show [114 :: Lib.itoa nj].map strV = [Value.string (⟨#[114]⟩ ++ ⟨(Lib.itoa nj).toArray⟩)] by rw [List.map_cons, List.map_nil, strV]; congr 2)
          clear hkc hnj
          go_wp2_with fail
          refine (itoa_any nj wi (HE2.out.grow HB2.out) HNI.out).mono ?_
          rintro e w8 ⟨rfl, b8⟩
          have R8 := Lib.hid (own_below HR2.out b8)
          have N8 := Lib.hid (HN2.out.below b8 HN2.out.lt)
          have I8 := Lib.hid (iter_below Hit2.out b8)
          have B8 := Lib.hid (below_then HB2.out HB2.out.size b8)
          have Z8 := Lib.hid (show w7.heap.size < w8.heap.size from Nat.lt_of_lt_of_le HZ2.out b8.size)
          have HSZ := Lib.hid (show w2.heap.size ≤ w8.heap.size from B8.out.size)
          have hS1 : (⟨(Lib.itoa nj).toArray⟩ : ByteArray).size ≤ 21 := by have := Lib.itoa_length_le nj HNI.out.1 HNI.out.2; simpa [ByteArray.size] using this
          generalize (⟨(Lib.itoa nj).toArray⟩ : ByteArray) = S at *
          clear b8 hk hkl HR2 HN2 Hit2 HB2 HZ2
          go_wp2_with (first
            | (at_builtin; go_loud (refine app2 (w0 := w2) (W := w8.alloc _) w2.heap.size rfl _ _ 41 9 (.string ⟨#[]⟩) 1 16 rfl Tryd.underlying41 infoStr rfl (by decide) (by decide) _ _ _ [.string (⟨#[114]⟩ ++ S)] ⟨w8.heap.size, 0, none⟩ 1 1 rfl rfl rfl (by intro u hu; simp at hu; subst hu; rfl) (World.ownsRow.alloc R8.out _) (RdL.new w8 #[.string (⟨#[114]⟩ ++ S)] _) (B8.out.alloc HSZ.out _) (by have := HSZ.out; simp; omega) (by have h9 := HPL.out; rw [List.length_cons] at h9; simp only [List.length_cons]; omega) ?_; intro v1 w9 hown1 hb9 hgb9 _)))
          go_roundg (gk - 1)
          case measure => have := Hj.out; have := Hlt.out; omega
          case rel => exact ⟨j + 1, by have := Hj.out; have := Hlt.out; omega, iter_grown (World.ownsRow.alloc R8.out _) (iter_below I8.out (by go_grown)) hgb9, hb9, Nat.lt_of_lt_of_le (by have := Z8.out; simp; omega) hgb9.size, blk_grown (World.ownsRow.alloc R8.out _) (N8.out.alloc _) (by decide) hgb9, by
            unfold RowStr
            rw [HSU.out, List.map_append, List.length_append]
            rw [HUV.out]
            exact hown1⟩
        · subst h
          have HSU := Lib.hid (show nameN op :: partsT op a b c (j + 1) = (nameN op :: partsT op a b c j) ++ [Lib.itoa nj] by rw [partsT_succ, hkc, hnj, partK, if_neg (by decide), if_pos rfl]; rfl)
          have HUV := Lib.hid (show [Lib.itoa nj].map strV = [Value.string ⟨(Lib.itoa nj).toArray⟩] from rfl)
          clear hkc hnj
          go_wp2_with fail
          refine (itoa_any nj wi (HE2.out.grow HB2.out) HNI.out).mono ?_
          rintro e w8 ⟨rfl, b8⟩
          have R8 := Lib.hid (own_below HR2.out b8)
          have N8 := Lib.hid (HN2.out.below b8 HN2.out.lt)
          have I8 := Lib.hid (iter_below Hit2.out b8)
          have B8 := Lib.hid (below_then HB2.out HB2.out.size b8)
          have Z8 := Lib.hid (show w7.heap.size < w8.heap.size from Nat.lt_of_lt_of_le HZ2.out b8.size)
          have HSZ := Lib.hid (show w2.heap.size ≤ w8.heap.size from B8.out.size)
          have hS1 : (⟨(Lib.itoa nj).toArray⟩ : ByteArray).size ≤ 21 := by have := Lib.itoa_length_le nj HNI.out.1 HNI.out.2; simpa [ByteArray.size] using this
          generalize (⟨(Lib.itoa nj).toArray⟩ : ByteArray) = S at *
          clear b8 hk hkl HR2 HN2 Hit2 HB2 HZ2
          go_wp2_with (first
            | (at_builtin; go_loud (refine app2 (w0 := w2) (W := w8.alloc _) w2.heap.size rfl _ _ 41 9 (.string ⟨#[]⟩) 1 16 rfl Tryd.underlying41 infoStr rfl (by decide) (by decide) _ _ _ [.string S] ⟨w8.heap.size, 0, none⟩ 1 1 rfl rfl rfl (by intro u hu; simp at hu; subst hu; rfl) (World.ownsRow.alloc R8.out _) (RdL.new w8 #[.string S] _) (B8.out.alloc HSZ.out _) (by have := HSZ.out; simp; omega) (by have h9 := HPL.out; rw [List.length_cons] at h9; simp only [List.length_cons]; omega) ?_; intro v1 w9 hown1 hb9 hgb9 _)))
          go_roundg (gk - 1)
          case measure => have := Hj.out; have := Hlt.out; omega
          case rel => exact ⟨j + 1, by have := Hj.out; have := Hlt.out; omega, iter_grown (World.ownsRow.alloc R8.out _) (iter_below I8.out (by go_grown)) hgb9, hb9, Nat.lt_of_lt_of_le (by have := Z8.out; simp; omega) hgb9.size, blk_grown (World.ownsRow.alloc R8.out _) (N8.out.alloc _) (by decide) hgb9, by
            unfold RowStr
            rw [HSU.out, List.map_append, List.length_append]
            rw [HUV.out]
            exact hown1⟩
        · subst h
          have HSU := Lib.hid (show nameN op :: partsT op a b c (j + 1) = (nameN op :: partsT op a b c j) ++ [Lib.itoa nj] by rw [partsT_succ, hkc, hnj, partK, if_neg (by decide), if_neg (by decide), if_pos rfl]; rfl)
          have HUV := Lib.hid (show [Lib.itoa nj].map strV = [Value.string ⟨(Lib.itoa nj).toArray⟩] from rfl)
          clear hkc hnj
          go_wp2_with fail
          refine (itoa_any nj wi (HE2.out.grow HB2.out) HNI.out).mono ?_
          rintro e w8 ⟨rfl, b8⟩
          have R8 := Lib.hid (own_below HR2.out b8)
          have N8 := Lib.hid (HN2.out.below b8 HN2.out.lt)
          have I8 := Lib.hid (iter_below Hit2.out b8)
          have B8 := Lib.hid (below_then HB2.out HB2.out.size b8)
          have Z8 := Lib.hid (show w7.heap.size < w8.heap.size from Nat.lt_of_lt_of_le HZ2.out b8.size)
          have HSZ := Lib.hid (show w2.heap.size ≤ w8.heap.size from B8.out.size)
          have hS1 : (⟨(Lib.itoa nj).toArray⟩ : ByteArray).size ≤ 21 := by have := Lib.itoa_length_le nj HNI.out.1 HNI.out.2; simpa [ByteArray.size] using this
          generalize (⟨(Lib.itoa nj).toArray⟩ : ByteArray) = S at *
          clear b8 hk hkl HR2 HN2 Hit2 HB2 HZ2
          go_wp2_with (first
            | (at_builtin; go_loud (refine app2 (w0 := w2) (W := w8.alloc _) w2.heap.size rfl _ _ 41 9 (.string ⟨#[]⟩) 1 16 rfl Tryd.underlying41 infoStr rfl (by decide) (by decide) _ _ _ [.string S] ⟨w8.heap.size, 0, none⟩ 1 1 rfl rfl rfl (by intro u hu; simp at hu; subst hu; rfl) (World.ownsRow.alloc R8.out _) (RdL.new w8 #[.string S] _) (B8.out.alloc HSZ.out _) (by have := HSZ.out; simp; omega) (by have h9 := HPL.out; rw [List.length_cons] at h9; simp only [List.length_cons]; omega) ?_; intro v1 w9 hown1 hb9 hgb9 _)))
          go_roundg (gk - 1)
          case measure => have := Hj.out; have := Hlt.out; omega
          case rel => exact ⟨j + 1, by have := Hj.out; have := Hlt.out; omega, iter_grown (World.ownsRow.alloc R8.out _) (iter_below I8.out (by go_grown)) hgb9, hb9, Nat.lt_of_lt_of_le (by have := Z8.out; simp; omega) hgb9.size, blk_grown (World.ownsRow.alloc R8.out _) (N8.out.alloc _) (by decide) hgb9, by
            unfold RowStr
            rw [HSU.out, List.map_append, List.length_append]
            rw [HUV.out]
            exact hown1⟩
        · have HSU := Lib.hid (show nameN op :: partsT op a b c (j + 1) = nameN op :: partsT op a b c j by rw [partsT_succ, hkc, partK, if_neg h1, if_neg h2, if_neg h3, List.append_nil])
          have z1 : (ch == 114) = false := by simpa using h1
          have z2 : (ch == 105) = false := by simpa using h2
          have z3 : (ch == 119) = false := by simpa using h3
          clear hkc hnj h1 h2 h3
          go_wp2
          go_roundg (gk - 1)
          case measure => have := Hj.out; have := Hlt.out; omega
          case rel => exact ⟨j + 1, by have := Hj.out; have := Hlt.out; omega, Hit2.out, HB2.out, HZ2.out, HN2.out, by unfold RowStr; rw [HSU.out]; exact HR2.out⟩
      · have hop : 0 ≤ op ∧ op ≤ 29 := by
          have h1 := HRT.out
          unfold rightI at h1
          rw [Bool.and_eq_true, decide_eq_true_eq] at h1
          exact h1.1
        have hn3' : n = 3 := by have h1 := HL.out; rw [if_pos hop] at h1; exact h1
        have hj3 : j = 3 := by have := Hj.out; omega
        subst hj3
        have hnx := fun ty => Lib.run_next_end_at (P := Tryd.prog) wr w7.heap.size (kndS op) 3 ty Hit.out (by have h := Hn.out; simp [kndS, ByteArray.size]; omega)
        have hR := HR.out
        unfold RowStr at hR
        rcases hR.2 with ⟨_, h0⟩ | ⟨g, cap, cur, hv, hg1, hg2, hg3, _⟩
        · simp at h0
        · have hcells : ∀ (i : Nat) x, ((nameN op :: partsT op a b c 3).map fun l => (⟨l.toArray⟩ : ByteArray))[i]? = some x → wr.cell? ⟨g, 0 + i, none⟩ = some (.string x) := fun i x hx => by
            rw [hv] at hR
            obtain ⟨ad, e1, hc⟩ := RdL.own hR i (.string x) (by
              rw [List.getElem?_map] at hx ⊢
              obtain ⟨l, hl, rfl⟩ := Option.map_eq_some_iff.1 hx
              rw [hl]
              rfl)
            cases e1
            rw [← hc]
            congr 1
            simp [Addr.add]
          have hgl : g < wr.heap.size := (Array.getElem?_eq_some_iff.1 hg2).1
          have hjl := join_small op a b c HIN.out
          have gj := Tryd.strings_Join g 0 cap ((nameN op :: partsT op a b c 3).map fun l => (⟨l.toArray⟩ : ByteArray)) ⟨#[32]⟩ wr hcells hgl (by rw [List.length_map, List.length_cons]; have := partsT_len op a b c 3; omega) (by rw [List.length_map]; exact hg3) (by
            rw [List.map_map, show ((fun x : ByteArray => x.data.toList) ∘ fun l : List UInt8 => (⟨l.toArray⟩ : ByteArray)) = id from funext fun l => rfl, List.map_id]
            exact hjl)
          rw [List.map_map, show ((fun x : ByteArray => x.data.toList) ∘ fun l : List UInt8 => (⟨l.toArray⟩ : ByteArray)) = id from funext fun l => rfl, List.map_id, List.length_map] at gj
          have GJ := Lib.hid gj
          subst hv
          clear hge hR hcells hg2 hg3 gj hjl hop hn3 hn3'
          go_wp2_with fail
          refine GJ.out.mono ?_
          rintro e w9 ⟨rfl, b9⟩
          go_wp2
          go_ret
          exact ⟨by rw [HT.out]; rfl, below_then B2.out B2.out.size (below_then HB.out HB.out.size b9)⟩
end Go.Proofs.YtnmjglnllokklaaDoor
