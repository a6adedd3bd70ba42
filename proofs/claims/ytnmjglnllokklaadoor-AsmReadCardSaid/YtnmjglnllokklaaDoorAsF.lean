/- Parse; the program's. -/
import Derived.Test.YtnmjglnllokklaaDoorAsE
set_option linter.unusedVariables false
set_option linter.unusedSimpArgs false
namespace Go.Proofs.YtnmjglnllokklaaDoor
open Go.RowKit

/-- The names, as a row. -/
def RowNm : Value → World → Prop := fun v w => ∃ g, v = .slice (some ⟨g, 0, none⟩) 30 30 ∧ g < w.heap.size ∧ ∀ j, j < namesBA.length → w.cell? ⟨g, 0 + j, none⟩ = some (.string (namesBA.getD j ByteArray.empty))
theorem rowNm_stab : ∀ v w w', RowNm v w → Below w.heap.size w w' → RowNm v w' := fun v w w' ⟨g, h1, h2, h3⟩ hb => ⟨g, h1, Nat.lt_of_lt_of_le h2 hb.size, fun j hj => (hb.cell (p := ⟨g, 0 + j, none⟩) h2).trans (h3 j hj)⟩
theorem namesBA_len : namesBA.length = 30 := by unfold namesBA; rw [List.length_map, nameL_len]
theorem strs_cells (W : World) (zs : List ByteArray) (e : TypeId) : ∀ j, j < zs.length → (W.alloc (.cells (zs.map Value.string).toArray e)).cell? ⟨W.heap.size, j, none⟩ = some (.string (zs.getD j ByteArray.empty)) := fun j hj => by
  obtain ⟨ad, e1, h⟩ := RdL.new W (zs.map Value.string).toArray e j (.string (zs.getD j ByteArray.empty)) (by simp [List.getElem?_eq_getElem hj, List.getD_eq_getElem?_getD])
  cases e1
  rw [← h]
  congr 1
  simp [Addr.add]
theorem fields_row (w : World) (h : Env w) : Calls Tryd.prog 24 #[.string namesB] w fun e w' => ∃ v, e = .returned v ∧ Below w.heap.size w w' ∧ RowNm v w' :=
  (fields_names w h).mono fun e w' ⟨h1, h2⟩ => ⟨_, h1, by rw [h2]; go_grown, ⟨w.heap.size, rfl, by rw [h2]; simp, fun j hj => by
    rw [h2, Nat.zero_add, show (nameL.map fun l => Value.string ⟨l.toArray⟩).toArray = (namesBA.map Value.string).toArray by unfold namesBA; rw [List.map_map]; rfl]
    exact strs_cells w namesBA _ j hj⟩⟩

/-- All but one block as it was. -/
def Gr (k : Nat) (w w' : World) : Prop := w.grownBy w' (some k)
theorem Gr.refl (k : Nat) (w : World) : Gr k w w := ⟨rfl, rfl, rfl, Nat.le_refl _, fun _ _ _ => rfl⟩
theorem Gr.on {k : Nat} {w w1 w2 : World} (h : Gr k w w1) (hb : Below w1.heap.size w1 w2) : Gr k w w2 := ⟨hb.os.trans h.os, hb.tape.trans h.tape, hb.output.trans h.output, Nat.le_trans h.size hb.size, fun i hi hn => (hb.block i (Nat.lt_of_lt_of_le hi h.size)).trans (h.block i hi hn)⟩
theorem Gr.set {k : Nat} {w w1 : World} (h : Gr k w w1) (o : Nat) (v : Value) : Gr k w (w1.setCell ⟨k, o, none⟩ v) :=
  ⟨h.os, h.tape, h.output, by rw [size_set]; exact h.size, fun i hi hn => (Below.heap_setCell _ _ _ _ (fun e => hn (by rw [e]))).trans (h.block i hi hn)⟩
theorem Gr.iter {k : Nat} {w w1 : World} (h : Gr k w w1) {it : Nat} (hit : w.heap.size ≤ it) {s : ByteArray} {p : Nat} (hk : w1.heap[it]? = some (.stringIter s p)) (p' : Nat) : Gr k w (w1.iterAt it s p') := by
  have hb := Lib.below_iterAt (Below.refl it w1) (Nat.le_refl it) s p'
  exact ⟨hb.os.trans h.os, hb.tape.trans h.tape, hb.output.trans h.output, Nat.le_trans h.size hb.size, fun i hi hn => (hb.block i (by omega)).trans (h.block i hi hn)⟩
theorem Gr.below {k B : Nat} {a w w1 : World} (h : Gr k w w1) (hb : Below B a w) (hB : B ≤ w.heap.size) (hk : B ≤ k) : Below B a w1 := ⟨h.os.trans hb.os, h.tape.trans hb.tape, h.output.trans hb.output, Nat.le_trans hb.size h.size, fun i hi => (h.block i (by omega) (fun e => by cases e; omega)).trans (hb.block i hi)⟩
theorem Gr.cell {k : Nat} {w w1 : World} (h : Gr k w w1) {b o : Nat} (hb : b < w.heap.size) (hn : b ≠ k) : w1.cell? ⟨b, o, none⟩ = w.cell? ⟨b, o, none⟩ := by
  have := h.block b hb (fun e => hn (by cases e; rfl))
  simp only [World.cell?, this]
theorem Gr.blk {k : Nat} {w w1 : World} (h : Gr k w w1) {b : Nat} {cs : Array Value} {e : TypeId} (hb : Blk w b cs e) (hn : b ≠ k) : Blk w1 b cs e := (h.block b hb.lt (fun e => hn (by cases e; rfl))).trans hb
/-- Three numbers in an array. -/
def arr3 (ns : List Int) : Array Value := #[.int .i64 (ns.getD 0 0), .int .i64 (ns.getD 1 0), .int .i64 (ns.getD 2 0)]
theorem arr3_zero (ns : List Int) : arr3 (ns ++ [0]) = arr3 ns := by
  have : ∀ i, (ns ++ [0]).getD i 0 = ns.getD i 0 := fun i => by
    rw [List.getD_eq_getElem?_getD, List.getD_eq_getElem?_getD, List.getElem?_append]
    split
    · rfl
    · rename_i h
      rw [List.getElem?_eq_none (by omega : ns.length ≤ i)]
      cases hi : i - ns.length with
      | zero => rfl
      | succ k => rfl
  unfold arr3
  rw [this, this, this]
theorem arr3_set (ns : List Int) (j : Nat) (hj : j < 3) (hl : ns.length = j) (x : Int) : (arr3 ns).setIfInBounds j (.int .i64 x) = arr3 (ns ++ [x]) := by
  subst hl
  match ns, hj with
  | [], _ => rfl
  | [a], _ => rfl
  | [a, b], _ => rfl
theorem below_same {w : World} {b : Nat} {cs : Array Value} {e : TypeId} (h : Blk w b cs e) (o : Nat) (v : Value) (hv : cs.setIfInBounds o v = cs) : Below w.heap.size w (w.setCell ⟨b, o, none⟩ v) ∧ Blk (w.setCell ⟨b, o, none⟩ v) b cs e := by
  have h2 := h.set o v
  rw [hv] at h2
  refine ⟨⟨rfl, rfl, rfl, by rw [size_set]; exact Nat.le_refl _, fun k hk => ?_⟩, h2⟩
  by_cases e1 : k = b
  · subst e1
    exact (show (w.setCell ⟨k, o, none⟩ v).heap[k]? = some (.cells cs e (0, 0)) from h2).trans (show w.heap[k]? = some (.cells cs e (0, 0)) from h).symm
  · exact Below.heap_setCell _ _ _ _ e1
theorem below_zero3 {w : World} {b : Nat} {e : TypeId} (h : Blk w b #[.int .i64 0, .int .i64 0, .int .i64 0] e) : Below w.heap.size w (((w.setCell ⟨b, 0, none⟩ (.int .i64 0)).setCell ⟨b, 1, none⟩ (.int .i64 0)).setCell ⟨b, 2, none⟩ (.int .i64 0)) := by
  obtain ⟨b1, k1⟩ := below_same h 0 (.int .i64 0) rfl
  obtain ⟨b2, k2⟩ := below_same k1 1 (.int .i64 0) rfl
  obtain ⟨b3, _⟩ := below_same k2 2 (.int .i64 0) rfl
  exact below_then (below_then b1 b1.size b2) (Nat.le_trans b1.size b2.size) b3

set_option maxRecDepth 100000 in
set_option maxHeartbeats 3200000 in
theorem parse_any (s : ByteArray) (w : World) (h : Env w) (hs : s.size ≤ 100000) :
    Calls Tryd.prog 10 #[.string s] w fun e w' => e = .returned (.tuple #[parseV s, .bool (parseB s)]) ∧ Below w.heap.size w w' := by
  have HE := Lib.hid h
  have HS := Lib.hid hs
  clear h hs
  go_enter Tryd.func10, Tryd.ntmps10
  go_wp2_with fail
  obtain ⟨W1, hW1⟩ : ∃ W1, w.alloc (.cells #[.int .i64 (0), .int .i64 (0), .int .i64 (0), .int .i64 (0)] 23) = W1 := ⟨_, rfl⟩
  have K1 := Lib.hid (show Blk W1 w.heap.size #[.int .i64 (0), .int .i64 (0), .int .i64 (0), .int .i64 (0)] 23 by rw [← hW1]; exact Blk.new _ _ _)
  have B1 := Lib.hid (show Below w.heap.size w W1 by rw [← hW1]; go_grown)
  rw [hW1]
  clear hW1
  have HE1 := Lib.hid (HE.out.grow B1.out)
  obtain ⟨m, hm⟩ := HE1.out.2.2.1
  refine (Tryd.strings_Split s ⟨#[32]⟩ m W1 (by have := HS.out; omega) hm (by decide)).mono ?_
  clear hm
  rintro e w2 ⟨rfl, hw2⟩
  have hb2 : Below W1.heap.size W1 w2 := by rw [hw2]; go_grown
  have HPC := Lib.hid (show ∀ j, j < (pcs s).length → w2.cell? ⟨W1.heap.size, j, none⟩ = some (.string ((pcs s).getD j ByteArray.empty)) from fun j hj => by rw [hw2]; exact strs_cells W1 (pcs s) _ j hj)
  have hgl : W1.heap.size < w2.heap.size := by rw [hw2]; simp
  have K2 := Lib.hid (K1.out.below hb2 K1.out.lt)
  have B2 := Lib.hid (below_then B1.out B1.out.size hb2)
  have HE2 := Lib.hid (HE.out.grow B2.out)
  have HK1 := Lib.hid K1.out.lt
  obtain ⟨kx, hkx⟩ : ∃ kx, w.heap.size = kx := ⟨_, rfl⟩
  have HKX := Lib.hid (show w.heap.size ≤ kx by omega)
  rw [hkx] at K2 HK1 ⊢
  generalize hgs : W1.heap.size = gs at *
  have hpl := pcs_len s
  rw [← hpl]
  have HPL := Lib.hid (show 0 < (pcs s).length by omega)
  have HPN := Lib.hid (show (pcs s).length ≤ 100001 by have h1 := Lib.countB_le ⟨#[32]⟩ (by decide) s.size s (Nat.le_refl _); have h2 := HS.out; omega)
  generalize hn : (pcs s).length = n at *
  have Hn := Lib.hid hn
  clear hn hpl hw2 hb2 K1 B1 HE1 hkx hgs
  have hn1 : (n : Int) ≤ 100001 := by have := HPN.out; omega
  have hn0 : (0 : Int) < n := by have := HPL.out; omega
  have hn0n : 0 < n := HPL.out
  go_upto_region 2 with fail
  refine wp_flow_lit 4 (fun w' => Env w' ∧ Below w2.heap.size w2 w') [some RowNm, none, none, none] (by kernel_rfl) (by kernel_rfl)
    ⟨HE2.out.grow (Below.drew (Below.refl _ _)), (Below.drew (Below.refl _ _))⟩ (fun w1 w2 h hb => ⟨h.1.grow hb, below_then h.2 h.2.size hb⟩) ⟨rowNm_stab, trivial⟩ ?_
  (try simp (config := { maxSteps := 10000000 }) only [specV, addF, Act.put, List.setIfInBounds_toArray, List.set_cons_zero, List.set_cons_succ, List.take_succ_cons, List.take_zero, List.drop_succ_cons, List.drop_zero])
  (refine ⟨fun vs w1 hS hB hf => ?_, ?_⟩; (focus (go_simp; exact (fields_row w1 hS.1).mono fun e w2 ⟨v, he, hb, hr⟩ => callPost.of he hb hr)); (try simp (config := { maxSteps := 10000000 }) only [specV, addF, Act.put, List.setIfInBounds_toArray, List.set_cons_zero, List.set_cons_succ, List.take_succ_cons, List.take_zero, List.drop_succ_cons, List.drop_zero]))
  (apply Exists.intro; refine ⟨fun vs w1 hS hB hf => ?_, ?_⟩; (focus (clear hS hB hf; go_simp; first | exact ⟨Below.refl _ _, rfl⟩ | exact rfl)); (try simp (config := { maxSteps := 10000000 }) only [specV, addF, Act.put, List.setIfInBounds_toArray, List.set_cons_zero, List.set_cons_succ, List.take_succ_cons, List.take_zero, List.drop_succ_cons, List.drop_zero]))
  (apply Exists.intro; refine ⟨fun vs w1 hS hB hf => ?_, ?_⟩; (focus (clear hS hB hf; go_simp; first | exact ⟨Below.refl _ _, rfl⟩ | exact rfl)); (try simp (config := { maxSteps := 10000000 }) only [specV, addF, Act.put, List.setIfInBounds_toArray, List.set_cons_zero, List.set_cons_succ, List.take_succ_cons, List.take_zero, List.drop_succ_cons, List.drop_zero]))
  (apply Exists.intro; refine ⟨fun vs w1 hS hB hf => ?_, ?_⟩; (focus (have k0 := (hS.2.cell (p := ⟨gs, 0, none⟩) hgl).trans (HPC.out 0 HPL.out); have l0 : gs < w1.heap.size := Nat.lt_of_lt_of_le hgl hS.2.size; clear hS hB hf; go_simp; first | exact ⟨Below.refl _ _, rfl⟩ | exact rfl)); (try simp (config := { maxSteps := 10000000 }) only [specV, addF, Act.put, List.setIfInBounds_toArray, List.set_cons_zero, List.set_cons_succ, List.take_succ_cons, List.take_zero, List.drop_succ_cons, List.drop_zero]))
  intro vs w5 hS hB5 hfin
  obtain ⟨⟨gn, hgn, hgnl, hgc⟩, _⟩ := hfin
  have hgn' : vs 0 = .slice (some ⟨gn, 0, none⟩) 30 30 := hgn
  dsimp only
  rw [hgn']
  have HE5 := Lib.hid hS.1
  have B5 := Lib.hid (below_then B2.out B2.out.size hS.2)
  have HB25 := Lib.hid hS.2
  have gix := Tryd.slices_Index_string gn 0 30 30 namesBA ((pcs s).getD 0 ByteArray.empty) w5 (by rw [namesBA_len]; exact Nat.le_refl _) (by decide) hgc
  rw [show namesBA.take 30 = namesBA from List.take_of_length_le (by rw [namesBA_len]; exact Nat.le_refl _)] at gix
  have gix' := Lib.hid (show Calls _ _ _ _ fun e w' => e = .returned (.int .i64 (opIx s)) ∧ w' = w5 from gix)
  clear hS hB5 hgn hgn' gix hgc
  go_wp2_with fail
  refine gix'.out.mono ?_
  rintro e w6 ⟨rfl, rfl⟩
  clear gix'
  have HOI := Lib.hid (opIx_in s)
  rcases opIx_in s with hix | ⟨hix, hix2⟩
  · have HP := Lib.hid (show parseB s = false by unfold parseB; rw [decide_eq_false (by omega)]; rfl)
    rw [hix]
    have K6 := K2.out.below HB25.out K2.out.lt
    have c6 := K6.cell
    have f6 := K6.frozen
    have l6 := K6.lt
    have K6h := Lib.hid K6
    have hBK := Lib.hid (show w.heap.size ≤ kx from HKX.out)
    clear K6
    go_wp2
    exact bodyPost_ret (results_cell2 (cs := #[.int .i64 (0), .int .i64 (0), .int .i64 (0), .int .i64 (0)]) rfl (by have := (((K6h.out.set 0 (.int .i64 0)).set 1 (.int .i64 0)).set 2 (.int .i64 0)).set 3 (.int .i64 0); exact this) Tryd.underlying23 rfl (by kernel_rfl) rfl) rfl
      ⟨by unfold parseV; rw [HP.out]; rfl, (((B5.out.setCell hBK.out _).setCell hBK.out _).setCell hBK.out _).setCell hBK.out _⟩
  · obtain ⟨op, hop⟩ : ∃ op, opIx s = op := ⟨_, rfl⟩
    have HOP := Lib.hid hop
    rw [hop] at hix hix2 ⊢
    clear hop
    have hii : inI op := ⟨by omega, by omega⟩
    have hix' : ¬ op < 0 := by omega
    have HII := Lib.hid hii
    go_upto_region 5 with fail
    go_cut [6, 7] from 11 (fun s6 s7 wx => ∃ (ka o l : Nat), s6 = .pointer (some ⟨ka, 0, none⟩) ∧ s7 = .slice (some ⟨gs, o, none⟩) l l ∧ l = n - 1 ∧ (0 < l → o = 1) ∧ w6.heap.size ≤ ka ∧ Blk wx ka #[.int .i64 0, .int .i64 0, .int .i64 0] 45 ∧ Below w6.heap.size w6 wx)
    case first =>
      by_cases h1 : n = 1
      · subst h1
        refine wp_flow_lit 5 (fun w' => Below w6.heap.size w6 w') [none, none, none, some (NewArr w6.heap.size), none] (by kernel_rfl) (by kernel_rfl)
          (Below.drew (Below.refl _ _)) (fun w1 w2 h hb => below_then h h.size hb) ⟨newArr_stab _, trivial⟩ ?_
        (try simp (config := { maxSteps := 10000000 }) only [specV, addF, Act.put, List.setIfInBounds_toArray, List.set_cons_zero, List.set_cons_succ, List.take_succ_cons, List.take_zero, List.drop_succ_cons, List.drop_zero])
        (apply Exists.intro; refine ⟨fun vs w1 hS hB hf => ?_, ?_⟩; (focus (clear hS hB hf; go_simp; first | exact ⟨Below.refl _ _, rfl⟩ | exact rfl)); (try simp (config := { maxSteps := 10000000 }) only [specV, addF, Act.put, List.setIfInBounds_toArray, List.set_cons_zero, List.set_cons_succ, List.take_succ_cons, List.take_zero, List.drop_succ_cons, List.drop_zero]))
        (apply Exists.intro; refine ⟨fun vs w1 hS hB hf => ?_, ?_⟩; (focus (clear hS hB hf; go_simp; first | exact ⟨Below.refl _ _, rfl⟩ | exact rfl)); (try simp (config := { maxSteps := 10000000 }) only [specV, addF, Act.put, List.setIfInBounds_toArray, List.set_cons_zero, List.set_cons_succ, List.take_succ_cons, List.take_zero, List.drop_succ_cons, List.drop_zero]))
        (apply Exists.intro; refine ⟨fun vs w1 hS hB hf => ?_, ?_⟩; (focus (clear hS hB hf; go_simp; first | exact ⟨Below.refl _ _, rfl⟩ | exact rfl)); (try simp (config := { maxSteps := 10000000 }) only [specV, addF, Act.put, List.setIfInBounds_toArray, List.set_cons_zero, List.set_cons_succ, List.take_succ_cons, List.take_zero, List.drop_succ_cons, List.drop_zero]))
        (refine ⟨fun vs w1 hS hB hf => ?_, ?_⟩; (focus (have hz := Below.size hS; go_simp; exact ⟨by go_grown, w1.heap.size, rfl, hz, Blk.new w1 _ _⟩)); (try simp (config := { maxSteps := 10000000 }) only [specV, addF, Act.put, List.setIfInBounds_toArray, List.set_cons_zero, List.set_cons_succ, List.take_succ_cons, List.take_zero, List.drop_succ_cons, List.drop_zero]))
        (apply Exists.intro; refine ⟨fun vs w1 hS hB hf => ?_, ?_⟩; (focus (obtain ⟨h3, _⟩ := hf; obtain ⟨ga, hga, _, Kg⟩ := h3 rfl; have cg := Kg.cell; have fg := Kg.frozen; have lg := Kg.lt; have hz3 := below_zero3 Kg; dsimp only; rw [hga]; clear hS hB hga; go_simp; first | exact rfl | exact ⟨hz3, rfl⟩)); (try simp (config := { maxSteps := 10000000 }) only [specV, addF, Act.put, List.setIfInBounds_toArray, List.set_cons_zero, List.set_cons_succ, List.take_succ_cons, List.take_zero, List.drop_succ_cons, List.drop_zero]))
        intro vs w7 hS hB7 hfin
        obtain ⟨⟨ka, hka, hkaB, Ka7⟩, _⟩ := hfin
        have hka' : vs 3 = .pointer (some ⟨ka, 0, none⟩) := hka
        dsimp only
        rw [hka']
        have KA := Lib.hid Ka7
        have HSS := Lib.hid hS
        clear hka hka' hB7 hS Ka7
        go_wp2_with fail
        go_meet
        exact ⟨ka, 0, 0, rfl, rfl, rfl, fun h => absurd h (by decide), hkaB, KA.out, HSS.out⟩
      · have i1 : (1 : Int) ≤ n := by omega
        have i2 : 1 ≤ n := by omega
        refine wp_flow_lit 5 (fun w' => Below w6.heap.size w6 w') [none, none, none, some (NewArr w6.heap.size), none] (by kernel_rfl) (by kernel_rfl)
          (Below.drew (Below.refl _ _)) (fun w1 w2 h hb => below_then h h.size hb) ⟨newArr_stab _, trivial⟩ ?_
        (try simp (config := { maxSteps := 10000000 }) only [specV, addF, Act.put, List.setIfInBounds_toArray, List.set_cons_zero, List.set_cons_succ, List.take_succ_cons, List.take_zero, List.drop_succ_cons, List.drop_zero])
        (apply Exists.intro; refine ⟨fun vs w1 hS hB hf => ?_, ?_⟩; (focus (clear hS hB hf; go_simp; first | exact ⟨Below.refl _ _, rfl⟩ | exact rfl)); (try simp (config := { maxSteps := 10000000 }) only [specV, addF, Act.put, List.setIfInBounds_toArray, List.set_cons_zero, List.set_cons_succ, List.take_succ_cons, List.take_zero, List.drop_succ_cons, List.drop_zero]))
        (apply Exists.intro; refine ⟨fun vs w1 hS hB hf => ?_, ?_⟩; (focus (clear hS hB hf; go_simp; first | exact ⟨Below.refl _ _, rfl⟩ | exact rfl)); (try simp (config := { maxSteps := 10000000 }) only [specV, addF, Act.put, List.setIfInBounds_toArray, List.set_cons_zero, List.set_cons_succ, List.take_succ_cons, List.take_zero, List.drop_succ_cons, List.drop_zero]))
        (apply Exists.intro; refine ⟨fun vs w1 hS hB hf => ?_, ?_⟩; (focus (clear hS hB hf; go_simp; first | exact ⟨Below.refl _ _, rfl⟩ | exact rfl)); (try simp (config := { maxSteps := 10000000 }) only [specV, addF, Act.put, List.setIfInBounds_toArray, List.set_cons_zero, List.set_cons_succ, List.take_succ_cons, List.take_zero, List.drop_succ_cons, List.drop_zero]))
        (refine ⟨fun vs w1 hS hB hf => ?_, ?_⟩; (focus (have hz := Below.size hS; go_simp; exact ⟨by go_grown, w1.heap.size, rfl, hz, Blk.new w1 _ _⟩)); (try simp (config := { maxSteps := 10000000 }) only [specV, addF, Act.put, List.setIfInBounds_toArray, List.set_cons_zero, List.set_cons_succ, List.take_succ_cons, List.take_zero, List.drop_succ_cons, List.drop_zero]))
        (apply Exists.intro; refine ⟨fun vs w1 hS hB hf => ?_, ?_⟩; (focus (obtain ⟨h3, _⟩ := hf; obtain ⟨ga, hga, _, Kg⟩ := h3 rfl; have cg := Kg.cell; have fg := Kg.frozen; have lg := Kg.lt; have hz3 := below_zero3 Kg; dsimp only; rw [hga]; clear hS hB hga; go_simp; first | exact rfl | exact ⟨hz3, rfl⟩)); (try simp (config := { maxSteps := 10000000 }) only [specV, addF, Act.put, List.setIfInBounds_toArray, List.set_cons_zero, List.set_cons_succ, List.take_succ_cons, List.take_zero, List.drop_succ_cons, List.drop_zero]))
        intro vs w7 hS hB7 hfin
        obtain ⟨⟨ka, hka, hkaB, Ka7⟩, _⟩ := hfin
        have hka' : vs 3 = .pointer (some ⟨ka, 0, none⟩) := hka
        dsimp only
        rw [hka']
        have KA := Lib.hid Ka7
        have HSS := Lib.hid hS
        clear hka hka' hB7 hS Ka7
        go_wp2_with fail
        go_meet
        exact ⟨ka, 1, n - 1, rfl, rfl, rfl, fun _ => rfl, hkaB, KA.out, HSS.out⟩
    case rest =>
      obtain ⟨ka, o7, l7, rfl, rfl, hl7, ho7, hka, Ka, hb7⟩ := hcut
      have BW := Lib.hid (below_then B5.out B5.out.size hb7)
      have b27 := below_then HB25.out HB25.out.size hb7
      have KX := Lib.hid (K2.out.below b27 K2.out.lt)
      have HPD := Lib.hid (show ∀ j, j < n → wc.cell? ⟨gs, j, none⟩ = some (.string ((pcs s).getD j ByteArray.empty)) from fun j hj => (b27.cell (p := ⟨gs, j, none⟩) hgl).trans (HPC.out j hj))
      have HGK := Lib.hid (show gs < wc.heap.size ∧ gs ≠ ka ∧ kx ≠ ka ∧ w.heap.size ≤ ka by have h1 := b27.size; have h2 := HB25.out.size; have h3 := HK1.out; have h4 := K2.out.lt; have h5 := B5.out.size; omega)
      have KA := Lib.hid Ka
      have HL7 := Lib.hid (And.intro hl7 ho7)
      clear hb7 b27 Ka hl7 ho7 HPC K2 HB25 HE2 HE5 B5 B2 HOI hka
      go_wp2_with fail
      refine (kinds_any op wc HII.out).mono ?_
      rintro e w8 ⟨rfl, b8⟩
      have BW8 := Lib.hid (below_then BW.out BW.out.size b8)
      have KX8 := Lib.hid (KX.out.below b8 KX.out.lt)
      have KA8 := Lib.hid (show Blk w8 ka (arr3 (tk op ((pcs s).drop 1) 0).2) 45 from KA.out.below b8 KA.out.lt)
      have HPD8 := Lib.hid (show ∀ j, j < n → w8.cell? ⟨gs, j, none⟩ = some (.string ((pcs s).getD j ByteArray.empty)) from fun j hj => (b8.cell (p := ⟨gs, j, none⟩) HGK.out.1).trans (HPD.out j hj))
      have HG8 := Lib.hid (show gs < w8.heap.size ∧ kx < w8.heap.size ∧ ka < w8.heap.size by have h1 := b8.size; have h2 := HGK.out.1; have h3 := KX8.out.lt; have h4 := KA8.out.lt; omega)
      have hkl : (kndL op).length = 3 := by rw [knd_len, if_pos ⟨hix, by omega⟩]
      have HKL := Lib.hid hkl
      have HAT := Lib.hid (knd_at op)
      have HRL := Lib.hid (show ((pcs s).drop 1).length = n - 1 by rw [List.length_drop, Hn.out])
      clear b8 BW KX KA HPD hkl
      go_wp2
      go_loopg [7, 8, 9] 3 (fun gk v7 v8 v9 wr => ∃ j o l : Nat, j + gk = 3 ∧ wr.heap[w8.heap.size]? = some (.stringIter (kndS op) j) ∧ v7 = .slice (some ⟨gs, o, none⟩) l l ∧ l = (n - 1) - (tk op ((pcs s).drop 1) j).1 ∧ (0 < l → o = 1 + (tk op ((pcs s).drop 1) j).1) ∧
        Blk wr ka (arr3 (tk op ((pcs s).drop 1) j).2) 45 ∧ Gr ka w8 wr)
      case atStart => exact ⟨0, o7, l7, by omega, World.iter_heap w8 (kndS op) 0, rfl, HL7.out.1, HL7.out.2, KA8.out.alloc _, (Gr.refl ka w8).on ((Below.refl _ _).alloc (Nat.le_refl _) _)⟩
      case round =>
        obtain ⟨j, o, l, hj, hit, rfl, hl, ho, hK, hG⟩ := hrel
        have Hj := Lib.hid hj
        have Hit := Lib.hid hit
        have HLO := Lib.hid (And.intro hl ho)
        have HK := Lib.hid hK
        have HG := Lib.hid hG
        have hl1 : (l : Int) ≤ 100001 := by omega
        clear hj hit hl ho hK hG
        rcases Nat.lt_or_ge j 3 with hj3 | hge
        · have i3 : (j : Int) < 3 := by omega
          have Hlt := Lib.hid hj3
          obtain ⟨hl0, hl1', hl2⟩ := HAT.out j (by rw [HKL.out]; exact hj3)
          have hnx := fun ty => Lib.run_next_ascii_at (P := Tryd.prog) wr w8.heap.size (kndS op) j ty Hit.out hl0 hl2
          have hkm := knd_all op _ (List.getElem_mem (by rw [HKL.out]; exact hj3 : j < (kndL op).length))
          rw [hl1'] at hnx hl2
          have Hit2 := Lib.hid (Lib.iterAt_heap wr w8.heap.size (kndS op) j (j + 1) Hit.out)
          have HG2 := Lib.hid (HG.out.iter (Nat.le_refl _) Hit.out (j + 1))
          have HK2 := Lib.hid (show Blk (wr.iterAt w8.heap.size (kndS op) (j + 1)) ka (arr3 (tk op ((pcs s).drop 1) j).2) 45 from (Lib.iterAt_other wr w8.heap.size ka (kndS op) (j + 1) (by have := HG8.out; omega)).trans HK.out)
          generalize wr.iterAt w8.heap.size (kndS op) (j + 1) = wi at *
          have hkc : kc op j = ((((kndL op).getD j 0).toNat : Nat) : Int) := rfl
          have hcb : ((((kndL op).getD j 0).toNat : Nat) : Int) ≤ 127 := by omega
          have hch : kc op j = 45 ∨ kc op j = 114 ∨ kc op j = 105 ∨ kc op j = 119 ∨ kc op j = 118 := by
            rw [hkc, List.getD_eq_getElem?_getD, List.getElem?_eq_getElem (by rw [HKL.out]; exact hj3 : j < (kndL op).length), Option.getD_some]
            rcases hkm with h | h | h | h | h <;> rw [h] <;> decide
          rw [hkc] at hch
          have hisn := isN_of _ hch
          have HTK := Lib.hid (show tk op ((pcs s).drop 1) (j + 1) = _ from rfl)
          have HISN := Lib.hid (show isN (kc op j) = isN ((((kndL op).getD j 0).toNat : Nat) : Int) by rw [hkc])
          have hc0 : 0 ≤ ((((kndL op).getD j 0).toNat : Nat) : Int) := by omega
          generalize ((((kndL op).getD j 0).toNat : Nat) : Int) = ch at *
          have gcr := Tryd.strings_ContainsRune_ascii ⟨#[114, 105, 119]⟩ ch wi hc0 (by omega)
          rw [hisn] at gcr
          have HTL := Lib.hid (tk_len op ((pcs s).drop 1) j)
          clear hl0 hl1' hl2 hkm hch hisn hkc HK HG Hit hj3
          cases hN : isN ch with
          | false =>
            have HT := Lib.hid (show tk op ((pcs s).drop 1) (j + 1) = ((tk op ((pcs s).drop 1) j).1, (tk op ((pcs s).drop 1) j).2 ++ [0]) by rw [tk, HISN.out, hN, Bool.false_and, if_neg (by decide)])
            rw [hN] at gcr
            clear hN HTK
            go_wp2_with fail
            refine gcr.mono ?_
            clear gcr
            rintro e w9 ⟨rfl, rfl⟩
            go_wp2
            go_roundg (gk - 1)
            case measure => have := Hj.out; have := Hlt.out; omega
            case rel => exact ⟨j + 1, o, l, by have := Hj.out; have := Hlt.out; omega, Hit2.out, rfl, by rw [HT.out]; exact HLO.out.1, by rw [HT.out]; exact HLO.out.2, by rw [HT.out]; show Blk _ ka (arr3 (_ ++ [0])) _; rw [arr3_zero]; exact HK2.out, HG2.out⟩
          | true =>
            rw [hN] at gcr
            rcases Nat.eq_zero_or_pos l with h0 | hpos
            · have HT := Lib.hid (show tk op ((pcs s).drop 1) (j + 1) = ((tk op ((pcs s).drop 1) j).1, (tk op ((pcs s).drop 1) j).2 ++ [0]) by
                rw [tk, HISN.out, hN, Bool.true_and, if_neg]
                rw [decide_eq_true_eq, HRL.out]
                have := HLO.out.1
                omega)
              clear hN HTK
              subst h0
              go_wp2_with fail
              refine gcr.mono ?_
              clear gcr
              rintro e w9 ⟨rfl, rfl⟩
              go_wp2
              go_roundg (gk - 1)
              case measure => have := Hj.out; have := Hlt.out; omega
              case rel => exact ⟨j + 1, o, 0, by have := Hj.out; have := Hlt.out; omega, Hit2.out, rfl, by rw [HT.out]; exact HLO.out.1, by rw [HT.out]; exact HLO.out.2, by rw [HT.out]; show Blk _ ka (arr3 (_ ++ [0])) _; rw [arr3_zero]; exact HK2.out, HG2.out⟩
            · have hm1 := HLO.out.1
              have ho1 := HLO.out.2 hpos
              obtain ⟨m1, hmm⟩ : ∃ m1, (tk op ((pcs s).drop 1) j).1 = m1 := ⟨_, rfl⟩
              obtain ⟨pz, hpz⟩ : ∃ pz, ((pcs s).drop 1).getD m1 ByteArray.empty = pz := ⟨_, rfl⟩
              have HT := Lib.hid (show tk op ((pcs s).drop 1) (j + 1) = (m1 + 1, (tk op ((pcs s).drop 1) j).2 ++ [numV pz]) by
                rw [tk, HISN.out, hN, Bool.true_and, if_pos, hmm, hpz]
                rw [decide_eq_true_eq, HRL.out]
                omega)
              rw [hmm] at hm1 ho1
              have hpz2 : (pcs s).getD o ByteArray.empty = pz := by
                rw [← hpz, ho1, List.getD_eq_getElem?_getD, List.getD_eq_getElem?_getD, List.getElem?_drop]
              have hon : o < n := by omega
              have hpc := HPD8.out o hon
              rw [hpz2] at hpc
              have hpcw : wi.cell? ⟨gs, o, none⟩ = some (.string pz) := (HG2.out.cell HG8.out.1 HGK.out.2.1).trans hpc
              have hgw : gs < wi.heap.size := Nat.lt_of_lt_of_le HG8.out.1 HG2.out.size
              have hpsz : pz.size ≤ 100000 := by
                rw [← hpz2, List.getD_eq_getElem?_getD, List.getElem?_eq_getElem (by rw [Hn.out]; exact hon : o < (pcs s).length)]
                exact Nat.le_trans (pcs_size s _ (List.getElem_mem _)) HS.out
              have HPSZ := Lib.hid hpsz
              have gtp := Lib.hid (Tryd.strings_TrimPrefix pz ⟨#[114]⟩ wi)
              have HM1 := Lib.hid (And.intro hm1 ho1)
              have HEW := Lib.hid (HE.out.grow (HG2.out.below BW8.out BW8.out.size HGK.out.2.2.2))
              have hls : ¬ l = 0 := by omega
              have hli : (0 : Int) < l := by omega
              clear hN HTK hmm hpz hpz2 hpc hpsz hm1 ho1 hon
              go_wp2_with fail
              refine gcr.mono ?_
              clear gcr
              rintro e w9 ⟨rfl, rfl⟩
              go_wp2_with fail
              refine gtp.out.mono ?_
              rintro e w10 ⟨rfl, rfl⟩
              clear hpcw hgw
              have gat := atoi_any (⟨(Lib.trimPrefix pz.data.toList [114]).toArray⟩) w10 HEW.out (by
                have h1 : (Lib.trimPrefix pz.data.toList [114]).length ≤ pz.data.toList.length := by unfold Lib.trimPrefix; split <;> simp
                have h2 := HPSZ.out
                have h3 := Lib.size_eq pz
                show (List.toArray _).size ≤ _
                rw [List.size_toArray]
                omega)
              rw [show atoiV (⟨(Lib.trimPrefix pz.data.toList [114]).toArray⟩ : ByteArray).data.toList = numV pz from rfl] at gat
              go_wp2_with fail
              refine gat.mono ?_
              clear gat
              rintro e w11 ⟨⟨e2, rfl⟩, b11⟩
              have HIT := Lib.hid (iter_below Hit2.out b11)
              have HK11 := Lib.hid (HK2.out.below b11 HK2.out.lt)
              have HG11 := Lib.hid (HG2.out.on b11)
              have hj3' : j < 3 := Hlt.out
              have hkj : w11.cell? ⟨ka, j, none⟩ = some (.int .i64 ((tk op ((pcs s).drop 1) j).2.getD j 0)) := by
                rw [HK11.out.cell j]
                match j, hj3' with
                | 0, _ => rfl
                | 1, _ => rfl
                | 2, _ => rfl
              generalize (tk op ((pcs s).drop 1) j).2.getD j 0 = xj at *
              have fK := HK11.out.frozen
              have lK := HK11.out.lt
              have HIS := Lib.hid (show (w11.setCell ⟨ka, j, none⟩ (.int .i64 (numV pz))).heap[w8.heap.size]? = some (.stringIter (kndS op) (j + 1)) from (Below.heap_setCell _ _ _ _ (by show w8.heap.size ≠ ka; have := HG8.out; omega)).trans HIT.out)
              have HKS := Lib.hid (show Blk (w11.setCell ⟨ka, j, none⟩ (.int .i64 (numV pz))) ka (arr3 (tk op ((pcs s).drop 1) (j + 1)).2) 45 by
                rw [HT.out]
                have := HK11.out.set j (.int .i64 (numV pz))
                rw [arr3_set _ j Hlt.out HTL.out] at this
                exact this)
              have HGS := Lib.hid (HG11.out.set j (.int .i64 (numV pz)))
              clear b11 Hit2 HK2 HG2 HEW gtp hj3' HIT HK11 HG11
              by_cases hl1c : l = 1
              · have hl1' : (l : Int) = 1 := by omega
                subst hl1c
                go_wp2
                go_roundg (gk - 1)
                case measure => have := Hj.out; have := Hlt.out; omega
                case rel => exact ⟨j + 1, o, 0, by have := Hj.out; have := Hlt.out; omega, HIS.out, rfl, by rw [HT.out]; have := HM1.out.1; show 0 = _ - (m1 + 1); omega, fun h => absurd h (by decide), HKS.out, HGS.out⟩
              · have hl2' : 1 ≤ l := by omega
                have hl2i : (1 : Int) ≤ l := by omega
                go_wp2
                go_roundg (gk - 1)
                case measure => have := Hj.out; have := Hlt.out; omega
                case rel => exact ⟨j + 1, o + 1, l - 1, by have := Hj.out; have := Hlt.out; omega, HIS.out, rfl, by rw [HT.out]; have := HM1.out.1; show _ = _ - (m1 + 1); omega, fun h => by rw [HT.out]; have := HM1.out.2; show _ = 1 + (m1 + 1); omega, HKS.out, HGS.out⟩
        · have hj3 : j = 3 := by have := Hj.out; omega
          subst hj3
          have hnx := fun ty => Lib.run_next_end_at (P := Tryd.prog) wr w8.heap.size (kndS op) 3 ty Hit.out (by have h := HKL.out; simp [kndS, ByteArray.size]; omega)
          have HX := Lib.hid (show Blk wr ka #[.int .i64 (pNum s 0), .int .i64 (pNum s 1), .int .i64 (pNum s 2), .int .i64 (0)].pop 45 by
            have h := HK.out
            unfold pNum
            rw [HOP.out]
            exact h)
          have HX2 := Lib.hid (show Blk wr ka #[.int .i64 (pNum s 0), .int .i64 (pNum s 1), .int .i64 (pNum s 2)] 45 from HX.out)
          have hnn := fun i => pNum_in s i
          have BWR := Lib.hid (HG.out.below BW8.out BW8.out.size HGK.out.2.2.2)
          have KXR := Lib.hid (HG.out.blk KX8.out HGK.out.2.2.1)
          have HPB := Lib.hid (show parseB s = decide (textS op (pNum s 0) (pNum s 1) (pNum s 2) = s) by unfold parseB; rw [HOP.out, decide_eq_true hix]; rfl)
          have HPV := Lib.hid (show parseV s = if parseB s then .agg #[.int .i64 (op), .int .i64 (pNum s 0), .int .i64 (pNum s 1), .int .i64 (pNum s 2)] else .agg #[.int .i64 (0), .int .i64 (0), .int .i64 (0), .int .i64 (0)] by unfold parseV; rw [HOP.out])
          have h0 := hnn 0
          have h1 := hnn 1
          have h2 := hnn 2
          generalize pNum s 0 = n0 at *
          generalize pNum s 1 = n1 at *
          generalize pNum s 2 = n2 at *
          have HNN := Lib.hid (And.intro h0 (And.intro h1 h2))
          obtain ⟨h00, h01⟩ := h0
          obtain ⟨h10, h11⟩ := h1
          obtain ⟨h20, h21⟩ := h2
          have cK := HX2.out.cell
          have lK := HX2.out.lt
          clear hge hnn HK HG HX
          go_wp2_with fail
          obtain ⟨W9, hW9⟩ : ∃ W9, wr.alloc (.cells #[.int .i64 (op), .int .i64 (n0), .int .i64 (n1), .int .i64 (n2)] 23) = W9 := ⟨_, rfl⟩
          have b9 : Below wr.heap.size wr W9 := by rw [← hW9]; go_grown
          have X9 := Lib.hid (show Blk W9 wr.heap.size #[.int .i64 (op), .int .i64 (n0), .int .i64 (n1), .int .i64 (n2)] 23 by rw [← hW9]; exact Blk.new _ _ _)
          have KX9 := Lib.hid (KXR.out.below b9 KXR.out.lt)
          have BW9 := Lib.hid (below_then BWR.out BWR.out.size b9)
          have HKXN := Lib.hid (show kx ≠ wr.heap.size by have := KXR.out.lt; omega)
          rw [hW9]
          generalize wr.heap.size = xb at *
          clear hW9 b9 cK lK KXR BWR
          refine (text_any op n0 n1 n2 W9 (HE.out.grow BW9.out) HII.out HNN.out.1 HNN.out.2.1 HNN.out.2.2).mono ?_
          rintro e w10 ⟨rfl, b10⟩
          have X10 := Lib.hid (X9.out.below b10 X9.out.lt)
          have KX10 := Lib.hid (KX9.out.below b10 KX9.out.lt)
          have BW10 := Lib.hid (below_then BW9.out BW9.out.size b10)
          clear b10 X9 KX9 BW9
          generalize textS op n0 n1 n2 = tx at *
          have c1 := X10.out.cell
          have f1 := X10.out.frozen
          have l1 := X10.out.lt
          have c2 := KX10.out.cell
          have f2 := KX10.out.frozen
          have l2 := KX10.out.lt
          have hne1 := HKXN.out
          have hne2 : ¬ xb = kx := fun e => hne1 e.symm
          by_cases hq : tx = s
          · have hbq : (tx.toList == s.toList) = true := (Lib.bytes_beq_iff tx s).2 hq
            have HPB2 := Lib.hid (show parseB s = true by rw [HPB.out]; exact decide_eq_true hq)
            clear hq
            go_wp2
            exact bodyPost_ret (results_cell2 (cs := #[.int .i64 (op), .int .i64 (n0), .int .i64 (n1), .int .i64 (n2)]) rfl (by have := (((KX10.out.set 0 (.int .i64 op)).set 1 (.int .i64 n0)).set 2 (.int .i64 n1)).set 3 (.int .i64 n2); exact this) Tryd.underlying23 rfl (by kernel_rfl) rfl) rfl
              ⟨by rw [HPV.out, HPB2.out, if_pos rfl]; rfl, (((BW10.out.setCell HKX.out _).setCell HKX.out _).setCell HKX.out _).setCell HKX.out _⟩
          · have hbq : (tx.toList == s.toList) = false := (Lib.bytes_beq_false_iff tx s).2 hq
            have HPB2 := Lib.hid (show parseB s = false by rw [HPB.out]; exact decide_eq_false hq)
            clear hq
            go_wp2
            exact bodyPost_ret (results_cell2 (cs := #[.int .i64 (0), .int .i64 (0), .int .i64 (0), .int .i64 (0)]) rfl (by have := (((KX10.out.set 0 (.int .i64 0)).set 1 (.int .i64 0)).set 2 (.int .i64 0)).set 3 (.int .i64 0); exact this) Tryd.underlying23 rfl (by kernel_rfl) rfl) rfl
              ⟨by rw [HPV.out, HPB2.out, if_neg (by decide)]; rfl, (((BW10.out.setCell HKX.out _).setCell HKX.out _).setCell HKX.out _).setCell HKX.out _⟩
end Go.Proofs.YtnmjglnllokklaaDoor
