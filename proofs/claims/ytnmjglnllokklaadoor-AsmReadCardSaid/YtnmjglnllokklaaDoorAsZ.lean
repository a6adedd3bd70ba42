/- Read; the document's. -/
import Derived.Test.YtnmjglnllokklaaDoorAsQ
import Derived.Test.YtnmjglnllokklaaDoorAsX
set_option linter.unusedVariables false
set_option linter.unusedSimpArgs false
namespace Go.Proofs.YtnmjglnllokklaaDoor
open Go.RowKit

/-- Where the reading of lines stands: the lines that are read, where the next begins. -/
def RdAt (s : ByteArray) (j f : Nat) (D : List ByteArray) : Prop :=
  linesB s = D ++ linesB ⟨(s.data.toList.drop f).toArray⟩ ∧ (∀ k, f ≤ k → k < j → s.data.toList[k]? ≠ some 10) ∧ D.all goodB = true ∧ D.length ≤ f ∧ f ≤ j ∧ j ≤ s.size
theorem linesB_mk (l : List UInt8) : linesB ⟨l.toArray⟩ = (linesL l).map fun x => ⟨x.toArray⟩ := rfl
theorem rdAt_zero (s : ByteArray) : RdAt s 0 0 [] := ⟨by rw [List.drop_zero]; rfl, fun k _ h => absurd h (Nat.not_lt_zero _), rfl, Nat.le_refl _, Nat.le_refl _, Nat.zero_le _⟩
theorem rdAt_next {s : ByteArray} {j f : Nat} {D : List ByteArray} (h : RdAt s j f D) (hj : j < s.size) (hc : s.data.toList[j]? ≠ some 10) : RdAt s (j + 1) f D :=
  ⟨h.1, fun k h1 h2 => by
    rcases Nat.lt_or_ge k j with h3 | h3
    · exact h.2.1 k h1 h3
    · have : k = j := by omega
      rw [this]; exact hc, h.2.2.1, h.2.2.2.1, Nat.le_succ_of_le h.2.2.2.2.1, hj⟩
theorem rdAt_cut {s : ByteArray} {j f : Nat} {D : List ByteArray} (h : RdAt s j f D) (hc : s.data.toList[j]? = some 10) :
    linesB s = D ++ lineB (s.extract f j).data.toList :: linesB ⟨(s.data.toList.drop (j + 1)).toArray⟩ := by
  obtain ⟨h1, h2, _, _, h5, _⟩ := h
  have e1 : (s.data.toList.drop f)[j - f]? = some 10 := by rw [List.getElem?_drop, show f + (j - f) = j by omega, hc]
  have e2 := linesL_some e1 (fun k hk => by
    rw [List.getElem?_drop]
    exact h2 (f + k) (by omega) (by omega))
  rw [h1, linesB_mk, e2, List.map_cons, linesB_mk]
  congr 2
  · unfold lineB
    rw [List.take_add_one, e1, Lib.extract_eq]
    rfl
  · rw [List.drop_drop, show f + (j - f + 1) = j + 1 by omega]
theorem rdAt_good {s : ByteArray} {j f : Nat} {D : List ByteArray} (h : RdAt s j f D) (hj : j < s.size) (hc : s.data.toList[j]? = some 10) (hp : parseB (s.extract f j) = true) :
    RdAt s (j + 1) (j + 1) (D ++ [lineB (s.extract f j).data.toList]) := by
  refine ⟨by rw [rdAt_cut h hc, List.append_assoc]; rfl, fun k h1 h2 => by omega, ?_, ?_, Nat.le_refl _, hj⟩
  · rw [List.all_append, h.2.2.1, Bool.true_and, List.all_cons, List.all_nil, Bool.and_true]
    exact (good_line _).2.trans hp
  · rw [List.length_append, List.length_singleton]
    have := h.2.2.2.1
    have := h.2.2.2.2.1
    omega
theorem rdAt_bad {s : ByteArray} {j f : Nat} {D : List ByteArray} (h : RdAt s j f D) (hc : s.data.toList[j]? = some 10) (hp : parseB (s.extract f j) = false) :
    rdOk (linesB s) = false ∧ rdN (linesB s) = D.length := by
  rw [rdAt_cut h hc]
  refine rd_stop (k := D.length) (x := lineB (s.extract f j).data.toList) ?_ ?_ ((good_line _).2.trans hp)
  · rw [List.take_left']
    · exact h.2.2.1
    · rfl
  · rw [List.getElem?_append_right (Nat.le_refl _), Nat.sub_self]; rfl
theorem rdAt_line (t : ByteArray) : parseT (cutB (lineB t.data.toList)) = parseT t := by
  rw [show cutB (lineB t.data.toList) = ⟨t.data.toList.toArray⟩ from (good_line _).1]
theorem rdAt_all {s : ByteArray} {D : List ByteArray} (h : RdAt s s.size s.size D) : rdOk (linesB s) = true ∧ rdN (linesB s) = D.length ∧ rdT (linesB s) = D.map fun x => parseT (cutB x) := by
  have e : linesB s = D := by
    have h1 := h.1
    rw [List.drop_of_length_le (by rw [Array.length_toList]; exact Nat.le_refl _)] at h1
    rw [h1]
    exact List.append_nil _
  rw [e]
  have hg : rdOk D = true := h.2.2.1
  refine ⟨hg, ?_, ?_⟩
  · unfold rdN
    rw [takeWhile_all h.2.2.1]
  · unfold rdT
    rw [hg, if_pos rfl]
theorem rdAt_rest {s : ByteArray} {f : Nat} {D : List ByteArray} (h : RdAt s s.size f D) (hf : f < s.size) : rdOk (linesB s) = false ∧ rdN (linesB s) = D.length := by
  have hl : s.data.toList.length = s.size := Array.length_toList
  have hne : s.data.toList.drop f ≠ [] := fun e => by
    have := congrArg List.length e
    rw [List.length_drop, hl] at this
    simp at this
    omega
  have h10 : ∀ k : Nat, (s.data.toList.drop f)[k]? ≠ some 10 := fun k hk => by
    rw [List.getElem?_drop] at hk
    have := (List.getElem?_eq_some_iff.1 hk).1
    exact h.2.1 (f + k) (by omega) (by omega) hk
  have e : linesB s = D ++ [⟨(s.data.toList.drop f).toArray⟩] := by
    rw [h.1, linesB_mk, linesL_none hne h10]
    rfl
  rw [e]
  refine rd_stop (k := D.length) (x := ⟨(s.data.toList.drop f).toArray⟩) ?_ ?_ ?_
  · rw [List.take_left']
    · exact h.2.2.1
    · rfl
  · rw [List.getElem?_append_right (Nat.le_refl _), Nat.sub_self]; rfl
  · unfold goodB wholeB
    have : Lib.hasSuffix (s.data.toList.drop f) [10] = false := by
      cases hh : Lib.hasSuffix (s.data.toList.drop f) [10] with
      | false => rfl
      | true =>
        exfalso
        unfold Lib.hasSuffix at hh
        rw [List.isSuffixOf_iff_suffix] at hh
        have hm : (10 : UInt8) ∈ s.data.toList.drop f := hh.subset (by simp)
        obtain ⟨k, hk⟩ := List.getElem?_of_mem hm
        exact h10 k hk
    dsimp only
    rw [this, Bool.false_and]

set_option maxRecDepth 100000 in
set_option maxHeartbeats 3200000 in
theorem rread_any (s : ByteArray) (w : World) (h : Env w) (hs : s.size ≤ 90000) :
    Calls Tryd.prog 18 #[.string s] w fun e w' => ∃ v, e = .returned (.tuple #[v, .int .i64 (rdN (linesB s)), .bool (rdOk (linesB s))]) ∧ w'.ownsRow w.heap.size 23 4 v (rdT (linesB s)).length (i4s (rdT (linesB s))) ∧ Below w.heap.size w w' := by
  have HE := Lib.hid h
  have HS := Lib.hid hs
  have hs1 : (s.size : Int) ≤ 90000 := by omega
  have HG := Lib.hid (fun j h => congrArg (fun b : UInt8 => (b.toNat : Int)) (get_data s j h))
  clear h hs
  go_enter Tryd.func18, Tryd.ntmps18
  go_wp2_with fail
  go_loopg [5, 6, 7, 8, 9] (s.size + 1) (fun gk v5 v6 v7 v8 v9 wr => ∃ (j f : Nat) (D : List ByteArray), j + gk = s.size + 1 ∧ v7 = .int .i64 j ∧ v6 = .int .i64 f ∧ RdAt s j f D ∧ Below w.heap.size w wr ∧ wr.ownsRow w.heap.size 23 4 v5 D.length (i4s (D.map fun x => parseT (cutB x))))
  case atStart => exact ⟨0, 0, [], by omega, rfl, rfl, rdAt_zero s, Below.refl _ _, World.ownsRow_nil _ _ _ _⟩
  case round =>
    obtain ⟨j, f, D, hj, rfl, rfl, hA, hb, hR⟩ := hrel
    have HJ := Lib.hid hj
    have HA := Lib.hid hA
    have HB := Lib.hid hb
    have HR := Lib.hid hR
    obtain ⟨A5, c5, rfl⟩ := own_form hR
    have hf1 : (f : Int) ≤ j := by have := hA.2.2.2.2.1; omega
    have hf2 : (f : Int) ≤ s.size := by have := hA.2.2.2.2.1; have := hA.2.2.2.2.2; omega
    have hj1 : (j : Int) ≤ s.size := by have := hA.2.2.2.2.2; omega
    have HDL := Lib.hid (show D.length ≤ 90000 by have := hA.2.2.2.1; have := HS.out; omega)
    clear hj hb hR
    rcases Nat.lt_or_ge j s.size with hlt | hge
    · have i4 : (j : Int) < s.size := by omega
      have hget := HG.out j
      try dsimp only at hget
      have HLT := Lib.hid hlt
      have hgd : s.data.toList[j]? = some (s.data.toList.getD j 0) := by
        have : j < s.data.toList.length := by rw [Array.length_toList]; exact hlt
        rw [List.getD_eq_getElem?_getD, List.getElem?_eq_getElem this]
        rfl
      obtain ⟨b, hb⟩ : ∃ b, s.data.toList.getD j 0 = b := ⟨_, rfl⟩
      rw [hb] at hget hgd
      clear hb hA
      by_cases h10 : b = 10
      · have e10 : (b.toNat : Int) = 10 := by rw [h10]; rfl
        rw [e10] at hget
        rw [h10] at hgd
        have HGD := Lib.hid hgd
        have HSZ := Lib.hid (show (s.extract f j).size ≤ 100000 by rw [Lib.extract_eq]; show (List.toArray _).size ≤ _; rw [List.size_toArray, List.length_take, List.length_drop, Array.length_toList]; have := HS.out; show min _ (s.size - f) ≤ _; omega)
        clear h10 e10 hgd hlt
        obtain ⟨t, ht⟩ : ∃ t, s.extract f j = t := ⟨_, rfl⟩
        have HTT := Lib.hid ht
        rw [ht] at HSZ
        have GP := Lib.hid (fun W hW => rparse_any t W hW HSZ.out)
        obtain ⟨y, hy, hyt⟩ := parseV_form t
        rw [hy] at GP
        obtain ⟨y0, y1, y2, y3⟩ := y
        dsimp only at GP
        clear hy ht
        go_wp2_with fail
        rw [HTT.out]
        have gp := GP.out wr (HE.out.grow HB.out)
        clear GP
        cases hp : parseB t with
        | false =>
          have HBAD := Lib.hid (rdAt_bad HA.out HGD.out (by rw [HTT.out]; exact hp))
          rw [hp] at gp
          refine gp.mono ?_
          clear gp
          rintro e w5 ⟨rfl, b5⟩
          have HB5 := Lib.hid (below_then HB.out HB.out.size b5)
          clear b5 hp hyt
          go_wp2
          go_ret3
          refine ⟨.slice none 0 0, ?_, ?_, ?_⟩
          · rw [HBAD.out.1, HBAD.out.2]; rfl
          · unfold rdT
            rw [HBAD.out.1, if_neg (by decide)]
            exact World.ownsRow_nil _ _ _ _
          · exact HB5.out.alloc HB5.out.size _
        | true =>
          have HGOOD := Lib.hid (rdAt_good HA.out HLT.out HGD.out (by rw [HTT.out]; exact hp))
          have HYT := Lib.hid (hyt hp)
          rw [hp] at gp
          refine gp.mono ?_
          clear gp
          rintro e w5 ⟨rfl, b5⟩
          have HB5 := Lib.hid (below_then HB.out HB.out.size b5)
          have HR5 := Lib.hid (own_below HR.out b5)
          clear b5 hp hyt HR HB
          go_upto_region 8 with fail
          obtain ⟨W6, hW6⟩ : ∃ W6, w5.alloc (.cells #[.int .i64 (y0), .int .i64 (y1), .int .i64 (y2), .int .i64 (y3)] 23) = W6 := ⟨_, rfl⟩
          have b6 : Below w5.heap.size w5 W6 := by rw [← hW6]; go_grown
          have HB6 := Lib.hid (below_then HB5.out HB5.out.size b6)
          have HR6 := Lib.hid (own_below HR5.out b6)
          have Y6 := Lib.hid (show Blk W6 w5.heap.size #[.int .i64 (y0), .int .i64 (y1), .int .i64 (y2), .int .i64 (y3)] 23 by rw [← hW6]; exact Blk.new w5 _ _)
          rw [hW6]
          obtain ⟨ky, hky⟩ : ∃ ky, w5.heap.size = ky := ⟨_, rfl⟩
          rw [hky] at Y6 ⊢
          clear hW6 b6 hky HB5 HR5
          have cy := Y6.out.cell
          have ly := Y6.out.lt
          go_wp2_with (first
            | (at_builtin; go_loud (refine app2 (w0 := w) (W := W6.alloc _) w.heap.size rfl _ _ 34 23 (.agg #[.int .i64 (0), .int .i64 (0), .int .i64 (0), .int .i64 (0)]) 4 32 rfl Tryd.underlying34 infoIns rfl (by decide) (by decide) (.slice A5 D.length c5) D.length (i4s (D.map fun x => parseT (cutB x))) (i4c (y0, y1, y2, y3)) ⟨W6.heap.size, 0, none⟩ 1 1 rfl rfl rfl (by intro u hu; simp [i4c] at hu; rcases hu with rfl | rfl | rfl | rfl <;> rfl) (World.ownsRow.alloc HR6.out _) (RdL.new W6 #[.int .i64 (y0), .int .i64 (y1), .int .i64 (y2), .int .i64 (y3)] _) (HB6.out.alloc HB6.out.size _) (by have := HB6.out.size; simp; omega) (by have h9 := HDL.out; omega) ?_; intro v1 w9 hown1 hb9 hgb9 _)))
          go_roundg (gk - 1)
          case measure => have := HJ.out; have := HLT.out; omega
          case rel =>
            refine ⟨j + 1, j + 1, D ++ [lineB (s.extract f j).data.toList], by have := HJ.out; have := HLT.out; omega, by go_num, by go_num, HGOOD.out, hb9, ?_⟩
            rw [List.map_append, List.map_singleton, rdAt_line, HTT.out, ← HYT.out, i4s_snoc, List.length_append]
            exact hown1
      · have e10 : ¬ (b.toNat : Int) = 10 := by
          intro e
          apply h10
          have : b.toNat = (10 : UInt8).toNat := by show _ = 10; omega
          exact UInt8.toNat_inj.1 this
        have HN := Lib.hid (rdAt_next HA.out HLT.out (by rw [hgd]; exact fun e => h10 (Option.some.inj e)))
        obtain ⟨c, hc⟩ : ∃ c : Int, (b.toNat : Int) = c := ⟨_, rfl⟩
        rw [hc] at hget e10
        have e10' : (c == 10) = false := by simpa using e10
        clear h10 hc hgd
        go_wp2
        go_roundg (gk - 1)
        case measure => have := HJ.out; have := HLT.out; omega
        case rel => exact ⟨j + 1, f, D, by have := HJ.out; have := HLT.out; omega, by go_num, rfl, HN.out, HB.out, HR.out⟩
    · have hjn : j = s.size := by have := hA.2.2.2.2.2; omega
      subst hjn
      clear hge hA
      rcases Nat.lt_or_ge f s.size with hf | hf
      · have i5 : (f : Int) < s.size := by omega
        have HBAD := Lib.hid (rdAt_rest HA.out hf)
        clear hf
        go_wp2
        go_ret3
        refine ⟨.slice none 0 0, ?_, ?_, HB.out⟩
        · rw [HBAD.out.1, HBAD.out.2]; rfl
        · unfold rdT
          rw [HBAD.out.1, if_neg (by decide)]
          exact World.ownsRow_nil _ _ _ _
      · have hfn : f = s.size := by have := HA.out.2.2.2.2.1; omega
        subst hfn
        have HALL := Lib.hid (rdAt_all HA.out)
        clear hf
        go_wp2
        go_ret3
        refine ⟨.slice A5 D.length c5, ?_, ?_, HB.out⟩
        · rw [HALL.out.1, HALL.out.2.1]; rfl
        · rw [HALL.out.2.2, List.length_map]
          exact HR.out
end Go.Proofs.YtnmjglnllokklaaDoor
