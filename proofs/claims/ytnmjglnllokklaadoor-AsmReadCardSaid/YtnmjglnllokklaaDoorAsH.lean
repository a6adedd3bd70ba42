/- The lines of a text; strings.Lines. -/
import Derived.Test.YtnmjglnllokklaaDoorAsG
import Derived.Test.YtnmjglnllokklaaDoorAsF
import Derived.Lib.IndexLaws
import Derived.RangeFuncNested
import Derived.WalkKit
import Derived.OwnWalkIn
import Derived.TacticsInMore
import Derived.LoopNIn
import Derived.LoopIn
set_option linter.unusedVariables false
set_option linter.unusedSimpArgs false
namespace Go.Proofs.YtnmjglnllokklaaDoor
open Go.RowKit Go.Shelf
attribute [local go_sem] Oper.semAt_some

/-- A text's lines, each with its end. -/
def linesL : List UInt8 → List (List UInt8)
  | [] => []
  | c :: r => if c = 10 then [10] :: linesL r else match linesL r with
    | [] => [[c]]
    | x :: xs => (c :: x) :: xs
theorem linesL_none : ∀ {l : List UInt8}, l ≠ [] → (∀ k : Nat, l[k]? ≠ some 10) → linesL l = [l]
  | [], h, _ => absurd rfl h
  | [c], _, h => by
    have : c ≠ 10 := fun e => h 0 (by simp [e])
    rw [linesL, if_neg this]; rfl
  | c :: d :: r, _, h => by
    have hc : c ≠ 10 := fun e => h 0 (by simp [e])
    have ih := linesL_none (l := d :: r) (by simp) (fun k hk => h (k + 1) (by simpa using hk))
    rw [linesL, if_neg hc, ih]
theorem linesL_some : ∀ {l : List UInt8} {o : Nat}, l[o]? = some 10 → (∀ k, k < o → l[k]? ≠ some 10) → linesL l = l.take (o + 1) :: linesL (l.drop (o + 1))
  | [], o, h, _ => by simp at h
  | c :: r, 0, h, _ => by
    simp at h
    subst h
    rw [linesL, if_pos rfl]; rfl
  | c :: r, o + 1, h, hk => by
    have hc : c ≠ 10 := fun e => hk 0 (by omega) (by simp [e])
    rw [linesL, if_neg hc, linesL_some (l := r) (o := o) (by simpa using h) (fun k h1 => by have := hk (k + 1) (by omega); simpa using this)]
    rfl
def linesB (s : ByteArray) : List ByteArray := (linesL s.data.toList).map fun l => ⟨l.toArray⟩
theorem linesB_nil {s : ByteArray} (h : s.size = 0) : linesB s = [] := by
  have : s.data.toList = [] := List.length_eq_zero_iff.1 (by rw [Array.length_toList]; exact h)
  unfold linesB
  rw [this]; rfl
theorem linesB_none {s : ByteArray} (h0 : s.size ≠ 0) (h : Lib.indexByte s.data.toList 10 = -1) : linesB s = [s] := by
  unfold linesB
  rw [linesL_none (fun e => h0 (by rw [← ByteArray.size_data, ← Array.length_toList, e]; rfl)) (Lib.indexByte_none h)]
  rfl
theorem linesB_some {s : ByteArray} {o : Nat} (h : Lib.indexByte s.data.toList 10 = o) : o < s.size ∧ linesB s = s.extract 0 (o + 1) :: linesB (s.extract (o + 1) s.size) := by
  obtain ⟨h1, h2⟩ := Lib.indexByte_some h
  have hl := (List.getElem?_eq_some_iff.1 h1).1
  rw [Array.length_toList] at hl
  refine ⟨hl, ?_⟩
  unfold linesB
  rw [linesL_some h1 h2, List.map_cons, Lib.extract_eq, Lib.extract_data, List.drop_zero, Nat.sub_zero, List.take_of_length_le (i := s.size - (o + 1)) (by rw [List.length_drop, Array.length_toList]; exact Nat.le_refl _)]

set_option maxRecDepth 100000 in
theorem lines_new (s : ByteArray) (w : World) :
    Calls Tryd.prog 35 #[.string s] w fun e w' => e = .returned (.func (.func 50) #[] #[.pointer (some ⟨w.heap.size, 0, none⟩)]) ∧ w' = w.alloc (.cells #[.string s] 9) := by
  go_enter Tryd.func35, Tryd.ntmps35
  go_wp2
  go_ret
  exact ⟨rfl, rfl⟩

def KpL (bx : Nat) (W W' : World) : Prop := W'.heap[bx]? = W.heap[bx]?
def strAt (w : World) (b : Nat) : Nat := match w.cell? ⟨b, 0, none⟩ with | some (.string s) => s.size | _ => 0
theorem strAt_of {w : World} {b : Nat} {s : ByteArray} {e : TypeId} (h : Blk w b #[.string s] e) : strAt w b = s.size := by
  unfold strAt
  rw [h.cell]
  rfl

set_option maxRecDepth 100000 in
set_option maxHeartbeats 1600000 in
theorem lines_iter (r bx : Nat) (s : ByteArray) (w : World) (hX : Blk w bx #[.string s] 9) (hs : s.size ≤ 1000000) :
    RL.Iter Fence.wide r Tryd.prog 50 #[.pointer (some ⟨bx, 0, none⟩)] (fun x : ByteArray => #[.string x]) [bx] (KpL bx) (linesB s) w := by
  intro l J Jx W hW hJT hY hJ0
  have HX := Lib.hid (hX.below hW hX.lt)
  have HY := Lib.hid hY
  have HJT := Lib.hid hJT
  have HJ0 := Lib.hid hJ0
  have HS := Lib.hid hs
  clear hX hW hY hJT hJ0 hs
  refine callsIn_of_wp Tryd.func50 rfl trivial ?_ rfl
  simp only [Tryd.ntmps50, List.size_toArray, List.length_cons, List.length_nil, Nat.reduceAdd, Nat.reduceSub, Array.replicate_succ, Array.replicate_zero, List.push_toArray, List.append_toArray, List.nil_append, List.cons_append]
  obtain ⟨XS, hXS⟩ : ∃ XS, linesB s = XS := ⟨_, rfl⟩
  have HXS := Lib.hid hXS
  rw [hXS] at HY ⊢
  clear hXS
  gi_wp2
  gi_loopw [3, 4] (fun u v wr => ∃ (q : Nat) (sr : ByteArray), sr.size ≤ 1000000 ∧ (∀ i, XS[q + i]? = (linesB sr)[i]?) ∧ XS.length = q + (linesB sr).length ∧ J q wr ∧ Blk wr bx #[.string sr] 9)
    (fun u v wr => strAt wr bx)
  case atStart => exact ⟨0, s, HS.out, fun i => by rw [← HXS.out, Nat.zero_add], by rw [← HXS.out, Nat.zero_add], HJ0.out, HX.out⟩
  case round =>
    clear HX HJ0
    obtain ⟨q, sr, hsz, hx, hlx, hJ, hX⟩ := hrel
    have HX := Lib.hid hX
    have HJ := Lib.hid hJ
    have HXL := Lib.hid hx
    have HLX := Lib.hid hlx
    have cX := hX.cell
    have lX := hX.lt
    have HSZ := Lib.hid hsz
    clear hX hJ hx hlx
    rcases Nat.eq_zero_or_pos sr.size with h0 | h0
    · have h0i : ¬ (0 : Int) < sr.size := by omega
      have hq := HLX.out
      rw [linesB_nil h0, List.length_nil, Nat.add_zero] at hq
      have HQ := Lib.hid hq
      clear h0 hq
      gi_wp2
      go_end0
      refine ⟨⟨_, rfl⟩, .inl ?_⟩
      rw [HQ.out]
      exact HJ.out
    · have h0i : (0 : Int) < sr.size := by omega
      have h0n : sr.size ≠ 0 := by omega
      have hge := Lib.indexByte_ge sr.data.toList 10
      have gix := Tryd.strings_IndexByte sr 10 wr
      rw [show (10 : Int).toNat.toUInt8 = (10 : UInt8) from rfl] at gix
      rcases (show Lib.indexByte sr.data.toList 10 = -1 ∨ 0 ≤ Lib.indexByte sr.data.toList 10 by omega) with hi | hi
      · have HL := Lib.hid (linesB_none h0n hi)
        rw [hi] at gix
        have GIX := Lib.hid gix
        clear h0 h0n hge hi gix
        have fX := HX.out.frozen
        gi_wp2_with fail
        refine ⟨trivial, fun h => (by cases h), ?_⟩
        refine CallsIn.mono (callsIn_wide.2 GIX.out) ?_
        rintro e w1 ⟨rfl, rfl⟩
        gi_wp2_with fail
        obtain ⟨W5, hW5⟩ : ∃ W5, w1.setCell ⟨bx, 0, none⟩ (.string { data := #[] }) = W5 := ⟨_, rfl⟩
        obtain ⟨SR, hSR⟩ : ∃ SR : ByteArray, { data := #[] } = SR := ⟨_, rfl⟩
        have HX5 := Lib.hid (show Blk W5 bx #[.string SR] 9 by rw [← hW5, ← hSR]; exact HX.out.set 0 _)
        have HJ5 := Lib.hid (show J q W5 by rw [← hW5]; exact HJT.out q _ _ HJ.out (Turns.set _ (by simp) _ _))
        have hsr0 : SR.size = 0 := by rw [← hSR]; rfl
        have HSR := Lib.hid (show SR.size ≤ 1000000 ∧ SR.size < sr.size by omega)
        have HX0 := Lib.hid (show XS[q]? = some sr by have := HXL.out 0; rw [HL.out] at this; exact this)
        have HXN := Lib.hid (show ∀ i, XS[q + 1 + i]? = (linesB SR)[i]? from fun i => by have := HXL.out (i + 1); rw [HL.out, show q + (i + 1) = q + 1 + i by omega] at this; rw [linesB_nil hsr0]; exact this)
        have HLN := Lib.hid (show XS.length = q + 1 + (linesB SR).length by rw [linesB_nil hsr0]; have := HLX.out; rw [HL.out] at this; exact this)
        rw [hW5]
        clear hW5 hSR hsr0 cX lX fX HJ HL HLX HXL
        obtain ⟨fn, tmps, assign, body, hy, hR⟩ := HY.out q _ W5 HX0.out HJ5.out
        have cX := HX5.out.cell
        have lX := HX5.out.lt
        rw [hy]
        gi_wp2_with fail
        refine ⟨fun h => (by cases h), ?_⟩
        refine hR.mono ?_
        clear hR hy HX0
        rintro e W6 (⟨rfl, hJ6, hk6⟩ | ⟨rfl, hx6⟩)
        · have HJ6 := Lib.hid hJ6
          have HX6 := Lib.hid (show Blk W6 bx #[.string SR] 9 from (show W6.heap[bx]? = W5.heap[bx]? from hk6).trans HX5.out)
          clear hJ6 hk6 cX lX
          gi_wp2_with fail
          go_roundw
          case rel => exact ⟨q + 1, SR, HSR.out.1, HXN.out, HLN.out, HJ6.out, HX6.out⟩
          case measure =>
            rw [strAt_of HX6.out, strAt_of HX.out]
            exact HSR.out.2
        · have HX6 := Lib.hid hx6
          clear hx6 cX lX
          gi_wp2_with fail
          exact bodyPost_ret (results_none rfl _ _ _) rfl ⟨⟨_, rfl⟩, .inr HX6.out⟩
      · obtain ⟨o, ho⟩ : ∃ o : Nat, Lib.indexByte sr.data.toList 10 = o := ⟨(Lib.indexByte sr.data.toList 10).toNat, by omega⟩
        have hL := linesB_some ho
        have HL := Lib.hid hL.2
        have o1 : (o : Int) < sr.size := by have := hL.1; omega
        have o2 : (sr.size : Int) ≤ 1000000 := by omega
        rw [ho] at gix
        have GIX := Lib.hid gix
        clear h0 h0n hge hi gix ho hL
        have fX := HX.out.frozen
        gi_wp2_with fail
        refine ⟨trivial, fun h => (by cases h), ?_⟩
        refine CallsIn.mono (callsIn_wide.2 GIX.out) ?_
        rintro e w1 ⟨rfl, rfl⟩
        gi_wp2_with fail
        obtain ⟨p, hp⟩ : ∃ p, o + 1 = p := ⟨_, rfl⟩
        have hw : IntKind.i64.wrap ((o : Int) + 1) = (p : Int) := by rw [IntKind.wrap_i64]; omega
        have n1 : (0 : Int) ≤ (p : Int) := by omega
        have n2 : (p : Int) ≤ sr.size := by omega
        have n3 : p ≤ sr.size := by omega
        rw [hp] at HL
        have HP := Lib.hid (show 0 < p ∧ p ≤ sr.size by omega)
        clear hp
        refine wpIn_flow_lit Wide.wide 9 (fun w' => J q w' ∧ Blk w' bx #[.string sr] 9) [none, none, none, none, none, none, none, none, none] (by kernel_rfl) (by kernel_rfl) (by kernel_rfl)
          ⟨HJT.out q _ _ HJ.out (Turns.below (Below.refl _ _).drew), HX.out.drew⟩ (fun w1 w2 h hb => ⟨HJT.out q _ _ h.1 (Turns.below hb), h.2.below hb h.2.lt⟩) trivial ?_
        (try simp (config := { maxSteps := 10000000 }) only [specV, addF, Act.put, List.setIfInBounds_toArray, List.set_cons_zero, List.set_cons_succ, List.take_succ_cons, List.take_zero, List.drop_succ_cons, List.drop_zero])
        (apply Exists.intro; refine ⟨fun vs w1 hS hB hf => ?_, ?_⟩; (focus (have L1 := hS.2.cell; have l1 := hS.2.lt; clear hS hB hf; go_simp; first | exact ⟨Below.refl _ _, rfl⟩ | exact rfl)); (try simp (config := { maxSteps := 10000000 }) only [specV, addF, Act.put, List.setIfInBounds_toArray, List.set_cons_zero, List.set_cons_succ, List.take_succ_cons, List.take_zero, List.drop_succ_cons, List.drop_zero]))
        (apply Exists.intro; refine ⟨fun vs w1 hS hB hf => ?_, ?_⟩; (focus (clear hS hB hf; go_simp; first | exact ⟨Below.refl _ _, rfl⟩ | exact rfl)); (try simp (config := { maxSteps := 10000000 }) only [specV, addF, Act.put, List.setIfInBounds_toArray, List.set_cons_zero, List.set_cons_succ, List.take_succ_cons, List.take_zero, List.drop_succ_cons, List.drop_zero]))
        (apply Exists.intro; refine ⟨fun vs w1 hS hB hf => ?_, ?_⟩; (focus (clear hS hB hf; go_simp; first | exact ⟨Below.refl _ _, rfl⟩ | exact rfl)); (try simp (config := { maxSteps := 10000000 }) only [specV, addF, Act.put, List.setIfInBounds_toArray, List.set_cons_zero, List.set_cons_succ, List.take_succ_cons, List.take_zero, List.drop_succ_cons, List.drop_zero]))
        (apply Exists.intro; refine ⟨fun vs w1 hS hB hf => ?_, ?_⟩; (focus (clear hS hB hf; go_simp; first | exact ⟨Below.refl _ _, rfl⟩ | exact rfl)); (try simp (config := { maxSteps := 10000000 }) only [specV, addF, Act.put, List.setIfInBounds_toArray, List.set_cons_zero, List.set_cons_succ, List.take_succ_cons, List.take_zero, List.drop_succ_cons, List.drop_zero]))
        (apply Exists.intro; refine ⟨fun vs w1 hS hB hf => ?_, ?_⟩; (focus (have L1 := hS.2.cell; have l1 := hS.2.lt; clear hS hB hf; go_simp; first | exact ⟨Below.refl _ _, rfl⟩ | exact rfl)); (try simp (config := { maxSteps := 10000000 }) only [specV, addF, Act.put, List.setIfInBounds_toArray, List.set_cons_zero, List.set_cons_succ, List.take_succ_cons, List.take_zero, List.drop_succ_cons, List.drop_zero]))
        (apply Exists.intro; refine ⟨fun vs w1 hS hB hf => ?_, ?_⟩; (focus (clear hS hB hf; go_simp; first | exact ⟨Below.refl _ _, rfl⟩ | exact rfl)); (try simp (config := { maxSteps := 10000000 }) only [specV, addF, Act.put, List.setIfInBounds_toArray, List.set_cons_zero, List.set_cons_succ, List.take_succ_cons, List.take_zero, List.drop_succ_cons, List.drop_zero]))
        (apply Exists.intro; refine ⟨fun vs w1 hS hB hf => ?_, ?_⟩; (focus (clear hS hB hf; go_simp; first | exact ⟨Below.refl _ _, rfl⟩ | exact rfl)); (try simp (config := { maxSteps := 10000000 }) only [specV, addF, Act.put, List.setIfInBounds_toArray, List.set_cons_zero, List.set_cons_succ, List.take_succ_cons, List.take_zero, List.drop_succ_cons, List.drop_zero]))
        (apply Exists.intro; refine ⟨fun vs w1 hS hB hf => ?_, ?_⟩; (focus (clear hS hB hf; go_simp; first | exact ⟨Below.refl _ _, rfl⟩ | exact rfl)); (try simp (config := { maxSteps := 10000000 }) only [specV, addF, Act.put, List.setIfInBounds_toArray, List.set_cons_zero, List.set_cons_succ, List.take_succ_cons, List.take_zero, List.drop_succ_cons, List.drop_zero]))
        (apply Exists.intro; refine ⟨fun vs w1 hS hB hf => ?_, ?_⟩; (focus (clear hS hB hf; go_simp; first | exact ⟨Below.refl _ _, rfl⟩ | exact rfl)); (try simp (config := { maxSteps := 10000000 }) only [specV, addF, Act.put, List.setIfInBounds_toArray, List.set_cons_zero, List.set_cons_succ, List.take_succ_cons, List.take_zero, List.drop_succ_cons, List.drop_zero]))
        intro vs W4 hS hB5 _
        dsimp only
        have HJ4 := Lib.hid hS.1
        have HX4 := Lib.hid hS.2
        have c4 := hS.2.cell
        have l4 := hS.2.lt
        have f4 := hS.2.frozen
        obtain ⟨SR, hSR⟩ : ∃ SR : ByteArray, sr.extract p sr.size = SR := ⟨_, rfl⟩
        have hsrz : SR.size < sr.size := by rw [← hSR, ByteArray.size_extract]; have := HP.out; omega
        have HSR := Lib.hid (show SR.size ≤ 1000000 ∧ SR.size < sr.size by omega)
        obtain ⟨L0, hL0⟩ : ∃ L0 : ByteArray, sr.extract 0 p = L0 := ⟨_, rfl⟩
        rw [hSR, hL0] at HL ⊢
        have HX0 := Lib.hid (show XS[q]? = some L0 by have := HXL.out 0; rw [HL.out] at this; exact this)
        have HXN := Lib.hid (show ∀ i, XS[q + 1 + i]? = (linesB SR)[i]? from fun i => by have := HXL.out (i + 1); rw [HL.out, show q + (i + 1) = q + 1 + i by omega] at this; exact this)
        have HLN := Lib.hid (show XS.length = q + 1 + (linesB SR).length by have := HLX.out; rw [HL.out, List.length_cons] at this; omega)
        clear hS hB5 cX lX fX HJ HL HLX HXL hSR hL0 hsrz
        gi_wp2_with fail
        obtain ⟨W5, hW5⟩ : ∃ W5, W4.setCell ⟨bx, 0, none⟩ (.string SR) = W5 := ⟨_, rfl⟩
        have HX5 := Lib.hid (show Blk W5 bx #[.string SR] 9 by rw [← hW5]; exact HX4.out.set 0 _)
        have HJ5 := Lib.hid (show J q W5 by rw [← hW5]; exact HJT.out q _ _ HJ4.out (Turns.set _ (by simp) _ _))
        rw [hW5]
        clear hW5 c4 l4 f4 HX4 HJ4
        obtain ⟨fn, tmps, assign, body, hy, hR⟩ := HY.out q _ W5 HX0.out HJ5.out
        have cX := HX5.out.cell
        have lX := HX5.out.lt
        rw [hy]
        gi_wp2_with fail
        refine ⟨fun h => (by cases h), ?_⟩
        refine hR.mono ?_
        clear hR hy HX0
        rintro e W6 (⟨rfl, hJ6, hk6⟩ | ⟨rfl, hx6⟩)
        · have HJ6 := Lib.hid hJ6
          have HX6 := Lib.hid (show Blk W6 bx #[.string SR] 9 from (show W6.heap[bx]? = W5.heap[bx]? from hk6).trans HX5.out)
          clear hJ6 hk6 cX lX
          gi_wp2_with fail
          go_roundw
          case rel => exact ⟨q + 1, SR, HSR.out.1, HXN.out, HLN.out, HJ6.out, HX6.out⟩
          case measure =>
            rw [strAt_of HX6.out, strAt_of HX.out]
            exact HSR.out.2
        · have HX6 := Lib.hid hx6
          clear hx6 cX lX
          gi_wp2_with fail
          exact bodyPost_ret (results_none rfl _ _ _) rfl ⟨⟨_, rfl⟩, .inr HX6.out⟩
end Go.Proofs.YtnmjglnllokklaaDoor
