/- The parts of pages that so many bytes are: what the iterator gives. -/
import Derived.Test.YtjimkkkiilcpoaaTmJ
import Derived.RegionIn
set_option linter.unusedVariables false
set_option linter.unusedSimpArgs false
namespace Go.Proofs.Ytjimkkkiilcpoaa
open Go.RowKit Go.Shelf
attribute [local go_sem] Oper.semAt_some

/-- The parts: a page, from where, and up to where on it. -/
def parts : Nat → Nat → Nat → List (Nat × Nat × Nat)
  | 0, _, _ => []
  | q + 1, a, k => if k = 0 then [] else (a / 256, a % 256, min (a % 256 + k) 256) :: parts q (a + min (a % 256 + k) 256 - a % 256) (k - (min (a % 256 + k) 256 - a % 256))
theorem parts_fuel : ∀ (q a k : Nat), k ≤ q → parts q a k = parts k a k := by
  intro q
  induction q using Nat.strongRecOn with
  | _ q ih =>
    intro a k hk
    cases k with
    | zero => cases q <;> simp [parts]
    | succ k =>
      cases q with
      | zero => omega
      | succ q =>
        rw [parts, parts, if_neg (by omega), if_neg (by omega), ih q (by omega) _ _ (by omega)]
        by_cases h : k = q
        · subst h; rw [ih k (by omega) _ _ (by omega)]
        · rw [ih k (by omega) _ _ (by omega)]
theorem parts_cons (a k t : Nat) (hk : 0 < k) (ht : t = min (a % 256 + k) 256) : parts k a k = (a / 256, a % 256, t) :: parts (k - (t - a % 256)) (a + t - a % 256) (k - (t - a % 256)) := by
  subst ht
  obtain ⟨q, rfl⟩ : ∃ q, k = q + 1 := ⟨k - 1, by omega⟩
  rw [parts, if_neg (by omega), parts_fuel q _ _ (by omega)]
def encP (bP : Nat) (x : Nat × Nat × Nat) : Array Value := #[.pointer (some ⟨bP, x.1 * 273, none⟩), .agg #[.int .i64 x.2.1, .int .i64 x.2.2]]
def Keeps (ks : List Nat) (A B : World) : Prop := ∀ k ∈ ks, B.heap[k]? = A.heap[k]?
theorem Keeps.blk {ks : List Nat} {A B : World} (h : Keeps ks A B) {b : Nat} {cs : Array Value} {e : TypeId} (hb : Blk A b cs e) (hk : b ∈ ks) : Blk B b cs e := (h b hk).trans hb
def leftAt (w : World) (b : Nat) : Nat := match w.cell? ⟨b, 0, none⟩ with | some (.int _ z) => z.toNat | _ => 0
theorem leftAt_eq {w : World} {b : Nat} {k : Nat} {e : TypeId} (h : Blk w b #[.int .i64 k] e) : leftAt w b = k := by
  unfold leftAt
  rw [h.cell]
  simp

set_option maxRecDepth 100000 in
set_option maxHeartbeats 3200000 in
theorem runs_iter (r b bP bm ba bn n a k : Nat) (w : World) (hm : Blk w bm #[.pointer (some ⟨b, 0, none⟩)] 56) (hA : Blk w ba #[.int .i64 a] 3) (hN : Blk w bn #[.int .i64 k] 3)
    (hb : Blk w b #[.slice (some ⟨bP, 0, none⟩) n n] 107) (h1 : bn ≠ ba) (h2 : bm ≠ bn ∧ bm ≠ ba) (h3 : b ≠ bn ∧ b ≠ ba) (hin : a + k ≤ 256 * n) (hn : n ≤ 65536) :
    Iter Fence.wide r Try.prog 111 #[.pointer (some ⟨bn, 0, none⟩), .pointer (some ⟨ba, 0, none⟩), .pointer (some ⟨bm, 0, none⟩)] (encP bP) [bn, ba] (Keeps [bn, ba, bm, b]) (parts k a k) w := by
  intro l J W hW hJT hY hJ0
  have HM := Lib.hid (hm.below hW hm.lt)
  have HA := Lib.hid (hA.below hW hA.lt)
  have HN := Lib.hid (hN.below hW hN.lt)
  have HB := Lib.hid (hb.below hW hb.lt)
  have HY := Lib.hid hY
  have HJT := Lib.hid hJT
  have HJ0 := Lib.hid hJ0
  clear hm hA hN hb hW hY hJT hJ0
  refine callsIn_of_wp Try.func111 rfl trivial ?_ rfl
  simp only [Try.ntmps111, List.size_toArray, List.length_cons, List.length_nil, Nat.reduceAdd, Nat.reduceSub, Array.replicate_succ, Array.replicate_zero, List.push_toArray, List.append_toArray, List.nil_append, List.cons_append]
  generalize hX : parts k a k = XS at *
  have HX := Lib.hid hX
  clear hX
  gi_wp2
  gi_loopw [5] (fun u wr => ∃ q a' k' : Nat, a' + k' ≤ 256 * n ∧ (∀ i, XS[q + i]? = (parts k' a' k')[i]?) ∧ XS.length = q + (parts k' a' k').length ∧ J q wr ∧ Blk wr bm #[.pointer (some ⟨b, 0, none⟩)] 56 ∧ Blk wr ba #[.int .i64 a'] 3 ∧ Blk wr bn #[.int .i64 k'] 3 ∧ Blk wr b #[.slice (some ⟨bP, 0, none⟩) n n] 107)
    (fun u wr => leftAt wr bn)
  case atStart => exact ⟨0, a, k, hin, fun i => by rw [HX.out, Nat.zero_add], by rw [HX.out, Nat.zero_add], HJ0.out, HM.out, HA.out, HN.out, HB.out⟩
  case round =>
    clear HM HA HN HB HJ0 HX hin a k
    obtain ⟨q, a, k, hin, hx, hlx, hJ, hm, hA, hN, hb⟩ := hrel
    have cN := hN.cell
    have cA := hA.cell
    have cM := hm.cell
    have cB := hb.cell
    have lN := hN.lt
    have lA := hA.lt
    have lM := hm.lt
    have lB := hb.lt
    have HM := Lib.hid hm
    have HA := Lib.hid hA
    have HN := Lib.hid hN
    have HB := Lib.hid hb
    have HJ := Lib.hid hJ
    have HIN := Lib.hid hin
    have HLF := Lib.hid (leftAt_eq hN)
    have HXL := Lib.hid hx
    have HLX := Lib.hid hlx
    clear hm hA hN hb hJ hx hlx
    rcases Nat.eq_zero_or_pos k with h0 | h0
    · subst h0
      gi_wp2
      go_end0
      refine ⟨⟨_, rfl⟩, ?_⟩
      rw [HLX.out]
      exact HJ.out
    · have i1 : (0 : Int) < k := by omega
      rcases Nat.lt_or_ge 256 (a % 256 + k) with hc | hc
      · have hmin : ¬ ((a : Int) % 256 + k ≤ 256) := by omega

        have hf1 : ((a : Nat) : Int) % 256 = ((a % 256 : Nat) : Int) := by omega
        have hpc := parts_cons a k 256 h0 (by omega)
        have hx0 : XS[q]? = some (a / 256, a % 256, 256) := by have := HXL.out 0; rw [Nat.add_zero, hpc] at this; exact this
        have hx1 : ∀ i, XS[q + 1 + i]? = (parts (k - (256 - a % 256)) (a + 256 - a % 256) (k - (256 - a % 256)))[i]? := fun i => by
          have := HXL.out (i + 1); rw [hpc, show q + (i + 1) = q + 1 + i by omega] at this; simpa using this
        have hlx1 : XS.length = q + 1 + (parts (k - (256 - a % 256)) (a + 256 - a % 256) (k - (256 - a % 256))).length := by
          have := HLX.out; rw [hpc, List.length_cons] at this; omega
        have hin1 : a + 256 - a % 256 + (k - (256 - a % 256)) ≤ 256 * n := by have := HIN.out; omega
        have HX0 := Lib.hid hx0
        have HX1 := Lib.hid hx1
        have HLX1 := Lib.hid hlx1
        have HIN1 := Lib.hid hin1
        have hpage : (a : Int) / 256 < n := by have := HIN.out; omega
        have hpage2 : (a : Int) / 256 = ((a / 256 : Nat) : Int) := by omega
        have hsm : (a : Int) ≤ 16777216 := by have := HIN.out; omega
        have hsk : (k : Int) ≤ 16777216 := by have := HIN.out; omega
        generalize hpi : a / 256 = pi at *
        generalize hff : a % 256 = ff at *
        have HEQ : Hid (ff ≤ 256 ∧ 256 ≤ 256 ∧ ff < 256 ∧ 256 - ff ≤ k ∧ ff ≤ a ∧ 0 < 256 - ff) := Lib.hid (by omega)
        have hsf : (ff : Int) ≤ 256 := by have := HEQ.out; omega
        have hp3 : (pi : Int) < n := by omega
        have hwp : IntKind.i64.wrap (pi : Int) = pi := IntWalk.i64_in _ (by omega)
        clear hx0 hx1 hlx1 hin1 hpc hpi hff
        gi_wp2_with fail
        refine wpIn_flow_lit Wide.wide 11 (fun w' => J q w' ∧ Blk w' bm #[.pointer (some ⟨b, 0, none⟩)] 56 ∧ Blk w' ba #[.int .i64 a] 3 ∧ Blk w' bn #[.int .i64 k] 3 ∧ Blk w' b #[.slice (some ⟨bP, 0, none⟩) n n] 107)
          [none, none, none, none, none, none, none, none, none, none, none] (by kernel_rfl) (by kernel_rfl) (by kernel_rfl) ⟨HJT.out q _ _ HJ.out (Turns.below (Below.refl _ _).drew), HM.out.drew, HA.out.drew, HN.out.drew, HB.out.drew⟩
          (fun w1 w2 h hb => ⟨HJT.out q _ _ h.1 (Turns.below hb), h.2.1.below hb h.2.1.lt, h.2.2.1.below hb h.2.2.1.lt, h.2.2.2.1.below hb h.2.2.2.1.lt, h.2.2.2.2.below hb h.2.2.2.2.lt⟩) trivial ?_
        try simp (config := { maxSteps := 10000000 }) only [specV, addF, Act.put, List.setIfInBounds_toArray, List.set_cons_zero, List.set_cons_succ, List.take_succ_cons, List.take_zero, List.drop_succ_cons, List.drop_zero]
        (apply Exists.intro; refine ⟨fun vs w1 hS hB hf => ?_, ?_⟩; (focus (clear hS hB hf; go_simp; first | exact ⟨Below.refl _ _, rfl⟩ | exact rfl)); try simp (config := { maxSteps := 10000000 }) only [specV, addF, Act.put, List.setIfInBounds_toArray, List.set_cons_zero, List.set_cons_succ, List.take_succ_cons, List.take_zero, List.drop_succ_cons, List.drop_zero])
        (apply Exists.intro; refine ⟨fun vs w1 hS hB hf => ?_, ?_⟩; (focus (have cM1 := hS.2.1.cell; have lM1 := hS.2.1.lt; clear hS hB hf; go_simp; first | exact ⟨Below.refl _ _, rfl⟩ | exact rfl)); try simp (config := { maxSteps := 10000000 }) only [specV, addF, Act.put, List.setIfInBounds_toArray, List.set_cons_zero, List.set_cons_succ, List.take_succ_cons, List.take_zero, List.drop_succ_cons, List.drop_zero])
        (apply Exists.intro; refine ⟨fun vs w1 hS hB hf => ?_, ?_⟩; (focus (clear hS hB hf; go_simp; first | exact ⟨Below.refl _ _, rfl⟩ | exact rfl)); try simp (config := { maxSteps := 10000000 }) only [specV, addF, Act.put, List.setIfInBounds_toArray, List.set_cons_zero, List.set_cons_succ, List.take_succ_cons, List.take_zero, List.drop_succ_cons, List.drop_zero])
        (apply Exists.intro; refine ⟨fun vs w1 hS hB hf => ?_, ?_⟩; (focus (clear hS hB hf; go_simp; first | exact ⟨Below.refl _ _, rfl⟩ | exact rfl)); try simp (config := { maxSteps := 10000000 }) only [specV, addF, Act.put, List.setIfInBounds_toArray, List.set_cons_zero, List.set_cons_succ, List.take_succ_cons, List.take_zero, List.drop_succ_cons, List.drop_zero])
        (apply Exists.intro; refine ⟨fun vs w1 hS hB hf => ?_, ?_⟩; (focus (have cM1 := hS.2.2.2.2.cell; have lM1 := hS.2.2.2.2.lt; clear hS hB hf; go_simp; first | exact ⟨Below.refl _ _, rfl⟩ | exact rfl)); try simp (config := { maxSteps := 10000000 }) only [specV, addF, Act.put, List.setIfInBounds_toArray, List.set_cons_zero, List.set_cons_succ, List.take_succ_cons, List.take_zero, List.drop_succ_cons, List.drop_zero])
        (apply Exists.intro; refine ⟨fun vs w1 hS hB hf => ?_, ?_⟩; (focus (have cM1 := hS.2.2.1.cell; have lM1 := hS.2.2.1.lt; clear hS hB hf; go_simp; first | exact ⟨Below.refl _ _, rfl⟩ | exact rfl)); try simp (config := { maxSteps := 10000000 }) only [specV, addF, Act.put, List.setIfInBounds_toArray, List.set_cons_zero, List.set_cons_succ, List.take_succ_cons, List.take_zero, List.drop_succ_cons, List.drop_zero])
        (apply Exists.intro; refine ⟨fun vs w1 hS hB hf => ?_, ?_⟩; (focus (clear hS hB hf; go_simp; first | exact ⟨Below.refl _ _, rfl⟩ | exact rfl)); try simp (config := { maxSteps := 10000000 }) only [specV, addF, Act.put, List.setIfInBounds_toArray, List.set_cons_zero, List.set_cons_succ, List.take_succ_cons, List.take_zero, List.drop_succ_cons, List.drop_zero])
        (apply Exists.intro; refine ⟨fun vs w1 hS hB hf => ?_, ?_⟩; (focus (clear hS hB hf; go_simp; first | exact ⟨Below.refl _ _, rfl⟩ | exact rfl)); try simp (config := { maxSteps := 10000000 }) only [specV, addF, Act.put, List.setIfInBounds_toArray, List.set_cons_zero, List.set_cons_succ, List.take_succ_cons, List.take_zero, List.drop_succ_cons, List.drop_zero])
        (apply Exists.intro; refine ⟨fun vs w1 hS hB hf => ?_, ?_⟩; (focus (clear hS hB hf; go_simp; first | exact ⟨Below.refl _ _, rfl⟩ | exact rfl)); try simp (config := { maxSteps := 10000000 }) only [specV, addF, Act.put, List.setIfInBounds_toArray, List.set_cons_zero, List.set_cons_succ, List.take_succ_cons, List.take_zero, List.drop_succ_cons, List.drop_zero])
        (apply Exists.intro; refine ⟨fun vs w1 hS hB hf => ?_, ?_⟩; (focus (clear hS hB hf; go_simp; first | exact ⟨Below.refl _ _, rfl⟩ | exact rfl)); try simp (config := { maxSteps := 10000000 }) only [specV, addF, Act.put, List.setIfInBounds_toArray, List.set_cons_zero, List.set_cons_succ, List.take_succ_cons, List.take_zero, List.drop_succ_cons, List.drop_zero])
        (apply Exists.intro; refine ⟨fun vs w1 hS hB hf => ?_, ?_⟩; (focus (clear hS hB hf; go_simp; first | exact ⟨Below.refl _ _, rfl⟩ | exact rfl)); try simp (config := { maxSteps := 10000000 }) only [specV, addF, Act.put, List.setIfInBounds_toArray, List.set_cons_zero, List.set_cons_succ, List.take_succ_cons, List.take_zero, List.drop_succ_cons, List.drop_zero])
        intro vs W5 hS hB5 _
        dsimp only
        obtain ⟨fn, tmps, assign, body, hy, hR⟩ := HY.out q _ W5 HX0.out hS.1
        simp only [encP] at hy
        have e256 : ((256 : Nat) : Int) = 256 := rfl
        rw [e256] at hy
        clear e256
        have HS5 := Lib.hid hS
        clear hS hB5 HM HA HN HB HJ cN cA cM cB lN lA lM lB
        gi_wp2_with fail
        refine ⟨fun h => (by cases h), ?_⟩
        refine hR.mono ?_
        rintro e W6 ⟨rfl, hJ6, hk6⟩
        clear hR hy
        have HA6 := Lib.hid (hk6.blk HS5.out.2.2.1 (by simp))
        have HN6 := Lib.hid (hk6.blk HS5.out.2.2.2.1 (by simp))
        have HM6 := Lib.hid (hk6.blk HS5.out.2.1 (by simp))
        have HB6 := Lib.hid (hk6.blk HS5.out.2.2.2.2 (by simp))
        have HJ6 := Lib.hid hJ6
        clear hJ6 hk6 HS5
        have cA6 := HA6.out.cell
        have cN6 := HN6.out.cell
        have lA6 := HA6.out.lt
        have lN6 := HN6.out.lt
        have zA6 := HA6.out.frozen
        have zN6 := HN6.out.frozen
        have hw1 : IntKind.i64.wrap ((a : Int) + 256) = (a : Int) + 256 := IntWalk.i64_in _ (by omega)
        gi_wp2_with fail
        gi_region
        gi_wp2
        go_roundw
        case rel =>
          have ea : ((a + 256 - ff : Nat) : Int) = (a : Int) + 256 - ff := by have := HEQ.out; omega
          have ek : ((k - (256 - ff) : Nat) : Int) = (k : Int) - (256 - ff) := by have := HEQ.out; omega
          refine ⟨q + 1, a + 256 - ff, k - (256 - ff), HIN1.out, HX1.out, HLX1.out, HJT.out _ _ _ HJ6.out ((Turns.set _ (by simp) 0 _).trans ((Turns.set _ (by simp) 0 _).trans (Turns.below (Below.refl _ _).drew))),
            ((HM6.out.set_other h2.2 _ _).set_other h2.1 _ _).drew, ?_, ?_, ((HB6.out.set_other h3.2 _ _).set_other h3.1 _ _).drew⟩
          · rw [ea]; exact ((HA6.out.set 0 _).set_other (Ne.symm h1) _ _).drew
          · rw [ek]; exact ((HN6.out.set_other h1 _ _).set 0 _).drew
        case measure =>
          have ek : ((k - (256 - ff) : Nat) : Int) = (k : Int) - (256 - ff) := by have := HEQ.out; omega
          rw [HLF.out, leftAt_eq (k := k - (256 - ff)) (e := 3) (by rw [ek]; exact ((HN6.out.set_other h1 _ _).set 0 _).drew)]
          have := HEQ.out
          omega

      · obtain ⟨t, ht⟩ : ∃ t, t = a % 256 + k := ⟨_, rfl⟩

        have hf1 : ((a : Nat) : Int) % 256 = ((a % 256 : Nat) : Int) := by omega
        have hpc := parts_cons a k t h0 (by omega)
        have hx0 : XS[q]? = some (a / 256, a % 256, t) := by have := HXL.out 0; rw [Nat.add_zero, hpc] at this; exact this
        have hx1 : ∀ i, XS[q + 1 + i]? = (parts (k - (t - a % 256)) (a + t - a % 256) (k - (t - a % 256)))[i]? := fun i => by
          have := HXL.out (i + 1); rw [hpc, show q + (i + 1) = q + 1 + i by omega] at this; simpa using this
        have hlx1 : XS.length = q + 1 + (parts (k - (t - a % 256)) (a + t - a % 256) (k - (t - a % 256))).length := by
          have := HLX.out; rw [hpc, List.length_cons] at this; omega
        have hin1 : a + t - a % 256 + (k - (t - a % 256)) ≤ 256 * n := by have := HIN.out; omega
        have HX0 := Lib.hid hx0
        have HX1 := Lib.hid hx1
        have HLX1 := Lib.hid hlx1
        have HIN1 := Lib.hid hin1
        have hpage : (a : Int) / 256 < n := by have := HIN.out; omega
        have hpage2 : (a : Int) / 256 = ((a / 256 : Nat) : Int) := by omega
        have hsm : (a : Int) ≤ 16777216 := by have := HIN.out; omega
        have hsk : (k : Int) ≤ 16777216 := by have := HIN.out; omega
        generalize hpi : a / 256 = pi at *
        generalize hff : a % 256 = ff at *
        have HEQ : Hid (ff ≤ t ∧ t ≤ 256 ∧ ff < 256 ∧ t - ff ≤ k ∧ ff ≤ a ∧ 0 < t - ff) := Lib.hid (by omega)
        have hsf : (ff : Int) ≤ 256 := by have := HEQ.out; omega
        have hp3 : (pi : Int) < n := by omega
        have hwp : IntKind.i64.wrap (pi : Int) = pi := IntWalk.i64_in _ (by omega)
        have hsum : (ff : Int) + k = (t : Int) := by omega
        have htt : (t : Int) ≤ 256 := by omega
        clear ht hc
        clear hx0 hx1 hlx1 hin1 hpc hpi hff
        gi_wp2_with fail
        refine wpIn_flow_lit Wide.wide 11 (fun w' => J q w' ∧ Blk w' bm #[.pointer (some ⟨b, 0, none⟩)] 56 ∧ Blk w' ba #[.int .i64 a] 3 ∧ Blk w' bn #[.int .i64 k] 3 ∧ Blk w' b #[.slice (some ⟨bP, 0, none⟩) n n] 107)
          [none, none, none, none, none, none, none, none, none, none, none] (by kernel_rfl) (by kernel_rfl) (by kernel_rfl) ⟨HJT.out q _ _ HJ.out (Turns.below (Below.refl _ _).drew), HM.out.drew, HA.out.drew, HN.out.drew, HB.out.drew⟩
          (fun w1 w2 h hb => ⟨HJT.out q _ _ h.1 (Turns.below hb), h.2.1.below hb h.2.1.lt, h.2.2.1.below hb h.2.2.1.lt, h.2.2.2.1.below hb h.2.2.2.1.lt, h.2.2.2.2.below hb h.2.2.2.2.lt⟩) trivial ?_
        try simp (config := { maxSteps := 10000000 }) only [specV, addF, Act.put, List.setIfInBounds_toArray, List.set_cons_zero, List.set_cons_succ, List.take_succ_cons, List.take_zero, List.drop_succ_cons, List.drop_zero]
        (apply Exists.intro; refine ⟨fun vs w1 hS hB hf => ?_, ?_⟩; (focus (clear hS hB hf; go_simp; first | exact ⟨Below.refl _ _, rfl⟩ | exact rfl)); try simp (config := { maxSteps := 10000000 }) only [specV, addF, Act.put, List.setIfInBounds_toArray, List.set_cons_zero, List.set_cons_succ, List.take_succ_cons, List.take_zero, List.drop_succ_cons, List.drop_zero])
        (apply Exists.intro; refine ⟨fun vs w1 hS hB hf => ?_, ?_⟩; (focus (have cM1 := hS.2.1.cell; have lM1 := hS.2.1.lt; clear hS hB hf; go_simp; first | exact ⟨Below.refl _ _, rfl⟩ | exact rfl)); try simp (config := { maxSteps := 10000000 }) only [specV, addF, Act.put, List.setIfInBounds_toArray, List.set_cons_zero, List.set_cons_succ, List.take_succ_cons, List.take_zero, List.drop_succ_cons, List.drop_zero])
        (apply Exists.intro; refine ⟨fun vs w1 hS hB hf => ?_, ?_⟩; (focus (clear hS hB hf; go_simp; first | exact ⟨Below.refl _ _, rfl⟩ | exact rfl)); try simp (config := { maxSteps := 10000000 }) only [specV, addF, Act.put, List.setIfInBounds_toArray, List.set_cons_zero, List.set_cons_succ, List.take_succ_cons, List.take_zero, List.drop_succ_cons, List.drop_zero])
        (apply Exists.intro; refine ⟨fun vs w1 hS hB hf => ?_, ?_⟩; (focus (clear hS hB hf; go_simp; first | exact ⟨Below.refl _ _, rfl⟩ | exact rfl)); try simp (config := { maxSteps := 10000000 }) only [specV, addF, Act.put, List.setIfInBounds_toArray, List.set_cons_zero, List.set_cons_succ, List.take_succ_cons, List.take_zero, List.drop_succ_cons, List.drop_zero])
        (apply Exists.intro; refine ⟨fun vs w1 hS hB hf => ?_, ?_⟩; (focus (have cM1 := hS.2.2.2.2.cell; have lM1 := hS.2.2.2.2.lt; clear hS hB hf; go_simp; first | exact ⟨Below.refl _ _, rfl⟩ | exact rfl)); try simp (config := { maxSteps := 10000000 }) only [specV, addF, Act.put, List.setIfInBounds_toArray, List.set_cons_zero, List.set_cons_succ, List.take_succ_cons, List.take_zero, List.drop_succ_cons, List.drop_zero])
        (apply Exists.intro; refine ⟨fun vs w1 hS hB hf => ?_, ?_⟩; (focus (have cM1 := hS.2.2.1.cell; have lM1 := hS.2.2.1.lt; clear hS hB hf; go_simp; first | exact ⟨Below.refl _ _, rfl⟩ | exact rfl)); try simp (config := { maxSteps := 10000000 }) only [specV, addF, Act.put, List.setIfInBounds_toArray, List.set_cons_zero, List.set_cons_succ, List.take_succ_cons, List.take_zero, List.drop_succ_cons, List.drop_zero])
        (apply Exists.intro; refine ⟨fun vs w1 hS hB hf => ?_, ?_⟩; (focus (clear hS hB hf; go_simp; first | exact ⟨Below.refl _ _, rfl⟩ | exact rfl)); try simp (config := { maxSteps := 10000000 }) only [specV, addF, Act.put, List.setIfInBounds_toArray, List.set_cons_zero, List.set_cons_succ, List.take_succ_cons, List.take_zero, List.drop_succ_cons, List.drop_zero])
        (apply Exists.intro; refine ⟨fun vs w1 hS hB hf => ?_, ?_⟩; (focus (clear hS hB hf; go_simp; first | exact ⟨Below.refl _ _, rfl⟩ | exact rfl)); try simp (config := { maxSteps := 10000000 }) only [specV, addF, Act.put, List.setIfInBounds_toArray, List.set_cons_zero, List.set_cons_succ, List.take_succ_cons, List.take_zero, List.drop_succ_cons, List.drop_zero])
        (apply Exists.intro; refine ⟨fun vs w1 hS hB hf => ?_, ?_⟩; (focus (clear hS hB hf; go_simp; first | exact ⟨Below.refl _ _, rfl⟩ | exact rfl)); try simp (config := { maxSteps := 10000000 }) only [specV, addF, Act.put, List.setIfInBounds_toArray, List.set_cons_zero, List.set_cons_succ, List.take_succ_cons, List.take_zero, List.drop_succ_cons, List.drop_zero])
        (apply Exists.intro; refine ⟨fun vs w1 hS hB hf => ?_, ?_⟩; (focus (clear hS hB hf; go_simp; first | exact ⟨Below.refl _ _, rfl⟩ | exact rfl)); try simp (config := { maxSteps := 10000000 }) only [specV, addF, Act.put, List.setIfInBounds_toArray, List.set_cons_zero, List.set_cons_succ, List.take_succ_cons, List.take_zero, List.drop_succ_cons, List.drop_zero])
        (apply Exists.intro; refine ⟨fun vs w1 hS hB hf => ?_, ?_⟩; (focus (clear hS hB hf; go_simp; first | exact ⟨Below.refl _ _, rfl⟩ | exact rfl)); try simp (config := { maxSteps := 10000000 }) only [specV, addF, Act.put, List.setIfInBounds_toArray, List.set_cons_zero, List.set_cons_succ, List.take_succ_cons, List.take_zero, List.drop_succ_cons, List.drop_zero])
        intro vs W5 hS hB5 _
        dsimp only
        obtain ⟨fn, tmps, assign, body, hy, hR⟩ := HY.out q _ W5 HX0.out hS.1
        simp only [encP] at hy
        have HS5 := Lib.hid hS
        clear hS hB5 HM HA HN HB HJ cN cA cM cB lN lA lM lB
        gi_wp2_with fail
        refine ⟨fun h => (by cases h), ?_⟩
        refine hR.mono ?_
        rintro e W6 ⟨rfl, hJ6, hk6⟩
        clear hR hy
        have HA6 := Lib.hid (hk6.blk HS5.out.2.2.1 (by simp))
        have HN6 := Lib.hid (hk6.blk HS5.out.2.2.2.1 (by simp))
        have HM6 := Lib.hid (hk6.blk HS5.out.2.1 (by simp))
        have HB6 := Lib.hid (hk6.blk HS5.out.2.2.2.2 (by simp))
        have HJ6 := Lib.hid hJ6
        clear hJ6 hk6 HS5
        have cA6 := HA6.out.cell
        have cN6 := HN6.out.cell
        have lA6 := HA6.out.lt
        have lN6 := HN6.out.lt
        have zA6 := HA6.out.frozen
        have zN6 := HN6.out.frozen
        have hw1 : IntKind.i64.wrap ((a : Int) + t) = (a : Int) + t := IntWalk.i64_in _ (by omega)
        gi_wp2_with fail
        gi_region
        gi_wp2
        go_roundw
        case rel =>
          have ea : ((a + t - ff : Nat) : Int) = (a : Int) + t - ff := by have := HEQ.out; omega
          have ek : ((k - (t - ff) : Nat) : Int) = (k : Int) - (t - ff) := by have := HEQ.out; omega
          refine ⟨q + 1, a + t - ff, k - (t - ff), HIN1.out, HX1.out, HLX1.out, HJT.out _ _ _ HJ6.out ((Turns.set _ (by simp) 0 _).trans ((Turns.set _ (by simp) 0 _).trans (Turns.below (Below.refl _ _).drew))),
            ((HM6.out.set_other h2.2 _ _).set_other h2.1 _ _).drew, ?_, ?_, ((HB6.out.set_other h3.2 _ _).set_other h3.1 _ _).drew⟩
          · rw [ea]; exact ((HA6.out.set 0 _).set_other (Ne.symm h1) _ _).drew
          · rw [ek]; exact ((HN6.out.set_other h1 _ _).set 0 _).drew
        case measure =>
          have ek : ((k - (t - ff) : Nat) : Int) = (k : Int) - (t - ff) := by have := HEQ.out; omega
          rw [HLF.out, leftAt_eq (k := k - (t - ff)) (e := 3) (by rw [ek]; exact ((HN6.out.set_other h1 _ _).set 0 _).drew)]
          have := HEQ.out
          omega

end Go.Proofs.Ytjimkkkiilcpoaa
