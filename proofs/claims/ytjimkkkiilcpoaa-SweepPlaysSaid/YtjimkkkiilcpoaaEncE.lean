/- What enc.Same and the reference's Same answer: whether both are right, and their bytes the same. -/
import Derived.Test.YtjimkkkiilcpoaaEncC
import Derived.Lib.Bytes
set_option linter.unusedVariables false
set_option linter.unusedSimpArgs false
namespace Go.Proofs.Ytjimkkkiilcpoaa
open Go.RowKit

def isB (xs : List Int) : Prop := ∀ x ∈ xs, 0 ≤ x ∧ x ≤ 255

theorem isB_bytes4 (n : Int) : isB (bytes4 n) := by
  intro x hx
  simp only [bytes4, List.mem_cons, List.not_mem_nil, or_false] at hx
  rcases hx with rfl | rfl | rfl | rfl <;> omega

theorem isB_put {t : Bool} {b p a q y : Int} (h : rightB t b p a q y = true) : isB (putBytes b p a q y) := by
  have hs := right_small h
  intro x hx
  simp only [putBytes, List.mem_append] at hx
  rcases hx with ((hx | hx) | hx) | hx
  · exact isB_bytes4 _ x hx
  · exact isB_bytes4 _ x hx
  · exact isB_bytes4 _ x hx
  · simp only [List.mem_cons, List.not_mem_nil, or_false] at hx
    omega

theorem map_ofNat_inj : ∀ {xs ys : List Int}, isB xs → isB ys → xs.map (fun n => UInt8.ofNat n.toNat) = ys.map (fun n => UInt8.ofNat n.toNat) → xs = ys
  | [], [], _, _, _ => rfl
  | [], _ :: _, _, _, h => by simp at h
  | _ :: _, [], _, _, h => by simp at h
  | x :: xs, y :: ys, hx, hy, h => by
    simp only [List.map_cons, List.cons.injEq] at h
    obtain ⟨h1, h2⟩ := h
    have e := congrArg UInt8.toNat h1
    have bx := hx x (List.mem_cons_self ..)
    have by_ := hy y (List.mem_cons_self ..)
    rw [UInt8.toNat_ofNat_of_lt' (by simp [UInt8.size]; omega), UInt8.toNat_ofNat_of_lt' (by simp [UInt8.size]; omega)] at e
    have : x = y := by omega
    rw [this, map_ofNat_inj (fun z hz => hx z (List.mem_cons_of_mem _ hz)) (fun z hz => hy z (List.mem_cons_of_mem _ hz)) h2]

theorem str_beq {xs ys : List Int} (hx : isB xs) (hy : isB ys) : ((strOfNums xs).toList == (strOfNums ys).toList) = decide (xs = ys) := by
  rw [Bool.eq_iff_iff, beq_iff_eq, decide_eq_true_eq, Lib.strOfNums_toList, Lib.strOfNums_toList]
  exact ⟨fun h => map_ofNat_inj hx hy h, fun h => by rw [h]⟩

theorem spot_of_cell {w : World} {ad : Addr} {v : Value} (h : w.cell? (ad.add 0) = some v) : ad.spot = none := by
  have := World.cell?_spot h
  obtain ⟨b, o, s⟩ := ad
  cases s with
  | none => rfl
  | some s => simp [Addr.add] at this

section
variable {P : Program} {w : World}
theorem run_str {src e dst : TypeId} (hs : P.underlying src = some (.slice e)) (he : P.underlying e = some (.int .u8)) (hd : P.underlying dst = some .string) {A : Option Addr} {n : Nat} (c : Nat) {xs : List Int} (hl : xs.length = n) (hR : RdL w A (u8s xs)) :
    (convert src dst (.slice A n c)).run P w = .ok (.string (strOfNums xs)) w := by
  cases A with
  | none =>
    have : xs = [] := by
      cases xs with
      | nil => rfl
      | cons x l => obtain ⟨_, h, _⟩ := hR 0 (.int .u8 x) rfl; cases h
    subst this
    exact run_convert_bytes_nil w src e hs he _ _ dst hd
  | some ad =>
    have hget : ∀ i, i < xs.length → (u8s xs)[i]? = some (.int .u8 (xs.getD i 0)) := fun i hi => by
      simp [u8s, List.getElem?_eq_getElem hi, List.getD_eq_getElem?_getD]
    by_cases h0 : 0 < n
    · obtain ⟨ad', h1, h2⟩ := hR 0 _ (hget 0 (by omega))
      cases h1
      have hsp := spot_of_cell h2
      obtain ⟨b, o, s⟩ := ad
      simp only at hsp
      subst hsp
      refine run_convert_bytes_arg w src e hs he b o n c xs hl (fun i hi => ?_) dst hd
      obtain ⟨ad', h1, h2⟩ := hR i _ (hget i (by omega))
      cases h1
      rwa [add_plain] at h2
    · have hn : n = 0 := by omega
      subst hn
      have : xs = [] := List.eq_nil_of_length_eq_zero hl
      subst this
      rw [run_convert_bytes_string w src dst e _ _ c hs he hd]
      simp [Conv.bytesToString, loadCells, loadCellsFrom]
      rfl
end

/-- A slice whose cells are these numbers. -/
def RowU (w : World) (v : Value) (xs : List Int) : Prop := ∃ A c, v = .slice A xs.length c ∧ RdL w A (u8s xs) ∧ xs.length ≤ c
theorem RowU.below {w w1 : World} {v : Value} {xs : List Int} (h : RowU w v xs) (hb : Below w.heap.size w w1) : RowU w1 v xs := by
  obtain ⟨A, c, h1, h2, h4⟩ := h
  exact ⟨A, c, h1, h2.below hb, h4⟩
theorem RowU.own {w : World} {base : Nat} {e : TypeId} {v : Value} {n : Nat} {xs : List Int} (h : w.ownsRow base e 1 v n (u8s xs)) : RowU w v xs := by
  have hn : xs.length = n := by have := h.1; simpa [u8s] using this
  obtain ⟨A, c, rfl⟩ := own_form h
  refine ⟨A, c, by rw [hn], RdL.own h, ?_⟩
  rcases h.2 with ⟨hv, h0⟩ | ⟨g, cap, cur, hv, _, _, hle, _⟩
  · cases hv; omega
  · cases hv; omega
theorem RowU.nil (w : World) : RowU w (.slice none 0 0) [] := ⟨none, 0, rfl, RdL.nil _ _, Nat.le_refl _⟩

set_option maxRecDepth 100000 in
theorem bytes_equal (v1 v2 : Value) (xs ys : List Int) (w : World) (h1 : RowU w v1 xs) (h2 : RowU w v2 ys) (hx : isB xs) (hy : isB ys) :
    Calls Try.prog 95 #[v1, v2] w fun e w' => e = .returned (.bool (decide (xs = ys))) ∧ w' = w := by
  obtain ⟨A1, c1, rfl, r1, _⟩ := h1
  obtain ⟨A2, c2, rfl, r2, _⟩ := h2
  have k1 := run_str (P := Try.prog) Try.underlying24 Try.underlying5 Try.underlying9 c1 rfl r1
  have k2 := run_str (P := Try.prog) Try.underlying24 Try.underlying5 Try.underlying9 c2 rfl r2
  go_enter Try.func95, Try.ntmps95
  go_wp2
  go_ret
  exact ⟨congrArg Ending.returned (congrArg Value.bool (str_beq hx hy)), rfl⟩

def putL (t : Bool) (b p a q y : Int) : List Int := if rightB t b p a q y then putBytes b p a q y else []
theorem isB_putL (t : Bool) (b p a q y : Int) : isB (putL t b p a q y) := by
  unfold putL
  split
  · rename_i h; exact isB_put h
  · intro x hx; cases hx

theorem put_row (t : Bool) (b p a q y : Int) (w : World) (hq : inI q) :
    Calls Try.prog 26 #[.agg #[.bool (t), .int .i64 (b), .int .i64 (p), .int .i64 (a), .int .i64 (q), .int .i64 (y)]] w fun e w' => ∃ v, e = .returned v ∧ RowU w' v (putL t b p a q y) ∧ Below w.heap.size w w' := by
  cases hr : rightB t b p a q y with
  | true => exact (put_any t b p a q y w hq hr).mono fun e w' ⟨v, he, ho, hb⟩ => ⟨v, he, by rw [putL, if_pos hr]; exact RowU.own ho, hb⟩
  | false => exact (put_none t b p a q y w hq hr).mono fun e w' ⟨he, hb⟩ => ⟨_, he, by rw [putL, if_neg (by rw [hr]; exact Bool.false_ne_true)]; exact RowU.nil _, hb⟩

theorem ref_put_row (t : Bool) (b p a q y : Int) (w : World) :
    Calls Try.prog 27 #[.agg #[.bool (t), .int .i64 (b), .int .i64 (p), .int .i64 (a), .int .i64 (q), .int .i64 (y)]] w fun e w' => ∃ v, e = .returned v ∧ RowU w' v (putL t b p a q y) ∧ Below w.heap.size w w' := by
  cases hr : rightB t b p a q y with
  | true => exact (ref_put_any t b p a q y w hr).mono fun e w' ⟨v, he, ho, hb⟩ => ⟨v, he, by rw [putL, if_pos hr]; exact RowU.own ho, hb⟩
  | false => exact (ref_put_none t b p a q y w hr).mono fun e w' ⟨he, hb⟩ => ⟨_, he, by rw [putL, if_neg (by rw [hr]; exact Bool.false_ne_true)]; exact RowU.nil _, hb⟩

def sameB (t : Bool) (b p a q y : Int) (t' : Bool) (b' p' a' q' y' : Int) : Bool := rightB t b p a q y && decide (putL t b p a q y = putL t' b' p' a' q' y')

/-- A value of which it is known, after whatever growth, how it reads. -/
def RowS (xs : List Int) : Value → World → Prop := fun v w => RowU w v xs
theorem rowS_stab (xs : List Int) : ∀ v w w', RowS xs v w → Below w.heap.size w w' → RowS xs v w' := fun _ _ _ h hb => RowU.below h hb

set_option maxRecDepth 100000 in
set_option maxHeartbeats 1600000 in
theorem same_any (t : Bool) (b p a q y : Int) (t' : Bool) (b' p' a' q' y' : Int) (w : World) (hq : inI q) (hq' : inI q') :
    Calls Try.prog 28 #[.agg #[.bool (t), .int .i64 (b), .int .i64 (p), .int .i64 (a), .int .i64 (q), .int .i64 (y)], .agg #[.bool (t'), .int .i64 (b'), .int .i64 (p'), .int .i64 (a'), .int .i64 (q'), .int .i64 (y')]] w fun e w' => e = .returned (.bool (sameB t b p a q y t' b' p' a' q' y')) ∧ Below w.heap.size w w' := by
  go_enter Try.func28, Try.ntmps28
  go_wp2_with fail
  obtain ⟨W, hW⟩ : ∃ W : World, W = (w.alloc (.cells #[.bool (t), .int .i64 (b), .int .i64 (p), .int .i64 (a), .int .i64 (q), .int .i64 (y)] 23)).alloc (.cells #[.bool (t'), .int .i64 (b'), .int .i64 (p'), .int .i64 (a'), .int .i64 (q'), .int .i64 (y')] 23) := ⟨_, rfl⟩
  rw [← hW]
  have HB : Below w.heap.size w W := by rw [hW]; go_grown
  have B1 : Blk W w.heap.size #[.bool (t), .int .i64 (b), .int .i64 (p), .int .i64 (a), .int .i64 (q), .int .i64 (y)] 23 := by rw [hW]; exact (Blk.new _ _ _).alloc _
  have B2 : Blk W (w.heap.size + 1) #[.bool (t'), .int .i64 (b'), .int .i64 (p'), .int .i64 (a'), .int .i64 (q'), .int .i64 (y')] 23 := by rw [hW]; have := Blk.new (w.alloc (.cells #[.bool (t), .int .i64 (b), .int .i64 (p), .int .i64 (a), .int .i64 (q), .int .i64 (y)] 23)) #[.bool (t'), .int .i64 (b'), .int .i64 (p'), .int .i64 (a'), .int .i64 (q'), .int .i64 (y')] 23; rwa [World.size_alloc] at this
  clear hW
  have hlt := B1.lt
  have hfin : sameB t b p a q y t' b' p' a' q' y' = (rightB t b p a q y && decide (putL t b p a q y = putL t' b' p' a' q' y')) := rfl
  have HF := Lib.hid hfin
  clear hfin
  cases hr : rightB t b p a q y with
  | false =>
    rw [hr] at HF
    refine wp_flow_lit 9 (fun w' => Blk w' w.heap.size #[.bool (t), .int .i64 (b), .int .i64 (p), .int .i64 (a), .int .i64 (q), .int .i64 (y)] 23 ∧ Blk w' (w.heap.size + 1) #[.bool (t'), .int .i64 (b'), .int .i64 (p'), .int .i64 (a'), .int .i64 (q'), .int .i64 (y')] 23)
      [none, none, none, none, none, none, none, none, none] (by kernel_rfl) (by kernel_rfl) ⟨B1, B2⟩ (fun w1 w2 h hb => ⟨h.1.below hb h.1.lt, h.2.below hb h.2.lt⟩) trivial ?_
    try simp (config := { maxSteps := 10000000 }) only [specV, addF, Act.put, List.setIfInBounds_toArray, List.set_cons_zero, List.set_cons_succ, List.take_succ_cons, List.take_zero, List.drop_succ_cons, List.drop_zero]
    (apply Exists.intro; refine ⟨fun vs w1 hS hB hf => ?_, ?_⟩; (focus (have L1 := hS.1.cell; clear hS hB hf; go_simp; first | exact ⟨Below.refl _ _, rfl⟩ | exact rfl)); try simp (config := { maxSteps := 10000000 }) only [specV, addF, Act.put, List.setIfInBounds_toArray, List.set_cons_zero, List.set_cons_succ, List.take_succ_cons, List.take_zero, List.drop_succ_cons, List.drop_zero])
    (apply Exists.intro; refine ⟨fun vs w1 hS hB hf => ?_, ?_⟩; (focus (go_simp; exact (cap_right t b p a q y w1 hq).mono fun e w2 ⟨he, hb⟩ => callPost.of (v := .bool false) (by rw [he, hr]) hb rfl)); try simp (config := { maxSteps := 10000000 }) only [specV, addF, Act.put, List.setIfInBounds_toArray, List.set_cons_zero, List.set_cons_succ, List.take_succ_cons, List.take_zero, List.drop_succ_cons, List.drop_zero])
    (apply Exists.intro; refine ⟨fun vs w1 hS hB hf => ?_, ?_⟩; (focus (clear hS hB hf; go_simp; first | exact ⟨Below.refl _ _, rfl⟩ | exact rfl)); try simp (config := { maxSteps := 10000000 }) only [specV, addF, Act.put, List.setIfInBounds_toArray, List.set_cons_zero, List.set_cons_succ, List.take_succ_cons, List.take_zero, List.drop_succ_cons, List.drop_zero])
    (apply Exists.intro; refine ⟨fun vs w1 hS hB hf => ?_, ?_⟩; (focus (clear hS hB hf; go_simp; first | exact ⟨Below.refl _ _, rfl⟩ | exact rfl)); try simp (config := { maxSteps := 10000000 }) only [specV, addF, Act.put, List.setIfInBounds_toArray, List.set_cons_zero, List.set_cons_succ, List.take_succ_cons, List.take_zero, List.drop_succ_cons, List.drop_zero])
    (apply Exists.intro; refine ⟨fun vs w1 hS hB hf => ?_, ?_⟩; (focus (clear hS hB hf; go_simp; first | exact ⟨Below.refl _ _, rfl⟩ | exact rfl)); try simp (config := { maxSteps := 10000000 }) only [specV, addF, Act.put, List.setIfInBounds_toArray, List.set_cons_zero, List.set_cons_succ, List.take_succ_cons, List.take_zero, List.drop_succ_cons, List.drop_zero])
    (apply Exists.intro; refine ⟨fun vs w1 hS hB hf => ?_, ?_⟩; (focus (clear hS hB hf; go_simp; first | exact ⟨Below.refl _ _, rfl⟩ | exact rfl)); try simp (config := { maxSteps := 10000000 }) only [specV, addF, Act.put, List.setIfInBounds_toArray, List.set_cons_zero, List.set_cons_succ, List.take_succ_cons, List.take_zero, List.drop_succ_cons, List.drop_zero])
    (apply Exists.intro; refine ⟨fun vs w1 hS hB hf => ?_, ?_⟩; (focus (clear hS hB hf; go_simp; first | exact ⟨Below.refl _ _, rfl⟩ | exact rfl)); try simp (config := { maxSteps := 10000000 }) only [specV, addF, Act.put, List.setIfInBounds_toArray, List.set_cons_zero, List.set_cons_succ, List.take_succ_cons, List.take_zero, List.drop_succ_cons, List.drop_zero])
    (apply Exists.intro; refine ⟨fun vs w1 hS hB hf => ?_, ?_⟩; (focus (clear hS hB hf; go_simp; first | exact ⟨Below.refl _ _, rfl⟩ | exact rfl)); try simp (config := { maxSteps := 10000000 }) only [specV, addF, Act.put, List.setIfInBounds_toArray, List.set_cons_zero, List.set_cons_succ, List.take_succ_cons, List.take_zero, List.drop_succ_cons, List.drop_zero])
    (apply Exists.intro; refine ⟨fun vs w1 hS hB hf => ?_, ?_⟩; (focus (clear hS hB hf; go_simp; first | exact ⟨Below.refl _ _, rfl⟩ | exact rfl)); try simp (config := { maxSteps := 10000000 }) only [specV, addF, Act.put, List.setIfInBounds_toArray, List.set_cons_zero, List.set_cons_succ, List.take_succ_cons, List.take_zero, List.drop_succ_cons, List.drop_zero])
    intro vs w5 hS hB _
    have HB5 : Below w.heap.size w w5 := below_then HB (by omega) hB
    clear hS hB HB B1 B2
    dsimp only
    go_wp2
    go_ret
    exact ⟨by rw [HF.out]; rfl, HB5⟩
  | true =>
    rw [hr] at HF
    refine wp_flow_lit 9 (fun w' => Blk w' w.heap.size #[.bool (t), .int .i64 (b), .int .i64 (p), .int .i64 (a), .int .i64 (q), .int .i64 (y)] 23 ∧ Blk w' (w.heap.size + 1) #[.bool (t'), .int .i64 (b'), .int .i64 (p'), .int .i64 (a'), .int .i64 (q'), .int .i64 (y')] 23)
      [none, none, none, none, some (RowS (putL t b p a q y)), none, some (RowS (putL t' b' p' a' q' y')), none, none] (by kernel_rfl) (by kernel_rfl) ⟨B1, B2⟩ (fun w1 w2 h hb => ⟨h.1.below hb h.1.lt, h.2.below hb h.2.lt⟩)
      ⟨rowS_stab _, rowS_stab _, trivial⟩ ?_
    try simp (config := { maxSteps := 10000000 }) only [specV, addF, Act.put, List.setIfInBounds_toArray, List.set_cons_zero, List.set_cons_succ, List.take_succ_cons, List.take_zero, List.drop_succ_cons, List.drop_zero]
    (apply Exists.intro; refine ⟨fun vs w1 hS hB hf => ?_, ?_⟩; (focus (have L1 := hS.1.cell; clear hS hB hf; go_simp; first | exact ⟨Below.refl _ _, rfl⟩ | exact rfl)); try simp (config := { maxSteps := 10000000 }) only [specV, addF, Act.put, List.setIfInBounds_toArray, List.set_cons_zero, List.set_cons_succ, List.take_succ_cons, List.take_zero, List.drop_succ_cons, List.drop_zero])
    (apply Exists.intro; refine ⟨fun vs w1 hS hB hf => ?_, ?_⟩; (focus (go_simp; exact (cap_right t b p a q y w1 hq).mono fun e w2 ⟨he, hb⟩ => callPost.of (v := .bool true) (by rw [he, hr]) hb rfl)); try simp (config := { maxSteps := 10000000 }) only [specV, addF, Act.put, List.setIfInBounds_toArray, List.set_cons_zero, List.set_cons_succ, List.take_succ_cons, List.take_zero, List.drop_succ_cons, List.drop_zero])
    (apply Exists.intro; refine ⟨fun vs w1 hS hB hf => ?_, ?_⟩; (focus (clear hS hB hf; go_simp; first | exact ⟨Below.refl _ _, rfl⟩ | exact rfl)); try simp (config := { maxSteps := 10000000 }) only [specV, addF, Act.put, List.setIfInBounds_toArray, List.set_cons_zero, List.set_cons_succ, List.take_succ_cons, List.take_zero, List.drop_succ_cons, List.drop_zero])
    (apply Exists.intro; refine ⟨fun vs w1 hS hB hf => ?_, ?_⟩; (focus (have L1 := hS.1.cell; clear hS hB hf; go_simp; first | exact ⟨Below.refl _ _, rfl⟩ | exact rfl)); try simp (config := { maxSteps := 10000000 }) only [specV, addF, Act.put, List.setIfInBounds_toArray, List.set_cons_zero, List.set_cons_succ, List.take_succ_cons, List.take_zero, List.drop_succ_cons, List.drop_zero])
    (refine ⟨fun vs w1 hS hB hf => ?_, ?_⟩; (focus (go_simp; exact (put_row t b p a q y w1 hq).mono fun e w2 ⟨v, he, ho, hb⟩ => callPost.of he hb ho)); try simp (config := { maxSteps := 10000000 }) only [specV, addF, Act.put, List.setIfInBounds_toArray, List.set_cons_zero, List.set_cons_succ, List.take_succ_cons, List.take_zero, List.drop_succ_cons, List.drop_zero])
    (apply Exists.intro; refine ⟨fun vs w1 hS hB hf => ?_, ?_⟩; (focus (have L1 := hS.2.cell; clear hS hB hf; go_simp; first | exact ⟨Below.refl _ _, rfl⟩ | exact rfl)); try simp (config := { maxSteps := 10000000 }) only [specV, addF, Act.put, List.setIfInBounds_toArray, List.set_cons_zero, List.set_cons_succ, List.take_succ_cons, List.take_zero, List.drop_succ_cons, List.drop_zero])
    (refine ⟨fun vs w1 hS hB hf => ?_, ?_⟩; (focus (go_simp; exact (put_row t' b' p' a' q' y' w1 hq').mono fun e w2 ⟨v, he, ho, hb⟩ => callPost.of he hb ho)); try simp (config := { maxSteps := 10000000 }) only [specV, addF, Act.put, List.setIfInBounds_toArray, List.set_cons_zero, List.set_cons_succ, List.take_succ_cons, List.take_zero, List.drop_succ_cons, List.drop_zero])
    (apply Exists.intro; refine ⟨fun vs w1 hS hB hf => ?_, ?_⟩; (focus (obtain ⟨h6, h4, _⟩ := hf; have r6 := h6 rfl; have r4 := h4 rfl; clear hS hB h6 h4; go_simp; exact (bytes_equal _ _ _ _ w1 r4 r6 (isB_putL _ _ _ _ _ _) (isB_putL _ _ _ _ _ _)).mono fun e w2 ⟨he, hw⟩ => callPost.of he (by rw [hw]; exact Below.refl _ _) rfl)); try simp (config := { maxSteps := 10000000 }) only [specV, addF, Act.put, List.setIfInBounds_toArray, List.set_cons_zero, List.set_cons_succ, List.take_succ_cons, List.take_zero, List.drop_succ_cons, List.drop_zero])
    (apply Exists.intro; refine ⟨fun vs w1 hS hB hf => ?_, ?_⟩; (focus (clear hS hB hf; go_simp; first | exact ⟨Below.refl _ _, rfl⟩ | exact rfl)); try simp (config := { maxSteps := 10000000 }) only [specV, addF, Act.put, List.setIfInBounds_toArray, List.set_cons_zero, List.set_cons_succ, List.take_succ_cons, List.take_zero, List.drop_succ_cons, List.drop_zero])
    intro vs w5 hS hB _
    have HB5 : Below w.heap.size w w5 := below_then HB (by omega) hB
    clear hS hB HB B1 B2
    dsimp only
    go_wp2
    go_ret
    exact ⟨by rw [HF.out]; rfl, HB5⟩

theorem putL_len {t : Bool} {b p a q y : Int} (h : rightB t b p a q y = true) : (putL t b p a q y).length = 16 := by
  rw [putL, if_pos h]
  simp [putBytes, bytes4]
theorem putL_nil {t : Bool} {b p a q y : Int} (h : rightB t b p a q y = false) : putL t b p a q y = [] := by
  rw [putL, if_neg (by rw [h]; exact Bool.false_ne_true)]

set_option maxRecDepth 100000 in
set_option maxHeartbeats 1600000 in
theorem ref_same_any (t : Bool) (b p a q y : Int) (t' : Bool) (b' p' a' q' y' : Int) (w : World) :
    Calls Try.prog 29 #[.agg #[.bool (t), .int .i64 (b), .int .i64 (p), .int .i64 (a), .int .i64 (q), .int .i64 (y)], .agg #[.bool (t'), .int .i64 (b'), .int .i64 (p'), .int .i64 (a'), .int .i64 (q'), .int .i64 (y')]] w fun e w' => e = .returned (.bool (sameB t b p a q y t' b' p' a' q' y')) ∧ Below w.heap.size w w' := by
  go_enter Try.func29, Try.ntmps29
  go_wp2_with fail
  refine (ref_put_row t b p a q y _).mono ?_
  rintro e w1 ⟨v1, rfl, r1, hb1⟩
  have HB := below_then (by go_grown : Below w.heap.size w ((w.alloc (.cells #[.bool (t), .int .i64 (b), .int .i64 (p), .int .i64 (a), .int .i64 (q), .int .i64 (y)] 23)).alloc (.cells #[.bool (t'), .int .i64 (b'), .int .i64 (p'), .int .i64 (a'), .int .i64 (q'), .int .i64 (y')] 23))) (by first | omega | (simp only [World.size_alloc, World.size_drew, World.size_setCell]; omega) | (simp; done) | (simp; omega)) hb1
  have B2 : Blk w1 (w.heap.size + 1) #[.bool (t'), .int .i64 (b'), .int .i64 (p'), .int .i64 (a'), .int .i64 (q'), .int .i64 (y')] 23 := by
    have := Blk.new (w.alloc (.cells #[.bool (t), .int .i64 (b), .int .i64 (p), .int .i64 (a), .int .i64 (q), .int .i64 (y)] 23)) #[.bool (t'), .int .i64 (b'), .int .i64 (p'), .int .i64 (a'), .int .i64 (q'), .int .i64 (y')] 23
    rw [World.size_alloc] at this
    exact this.below hb1 (by first | omega | (simp only [World.size_alloc, World.size_drew, World.size_setCell]; omega) | (simp; done) | (simp; omega))
  clear hb1
  have hlt := B2.lt
  have hfin : sameB t b p a q y t' b' p' a' q' y' = (rightB t b p a q y && decide (putL t b p a q y = putL t' b' p' a' q' y')) := rfl
  have HF := Lib.hid hfin
  clear hfin
  cases hr : rightB t b p a q y with
  | false =>
    rw [hr] at HF
    rw [putL_nil hr] at r1
    obtain ⟨A1, c1, rfl, r1, _⟩ := r1
    clear r1 hr
    go_upto_region 2 with fail
    refine wp_flow_lit 11 (fun w' => w.heap.size < w'.heap.size)
      [none, none, none, none, none, none, none, none, none, none, none] (by kernel_rfl) (by kernel_rfl) (by simp; omega) (fun w1 w2 h hb => Nat.lt_of_lt_of_le h hb.size) trivial ?_
    try simp (config := { maxSteps := 10000000 }) only [specV, addF, Act.put, List.setIfInBounds_toArray, List.set_cons_zero, List.set_cons_succ, List.take_succ_cons, List.take_zero, List.drop_succ_cons, List.drop_zero]
    (apply Exists.intro; refine ⟨fun vs w1 hS hB hf => ?_, ?_⟩; (focus (clear hS hB hf; go_simp; first | exact ⟨Below.refl _ _, rfl⟩ | exact rfl)); try simp (config := { maxSteps := 10000000 }) only [specV, addF, Act.put, List.setIfInBounds_toArray, List.set_cons_zero, List.set_cons_succ, List.take_succ_cons, List.take_zero, List.drop_succ_cons, List.drop_zero])
    (apply Exists.intro; refine ⟨fun vs w1 hS hB hf => ?_, ?_⟩; (focus (clear hS hB hf; go_simp; first | exact ⟨Below.refl _ _, rfl⟩ | exact rfl)); try simp (config := { maxSteps := 10000000 }) only [specV, addF, Act.put, List.setIfInBounds_toArray, List.set_cons_zero, List.set_cons_succ, List.take_succ_cons, List.take_zero, List.drop_succ_cons, List.drop_zero])
    (apply Exists.intro; refine ⟨fun vs w1 hS hB hf => ?_, ?_⟩; (focus (clear hS hB hf; go_simp; first | exact ⟨Below.refl _ _, rfl⟩ | exact rfl)); try simp (config := { maxSteps := 10000000 }) only [specV, addF, Act.put, List.setIfInBounds_toArray, List.set_cons_zero, List.set_cons_succ, List.take_succ_cons, List.take_zero, List.drop_succ_cons, List.drop_zero])
    (apply Exists.intro; refine ⟨fun vs w1 hS hB hf => ?_, ?_⟩; (focus (clear hS hB hf; go_simp; first | exact ⟨Below.refl _ _, rfl⟩ | exact rfl)); try simp (config := { maxSteps := 10000000 }) only [specV, addF, Act.put, List.setIfInBounds_toArray, List.set_cons_zero, List.set_cons_succ, List.take_succ_cons, List.take_zero, List.drop_succ_cons, List.drop_zero])
    (apply Exists.intro; refine ⟨fun vs w1 hS hB hf => ?_, ?_⟩; (focus (clear hS hB hf; go_simp; first | exact ⟨Below.refl _ _, rfl⟩ | exact rfl)); try simp (config := { maxSteps := 10000000 }) only [specV, addF, Act.put, List.setIfInBounds_toArray, List.set_cons_zero, List.set_cons_succ, List.take_succ_cons, List.take_zero, List.drop_succ_cons, List.drop_zero])
    (apply Exists.intro; refine ⟨fun vs w1 hS hB hf => ?_, ?_⟩; (focus (clear hS hB hf; go_simp; first | exact ⟨Below.refl _ _, rfl⟩ | exact rfl)); try simp (config := { maxSteps := 10000000 }) only [specV, addF, Act.put, List.setIfInBounds_toArray, List.set_cons_zero, List.set_cons_succ, List.take_succ_cons, List.take_zero, List.drop_succ_cons, List.drop_zero])
    (apply Exists.intro; refine ⟨fun vs w1 hS hB hf => ?_, ?_⟩; (focus (clear hS hB hf; go_simp; first | exact ⟨Below.refl _ _, rfl⟩ | exact rfl)); try simp (config := { maxSteps := 10000000 }) only [specV, addF, Act.put, List.setIfInBounds_toArray, List.set_cons_zero, List.set_cons_succ, List.take_succ_cons, List.take_zero, List.drop_succ_cons, List.drop_zero])
    (apply Exists.intro; refine ⟨fun vs w1 hS hB hf => ?_, ?_⟩; (focus (clear hS hB hf; go_simp; first | exact ⟨Below.refl _ _, rfl⟩ | exact rfl)); try simp (config := { maxSteps := 10000000 }) only [specV, addF, Act.put, List.setIfInBounds_toArray, List.set_cons_zero, List.set_cons_succ, List.take_succ_cons, List.take_zero, List.drop_succ_cons, List.drop_zero])
    (apply Exists.intro; refine ⟨fun vs w1 hS hB hf => ?_, ?_⟩; (focus (clear hS hB hf; go_simp; first | exact ⟨Below.refl _ _, rfl⟩ | exact rfl)); try simp (config := { maxSteps := 10000000 }) only [specV, addF, Act.put, List.setIfInBounds_toArray, List.set_cons_zero, List.set_cons_succ, List.take_succ_cons, List.take_zero, List.drop_succ_cons, List.drop_zero])
    (apply Exists.intro; refine ⟨fun vs w1 hS hB hf => ?_, ?_⟩; (focus (clear hS hB hf; go_simp; first | exact ⟨Below.refl _ _, rfl⟩ | exact rfl)); try simp (config := { maxSteps := 10000000 }) only [specV, addF, Act.put, List.setIfInBounds_toArray, List.set_cons_zero, List.set_cons_succ, List.take_succ_cons, List.take_zero, List.drop_succ_cons, List.drop_zero])
    (apply Exists.intro; refine ⟨fun vs w1 hS hB hf => ?_, ?_⟩; (focus (clear hS hB hf; go_simp; first | exact ⟨Below.refl _ _, rfl⟩ | exact rfl)); try simp (config := { maxSteps := 10000000 }) only [specV, addF, Act.put, List.setIfInBounds_toArray, List.set_cons_zero, List.set_cons_succ, List.take_succ_cons, List.take_zero, List.drop_succ_cons, List.drop_zero])
    intro vs w5 hS hB _
    have HB5 : Below w.heap.size w w5 := below_then HB (by omega) hB
    clear hS hB HB B2
    dsimp only
    go_wp2
    go_ret
    exact ⟨by rw [HF.out]; rfl, HB5⟩
  | true =>
    rw [hr] at HF
    obtain ⟨A1, c1, hv, r1, _⟩ := r1
    have hl := putL_len hr
    rw [hl] at hv
    subst hv
    clear hr
    have HL := Lib.hid hl
    clear hl
    obtain ⟨s1', e1⟩ : ∃ s, s = strOfNums (putL t b p a q y) := ⟨_, rfl⟩
    obtain ⟨s2', e2⟩ : ∃ s, s = strOfNums (putL t' b' p' a' q' y') := ⟨_, rfl⟩
    have E1 := Lib.hid e1
    have E2 := Lib.hid e2
    have hcmp : (s1'.toList == s2'.toList) = decide (putL t b p a q y = putL t' b' p' a' q' y') := by rw [e1, e2]; exact str_beq (isB_putL _ _ _ _ _ _) (isB_putL _ _ _ _ _ _)
    have HC := Lib.hid hcmp
    clear e1 e2 hcmp
    go_upto_region 2 with fail
    refine wp_flow_lit 11 (fun w' => RdL w' A1 (u8s (putL t b p a q y)) ∧ Blk w' (w.heap.size + 1) #[.bool (t'), .int .i64 (b'), .int .i64 (p'), .int .i64 (a'), .int .i64 (q'), .int .i64 (y')] 23)
      [none, none, none, none, none, none, none, some (RowS (putL t' b' p' a' q' y')), none, none, none] (by kernel_rfl) (by kernel_rfl) ⟨r1, B2⟩ (fun w1 w2 h hb => ⟨h.1.below hb, h.2.below hb h.2.lt⟩)
      ⟨rowS_stab _, trivial⟩ ?_
    try simp (config := { maxSteps := 10000000 }) only [specV, addF, Act.put, List.setIfInBounds_toArray, List.set_cons_zero, List.set_cons_succ, List.take_succ_cons, List.take_zero, List.drop_succ_cons, List.drop_zero]
    (apply Exists.intro; refine ⟨fun vs w1 hS hB hf => ?_, ?_⟩; (focus (clear hS hB hf; go_simp; first | exact ⟨Below.refl _ _, rfl⟩ | exact rfl)); try simp (config := { maxSteps := 10000000 }) only [specV, addF, Act.put, List.setIfInBounds_toArray, List.set_cons_zero, List.set_cons_succ, List.take_succ_cons, List.take_zero, List.drop_succ_cons, List.drop_zero])
    (apply Exists.intro; refine ⟨fun vs w1 hS hB hf => ?_, ?_⟩; (focus (clear hS hB hf; go_simp; first | exact ⟨Below.refl _ _, rfl⟩ | exact rfl)); try simp (config := { maxSteps := 10000000 }) only [specV, addF, Act.put, List.setIfInBounds_toArray, List.set_cons_zero, List.set_cons_succ, List.take_succ_cons, List.take_zero, List.drop_succ_cons, List.drop_zero])
    (apply Exists.intro; refine ⟨fun vs w1 hS hB hf => ?_, ?_⟩; (focus (clear hS hB hf; go_simp; first | exact ⟨Below.refl _ _, rfl⟩ | exact rfl)); try simp (config := { maxSteps := 10000000 }) only [specV, addF, Act.put, List.setIfInBounds_toArray, List.set_cons_zero, List.set_cons_succ, List.take_succ_cons, List.take_zero, List.drop_succ_cons, List.drop_zero])
    (apply Exists.intro; refine ⟨fun vs w1 hS hB hf => ?_, ?_⟩; (focus (clear hS hB hf; go_simp; first | exact ⟨Below.refl _ _, rfl⟩ | exact rfl)); try simp (config := { maxSteps := 10000000 }) only [specV, addF, Act.put, List.setIfInBounds_toArray, List.set_cons_zero, List.set_cons_succ, List.take_succ_cons, List.take_zero, List.drop_succ_cons, List.drop_zero])
    (apply Exists.intro; refine ⟨fun vs w1 hS hB hf => ?_, ?_⟩; (focus (clear hS hB hf; go_simp; first | exact ⟨Below.refl _ _, rfl⟩ | exact rfl)); try simp (config := { maxSteps := 10000000 }) only [specV, addF, Act.put, List.setIfInBounds_toArray, List.set_cons_zero, List.set_cons_succ, List.take_succ_cons, List.take_zero, List.drop_succ_cons, List.drop_zero])
    (apply Exists.intro; refine ⟨fun vs w1 hS hB hf => ?_, ?_⟩; (focus (have k1 := run_str (P := Try.prog) (n := 16) Try.underlying24 Try.underlying5 Try.underlying9 c1 HL.out hS.1; rw [← E1.out] at k1; clear hS hB hf; go_simp; first | exact ⟨Below.refl _ _, rfl⟩ | exact rfl)); try simp (config := { maxSteps := 10000000 }) only [specV, addF, Act.put, List.setIfInBounds_toArray, List.set_cons_zero, List.set_cons_succ, List.take_succ_cons, List.take_zero, List.drop_succ_cons, List.drop_zero])
    (apply Exists.intro; refine ⟨fun vs w1 hS hB hf => ?_, ?_⟩; (focus (have L1 := hS.2.cell; clear hS hB hf; go_simp; first | exact ⟨Below.refl _ _, rfl⟩ | exact rfl)); try simp (config := { maxSteps := 10000000 }) only [specV, addF, Act.put, List.setIfInBounds_toArray, List.set_cons_zero, List.set_cons_succ, List.take_succ_cons, List.take_zero, List.drop_succ_cons, List.drop_zero])
    (refine ⟨fun vs w1 hS hB hf => ?_, ?_⟩; (focus (go_simp; exact (ref_put_row t' b' p' a' q' y' w1).mono fun e w2 ⟨v, he, ho, hb⟩ => callPost.of he hb ho)); try simp (config := { maxSteps := 10000000 }) only [specV, addF, Act.put, List.setIfInBounds_toArray, List.set_cons_zero, List.set_cons_succ, List.take_succ_cons, List.take_zero, List.drop_succ_cons, List.drop_zero])
    (apply Exists.intro; refine ⟨fun vs w1 hS hB hf => ?_, ?_⟩; (focus (obtain ⟨h7, _⟩ := hf; have r6 : RowU w1 (vs 7) (putL t' b' p' a' q' y') := h7 rfl; clear h7; obtain ⟨A2, c2, hv2, r2, _⟩ := r6; have k2 := run_str (P := Try.prog) Try.underlying24 Try.underlying5 Try.underlying9 c2 rfl r2; rw [← E2.out] at k2; clear hS hB; simp only [Nat.zero_add, Nat.reduceAdd, hv2]; go_simp; first | exact ⟨Below.refl _ _, rfl⟩ | exact rfl)); try simp (config := { maxSteps := 10000000 }) only [specV, addF, Act.put, List.setIfInBounds_toArray, List.set_cons_zero, List.set_cons_succ, List.take_succ_cons, List.take_zero, List.drop_succ_cons, List.drop_zero])
    (apply Exists.intro; refine ⟨fun vs w1 hS hB hf => ?_, ?_⟩; (focus (clear hS hB hf; go_simp; exact ⟨Below.refl _ _, congrArg Value.bool HC.out⟩)); try simp (config := { maxSteps := 10000000 }) only [specV, addF, Act.put, List.setIfInBounds_toArray, List.set_cons_zero, List.set_cons_succ, List.take_succ_cons, List.take_zero, List.drop_succ_cons, List.drop_zero])
    (apply Exists.intro; refine ⟨fun vs w1 hS hB hf => ?_, ?_⟩; (focus (clear hS hB hf; go_simp; first | exact ⟨Below.refl _ _, rfl⟩ | exact rfl)); try simp (config := { maxSteps := 10000000 }) only [specV, addF, Act.put, List.setIfInBounds_toArray, List.set_cons_zero, List.set_cons_succ, List.take_succ_cons, List.take_zero, List.drop_succ_cons, List.drop_zero])
    intro vs w5 hS hB _
    have HB5 : Below w.heap.size w w5 := below_then HB (by omega) hB
    clear hS hB HB B2 r1
    dsimp only
    go_wp2
    go_ret
    exact ⟨by rw [HF.out]; rfl, HB5⟩
end Go.Proofs.Ytjimkkkiilcpoaa
