/- What is written. -/
import Derived.Test.YtjbfidgggfokcaaPermH
set_option linter.unusedVariables false
set_option linter.unusedSimpArgs false
namespace Go.Proofs.Ytjbfidgggfokcaa
open Go.RowKit

def stepP (a : Nat) (i : Int) : Nat := if 0 ≤ i then a ||| 2 ^ i.toNat else a
def accL (l : List UInt8) : Nat := l.foldl (fun a c => stepP a (idxOf c.toNat)) 0
theorem accL_snoc (l : List UInt8) (c : UInt8) : accL (l ++ [c]) = stepP (accL l) (idxOf c.toNat) := by simp [accL]
set_option maxRecDepth 100000 in
theorem acc_text : ∀ P : Fin 128, accL (textL ((P.val : Nat) : Int)) = P.val := by decide +kernel
theorem text_ascii : ∀ P : Fin 128, ∀ c ∈ textL ((P.val : Nat) : Int), c.toNat < 128 := by decide +kernel
theorem idx_small : ∀ r : Fin 128, -1 ≤ idxOf ((r.val : Nat) : Int) ∧ idxOf ((r.val : Nat) : Int) ≤ 6 := by decide +kernel
theorem idx_in (r : Int) : idxOf r = -1 ∨ ∃ n : Nat, idxOf r = n ∧ n ≤ 6 := by
  by_cases h : 0 ≤ r ∧ r < 128
  · obtain ⟨n, rfl⟩ := Int.eq_ofNat_of_zero_le h.1
    obtain ⟨h1, h2⟩ := idx_small ⟨n, by omega⟩
    simp only at h1 h2
    by_cases h3 : idxOf (n : Int) < 0
    · left; omega
    · right; exact ⟨(idxOf (n : Int)).toNat, by omega, by omega⟩
  · left; rw [idxOf, if_neg h]
theorem textL_inj {P Q : Nat} (hP : P < 128) (hQ : Q < 128) (h : strB (textL P) = strB (textL Q)) : P = Q := by
  have e : textL (P : Int) = textL Q := by
    have := congrArg (fun s : ByteArray => s.data.toList) h
    simpa [strB] using this
  have h1 := acc_text ⟨P, hP⟩
  have h2 := acc_text ⟨Q, hQ⟩
  simp only at h1 h2
  rw [← h1, ← h2, e]

/-- Which permissions a text is. -/
def parseV (s : ByteArray) : Option Nat := (List.range 128).find? fun p => decide (strB (textL (p : Int)) = s)
def pvN (s : ByteArray) : Nat := (parseV s).getD 0
def pvB (s : ByteArray) : Bool := (parseV s).isSome
theorem parse_some {s : ByteArray} {q : Nat} (hq : q < 128) (h : strB (textL q) = s) : pvN s = q ∧ pvB s = true := by
  have : parseV s = some q := by
    cases hp : parseV s with
    | none =>
      have := List.find?_eq_none.1 hp q (List.mem_range.2 hq)
      rw [decide_eq_true h] at this
      exact absurd rfl this
    | some P =>
      have h1 := of_decide_eq_true (List.find?_some (p := fun p : Nat => decide (strB (textL (p : Int)) = s)) hp)
      have h2 := List.mem_range.1 (List.mem_of_find?_eq_some hp)
      rw [textL_inj h2 hq (h1.trans h.symm)]
  rw [pvN, pvB, this]
  exact ⟨rfl, rfl⟩
theorem parse_none {s : ByteArray} (h : ∀ P, P < 128 → strB (textL (P : Nat)) ≠ s) : pvN s = 0 ∧ pvB s = false := by
  have : parseV s = none := List.find?_eq_none.2 fun P hP => by rw [decide_eq_false (h P (List.mem_range.1 hP))]; exact Bool.false_ne_true
  rw [pvN, pvB, this]
  exact ⟨rfl, rfl⟩
theorem beq_str (a b : ByteArray) : (a.toList == b.toList) = decide (a = b) := by
  rw [Bool.eq_iff_iff, beq_iff_eq, decide_eq_true_eq]
  constructor
  · intro h
    apply ByteArray.ext
    have h : a.data.toList = b.data.toList := by rw [← Lib.toList_data, ← Lib.toList_data]; exact h
    exact Array.ext' h
  · intro h; rw [h]

set_option maxRecDepth 100000 in
set_option maxHeartbeats 1600000 in
theorem ref_parse (s : ByteArray) (w : World) : Calls Try.prog 12 #[.string s] w fun e w' => e = .returned (.tuple #[.int .i64 (pvN s), .bool (pvB s)]) ∧ w' = w := by
  go_enter Try.func12, Try.ntmps12
  go_wp2
  go_loopg [4] 128 (fun k i wr => ∃ j : Nat, j + k = 128 ∧ i = .int .i64 j ∧ (∀ P, P < j → strB (textL (P : Nat)) ≠ s) ∧ wr = w)
  case atStart => exact ⟨0, by omega, rfl, fun P h => by omega, rfl⟩
  case round =>
    obtain ⟨j, hj, rfl, hall, rfl⟩ := hrel
    have Hj := Lib.hid hj
    have Hall := Lib.hid hall
    clear hj hall
    rcases Nat.lt_or_ge j 128 with hlt | hge
    · have i1 : (j : Int) ≤ 127 := by omega
      have Hlt := Lib.hid hlt
      clear hlt
      go_wp2_with fail
      refine (ref_text (j : Int) _ ⟨by omega, by omega⟩).mono ?_
      rintro e w1 ⟨rfl, rfl⟩
      have hc := beq_str (strB (textL (j : Int))) s
      have HX := Lib.hid hc
      by_cases he : strB (textL (j : Int)) = s
      · obtain ⟨p1, p2⟩ := parse_some Hlt.out he
        have P1 := Lib.hid p1
        have P2 := Lib.hid p2
        rw [decide_eq_true he] at hc
        clear he p1 p2
        generalize strB (textL (j : Int)) = T at *
        go_wp2
        go_ret2
        exact ⟨by rw [P1.out, P2.out]; rfl, rfl⟩
      · rw [decide_eq_false he] at hc
        have He := Lib.hid he
        clear he
        generalize hT : strB (textL (j : Int)) = T at *
        have HT := Lib.hid hT
        clear hT
        go_wp2
        go_roundg (gk - 1)
        case measure => have := Hj.out; have := Hlt.out; omega
        case rel =>
          refine ⟨j + 1, by have := Hj.out; have := Hlt.out; omega, by go_num, fun P hP => ?_, rfl⟩
          rcases Nat.lt_or_ge P j with h | h
          · exact Hall.out P h
          · rw [show P = j by omega, HT.out]; exact He.out
    · have i1 : ¬ (j : Int) ≤ 127 := by omega
      obtain ⟨p1, p2⟩ := parse_none fun P hP => Hall.out P (by omega)
      have P1 := Lib.hid p1
      have P2 := Lib.hid p2
      clear hge p1 p2
      go_wp2
      go_ret2
      exact ⟨by rw [P1.out, P2.out]; rfl, rfl⟩

theorem or_bit {q n : Nat} (hq : q < 128) (hn : n ≤ 6) : bits .or .i64 (q : Int) (wrap64 (2 ^ n)) = ((q ||| 2 ^ n : Nat) : Int) ∧ q ||| 2 ^ n < 128 := by
  have h : 2 ^ n ≤ 64 := (low_facts ⟨0, by decide⟩ ⟨n, by omega⟩).2.2.2.2
  have e : (2 : Int) ^ n = ((2 ^ n : Nat) : Int) := by push_cast; rfl
  have h2 : q ||| 2 ^ n < 2 ^ 7 := Nat.or_lt_two_pow (by omega) (by omega)
  rw [e]
  generalize 2 ^ n = t at *
  rw [IntWalk.wrap64_in _ ⟨by omega, by omega⟩]
  exact ⟨i64_or_nat _ _ (by omega) (by omega), h2⟩

theorem decode_size (s : ByteArray) (pos : Nat) : 1 ≤ (Utf8.decode s pos).2 ∧ (Utf8.decode s pos).2 ≤ 4 := by
  simp only [Utf8.decode]
  repeat' split
  all_goals simp

/-- What has been read of a text. -/
def ReadTo (s : ByteArray) (pos q : Nat) : Prop := ∀ P, P < 128 → s = strB (textL (P : Nat)) → q = accL ((textL (P : Nat)).take pos)
theorem readTo_step {s : ByteArray} {pos q : Nat} (h : ReadTo s pos q) (hp : pos < s.size) (i : Int) (hi : i = idxOf ((Utf8.decode s pos).1 : Nat)) : ReadTo s (pos + (Utf8.decode s pos).2) (stepP q i) := by
  intro P hP hs
  rw [hi]
  clear hi
  have hlt : pos < (textL (P : Nat)).length := by rw [hs] at hp; exact hp
  have hb : (s[pos]'hp) = (textL (P : Nat))[pos] := by subst hs; rfl
  have ha : (s[pos]'hp).toNat < 128 := by rw [hb]; exact text_ascii ⟨P, hP⟩ _ (List.getElem_mem hlt)
  rw [decode_ascii s pos hp ha]
  simp only
  rw [List.take_add_one, List.getElem?_eq_getElem hlt, Option.toList_some, accL_snoc, ← h P hP hs, hb]
theorem readTo_end {s : ByteArray} {pos q : Nat} (h : ReadTo s pos q) (hp : ¬ pos < s.size) {P : Nat} (hP : P < 128) (hs : s = strB (textL (P : Nat))) : q = P := by
  have h1 := h P hP hs
  have hl : s.size = (textL (P : Nat)).length := by rw [hs]; rfl
  rw [List.take_of_length_le (by omega)] at h1
  have h2 := acc_text ⟨P, hP⟩
  simp only at h2
  rw [h1, h2]

set_option maxRecDepth 100000 in
set_option maxHeartbeats 1600000 in
theorem parse_any (s : ByteArray) (w : World) (hm : s.size ≤ 4611686018427387904) : Calls Try.prog 11 #[.string s] w fun e w' => e = .returned (.tuple #[.int .i64 (pvN s), .bool (pvB s)]) ∧ Below w.heap.size w w' := by
  go_enter Try.func11, Try.ntmps11
  go_wp2
  go_loopg [4, 6, 7] s.size (fun k p c i wr => ∃ pos q : Nat, pos ≤ s.size + 4 ∧ s.size ≤ pos + k ∧ p = .int .i64 q ∧ q < 128 ∧ ReadTo s pos q ∧ wr.heap[w.heap.size]? = some (.stringIter s pos) ∧ Below w.heap.size w wr)
  case atStart => exact ⟨0, 0, by omega, by omega, rfl, by decide, fun P hP hs => by rw [List.take_zero]; rfl, World.iter_heap w s 0, (Below.refl _ _).alloc (Nat.le_refl _) _⟩
  case round =>
    obtain ⟨pos, q, hp4, hpk, rfl, hq, hR, hit, hb⟩ := hrel
    have Hpk := Lib.hid hpk
    have Hq := Lib.hid hq
    have HR := Lib.hid hR
    have Hit := Lib.hid hit
    have HB := Lib.hid hb
    have q1 : (q : Int) ≤ 127 := by omega
    clear hpk hq hR hit hb
    by_cases hlt : pos < s.size
    · have hnx := fun ty => Lib.run_next_any_at (P := Try.prog) wr w.heap.size s pos ty Hit.out hlt
      have hz := decode_le s pos
      have hpos : 1 ≤ (Utf8.decode s pos).2 ∧ (Utf8.decode s pos).2 ≤ 4 := decode_size s pos
      have HR2 := fun i hi => readTo_step HR.out hlt i hi
      have Hit2 := Lib.hid (Lib.iterAt_heap wr w.heap.size s pos (pos + (Utf8.decode s pos).2) Hit.out)
      have HB2 := Lib.hid (Lib.below_iterAt HB.out (Nat.le_refl w.heap.size) s (pos + (Utf8.decode s pos).2))
      have HR2 := Lib.hid HR2
      have Hlt := Lib.hid hlt
      have Hpos := Lib.hid hpos
      generalize wr.iterAt w.heap.size s (pos + (Utf8.decode s pos).2) = wi at *
      generalize (Utf8.decode s pos).2 = sz at *
      generalize (Utf8.decode s pos).1 = r at *
      have hz1 : (r : Int) ≤ 2147483647 := by omega
      clear hz hlt hpos hp4
      go_wp2_with fail
      refine (index_any (r : Int) wi (by omega) hz1).mono ?_
      rintro e w2 ⟨rfl, b2⟩
      have Hit3 := Lib.hid ((b2.block _ (Array.getElem?_eq_some_iff.1 Hit2.out).1).trans Hit2.out)
      have HB3 := Lib.hid (below_then HB2.out HB2.out.size b2)
      clear b2
      rcases idx_in (r : Int) with hx | ⟨n, hx, hn⟩
      · have e0 : Hid (stepP q (idxOf (r : Int)) = q) := Lib.hid (by rw [hx]; rfl)
        rw [hx]
        clear hx
        go_wp2
        go_roundg (gk - 1)
        case measure => have := Hpk.out; have := Hlt.out; omega
        case rel => exact ⟨pos + sz, q, by have := Hlt.out; have := Hpos.out; omega, by have := Hpk.out; have := Hlt.out; have := Hpos.out; omega, rfl, Hq.out, by rw [← e0.out]; exact HR2.out _ rfl, Hit3.out, HB3.out⟩
      · have e0 : Hid (stepP q (idxOf (r : Int)) = q ||| 2 ^ n) := Lib.hid (by rw [hx]; simp [stepP])
        obtain ⟨o1, o2⟩ := or_bit Hq.out hn
        have O1 := Lib.hid o1
        have O2 := Lib.hid o2
        have n1 : (n : Int) ≤ 6 := by omega
        rw [hx]
        clear hx o1 o2 hn
        go_wp2
        go_roundg (gk - 1)
        case measure => have := Hpk.out; have := Hlt.out; omega
        case rel => exact ⟨pos + sz, q ||| 2 ^ n, by have := Hlt.out; have := Hpos.out; omega, by have := Hpk.out; have := Hlt.out; have := Hpos.out; omega, by rw [O1.out], O2.out, by rw [← e0.out]; exact HR2.out _ rfl, Hit3.out, HB3.out⟩
    · have hnx := fun ty => Lib.run_next_end_at (P := Try.prog) wr w.heap.size s pos ty Hit.out hlt
      have Hlt := Lib.hid hlt
      clear hlt
      go_wp2_with fail
      refine (text_any (q : Int) wr ⟨by omega, by omega⟩).mono ?_
      rintro e w2 ⟨rfl, b2⟩
      have B2 := below_then HB.out HB.out.size b2
      clear b2 hnx
      have hc := beq_str (strB (textL (q : Int))) s
      by_cases he : strB (textL (q : Int)) = s
      · obtain ⟨p1, p2⟩ := parse_some Hq.out he
        have P1 := Lib.hid p1
        have P2 := Lib.hid p2
        rw [decide_eq_true he] at hc
        clear he p1 p2
        generalize strB (textL (q : Int)) = T at *
        go_wp2
        go_ret2
        exact ⟨by rw [P1.out, P2.out]; rfl, B2⟩
      · rw [decide_eq_false he] at hc
        obtain ⟨p1, p2⟩ := parse_none (s := s) fun P hP hs => he (by rw [readTo_end HR.out Hlt.out hP hs.symm]; exact hs)
        have P1 := Lib.hid p1
        have P2 := Lib.hid p2
        clear he p1 p2
        generalize strB (textL (q : Int)) = T at *
        go_wp2
        go_ret2
        exact ⟨by rw [P1.out, P2.out]; rfl, B2⟩
end Go.Proofs.Ytjbfidgggfokcaa
