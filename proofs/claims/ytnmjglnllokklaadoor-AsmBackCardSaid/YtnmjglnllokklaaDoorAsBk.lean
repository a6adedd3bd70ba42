/-
  AsmBack: for every instruction and every string the law returns true, and each argument reads as it did. Condition: none.
-/
import Derived.Test.YtnmjglnllokklaaDoorAsL
import Derived.Test.YtnmjglnllokklaaDoorAsP
set_option linter.unusedVariables false
set_option linter.unusedSimpArgs false
namespace Go.Proofs.YtnmjglnllokklaaDoor.AsmBack
open Go.RowKit Go.Proofs.YtnmjglnllokklaaDoor

theorem text_size (op a b c : Int) (ha : inI a) (hb : inI b) (hc : inI c) : (textS op a b c).size ≤ 200 := by
  show (List.toArray _).size ≤ _
  rw [List.size_toArray]
  unfold textL
  split
  · have h1 := partsT_len op a b c 3
    have h2 := lens_le 30 (nameN op :: partsT op a b c 3) fun x hx => by
      rcases List.mem_cons.1 hx with h | h
      · rw [h]; exact name_short op
      · exact parts_short op a b c (nm_in ha hb hc) 3 x h
    rw [Lib.join_length]
    rw [List.length_cons] at h2
    show 1 * _ + _ ≤ _
    omega
  · exact Nat.zero_le _
theorem parse_empty : parseB ⟨#[]⟩ = false := by kernel_rfl
theorem toList_nil {s : ByteArray} (h : s.toList = []) : s = ⟨#[]⟩ := (Lib.bytes_beq_iff _ _).1 (by rw [h]; decide +kernel)

set_option maxRecDepth 100000 in
set_option maxHeartbeats 3200000 in
theorem walk (w : World) (o a b c : Int) (s : ByteArray) (hE : Env w) (io : inI o) (ia : inI a) (ib : inI b) (ic : inI c) (hs : s.size ≤ maxLen) :
    Calls Tryd.prog 4 #[.agg #[.int .i64 (o), .int .i64 (a), .int .i64 (b), .int .i64 (c)], .string s] w fun e w' => e = .returned (.bool true) ∧ Below w.heap.size w w' := by
  have HE := Lib.hid hE
  have HA := Lib.hid (And.intro io (And.intro ia (And.intro ib ic)))
  clear hE io ia ib ic
  have hs2 : (s.size : Int) ≤ 9223372036854775807 := by simp only [maxLen] at hs; omega
  clear hs
  go_enter Tryd.func4, Tryd.ntmps4
  go_wp2_with fail
  obtain ⟨W0, hW0⟩ : ∃ W0, w.alloc (.cells #[.int .i64 (o), .int .i64 (a), .int .i64 (b), .int .i64 (c)] 23) = W0 := ⟨_, rfl⟩
  have K1 := Lib.hid (show Blk W0 w.heap.size #[.int .i64 (o), .int .i64 (a), .int .i64 (b), .int .i64 (c)] 23 by rw [← hW0]; exact Blk.new w _ _)
  have B0 := Lib.hid (show Below w.heap.size w W0 by rw [← hW0]; go_grown)
  rw [hW0]
  obtain ⟨k1, hk1⟩ : ∃ k1, w.heap.size = k1 := ⟨_, rfl⟩
  rw [hk1] at K1 ⊢
  clear hW0
  refine (Head.head_any W0 (HE.out.grow B0.out)).mono ?_
  rintro e' w1 ⟨rfl, b1⟩
  have M1 := Lib.hid (K1.out.below b1 K1.out.lt)
  have B1 := Lib.hid (below_then B0.out B0.out.size b1)
  clear b1 K1 B0
  have c1 := M1.out.cell
  have l1 := M1.out.lt
  go_wp2_with fail
  refine (text_any o a b c w1 (HE.out.grow B1.out) HA.out.1 HA.out.2.1 HA.out.2.2.1 HA.out.2.2.2).mono ?_
  rintro e' w2 ⟨rfl, b2⟩
  have N1 := Lib.hid (M1.out.below b2 M1.out.lt)
  have B2 := Lib.hid (below_then B1.out B1.out.size b2)
  clear b2 M1 B1 c1 l1
  have c1 := N1.out.cell
  have l1 := N1.out.lt
  have GR := Lib.hid (fun W => rright_any o a b c W HA.out.1 HA.out.2.1 HA.out.2.2.1 HA.out.2.2.2)
  cases hx : rightI o a b c with
  | false =>
    have HT := Lib.hid (show textS o a b c = ⟨#[]⟩ by unfold textS; rw [text_none hx])
    rw [hx] at GR
    rw [HT.out]
    clear hx
    go_wp2_with fail
    refine (GR.out _).mono ?_
    rintro e' w3 ⟨rfl, b3⟩
    have B3 := Lib.hid (below_then B2.out B2.out.size b3)
    clear b3 N1 B2 c1 l1
    (by_cases h9 : s.size ≤ 900; (· have h9' : ¬ 900 < (s.size : Int) := (by omega); go_wp2_with fail; have gp := parse_any s _ (HE.out.grow (B3).out) (by omega); revert gp; cases hp : parseB s with | false => (intro gp; rw [Head.parseV_no hp] at gp; clear hp; refine gp.mono ?_; clear gp; rintro e' w8 ⟨rfl, b8⟩; have B8 := Lib.hid (below_then (B3).out (B3).out.size b8); clear b8; go_wp2; go_ret; first | exact ⟨rfl, B8.out.alloc B8.out.size _⟩ | exact ⟨rfl, by rw [← hk1]; exact B8.out.alloc B8.out.size _⟩) | true => (intro gp; have hpf : parseV s = .agg #[.int .i64 (opIx s), .int .i64 (pNum s 0), .int .i64 (pNum s 1), .int .i64 (pNum s 2)] := (by unfold parseV; rw [hp, if_pos rfl]); rw [hpf] at gp; have GT := Lib.hid (fun W hW => text_any (opIx s) (pNum s 0) (pNum s 1) (pNum s 2) W hW (by have := opIx_in s; show inI (opIx s); unfold inI; omega) (pNum_in s 0) (pNum_in s 1) (pNum_in s 2)); rw [text_parse hp] at GT; have hsn : ¬ s.toList = [] := (fun e => by rw [toList_nil e, parse_empty] at hp; cases hp); have hse : s.toList.isEmpty = false := (by cases h : s.toList.isEmpty with | false => rfl | true => exact absurd (List.isEmpty_iff.1 h) hsn); clear hp hpf; generalize opIx s = z0 at *; generalize pNum s 0 = z1 at *; generalize pNum s 1 = z2 at *; generalize pNum s 2 = z3 at *; refine gp.mono ?_; clear gp; rintro e' w8 ⟨rfl, b8⟩; have B8 := Lib.hid (below_then (B3).out (B3).out.size b8); clear b8; go_wp2_with fail; have B9 := Lib.hid (B8.out.alloc B8.out.size (.cells #[.int .i64 (z0), .int .i64 (z1), .int .i64 (z2), .int .i64 (z3)] 23)); refine (GT.out _ (HE.out.grow B9.out)).mono ?_; rintro e' w10 ⟨rfl, b10⟩; have B10 := Lib.hid (below_then B9.out B9.out.size b10); clear b10; go_wp2; go_ret; first | exact ⟨rfl, B10.out⟩ | exact ⟨rfl, by rw [← hk1]; exact B10.out⟩)); (· have h9' : 900 < (s.size : Int) := (by omega); go_wp2; go_ret; first | exact ⟨rfl, (B3).out⟩ | exact ⟨rfl, by rw [← hk1]; exact (B3).out⟩))
  | true =>
    have hpt := parse_text hx
    have hne : (textS o a b c).toList ≠ [] := fun e => by
      have h1 := toList_nil e
      rw [h1, parse_empty] at hpt
      cases hpt.1
    have hem : (textS o a b c).toList.isEmpty = false := by
      cases h : (textS o a b c).toList.isEmpty with
      | false => rfl
      | true => exact absurd (List.isEmpty_iff.1 h) hne
    have HSZ := Lib.hid (text_size o a b c HA.out.2.1 HA.out.2.2.1 HA.out.2.2.2)
    rw [hx] at GR
    clear hx
    obtain ⟨t, ht⟩ : ∃ t, textS o a b c = t := ⟨_, rfl⟩
    rw [ht] at hpt hne hem HSZ ⊢
    have HPT := Lib.hid hpt
    have hne' : ¬ t.toList = [] := hne
    clear ht hpt hne
    go_wp2_with fail
    refine (GR.out _).mono ?_
    rintro e' w3 ⟨rfl, b3⟩
    have O1 := Lib.hid (N1.out.below b3 N1.out.lt)
    have B3 := Lib.hid (below_then B2.out B2.out.size b3)
    clear b3 N1 B2 c1 l1
    go_wp2_with fail
    have gp := parse_any t w3 (HE.out.grow B3.out) (by have := HSZ.out; omega)
    rw [HPT.out.1, HPT.out.2] at gp
    refine gp.mono ?_
    clear gp
    rintro e' w4 ⟨rfl, b4⟩
    have P1 := Lib.hid (O1.out.below b4 O1.out.lt)
    have B4 := Lib.hid (below_then B3.out B3.out.size b4)
    clear b4 O1 B3
    have Q1 := P1.out.alloc (.cells #[.int .i64 (o), .int .i64 (a), .int .i64 (b), .int .i64 (c)] 23)
    have c1 := Q1.cell
    have l1 := Q1.lt
    have b5 : Below w4.heap.size w4 (w4.alloc (.cells #[.int .i64 (o), .int .i64 (a), .int .i64 (b), .int .i64 (c)] 23)) := by go_grown
    have B5 := Lib.hid (below_then B4.out B4.out.size b5)
    clear b5 Q1
    (by_cases h9 : s.size ≤ 900; (· have h9' : ¬ 900 < (s.size : Int) := (by omega); go_wp2_with fail; have gp := parse_any s _ (HE.out.grow (B5).out) (by omega); revert gp; cases hp : parseB s with | false => (intro gp; rw [Head.parseV_no hp] at gp; clear hp; refine gp.mono ?_; clear gp; rintro e' w8 ⟨rfl, b8⟩; have B8 := Lib.hid (below_then (B5).out (B5).out.size b8); clear b8; go_wp2; go_ret; first | exact ⟨rfl, B8.out.alloc B8.out.size _⟩ | exact ⟨rfl, by rw [← hk1]; exact B8.out.alloc B8.out.size _⟩) | true => (intro gp; have hpf : parseV s = .agg #[.int .i64 (opIx s), .int .i64 (pNum s 0), .int .i64 (pNum s 1), .int .i64 (pNum s 2)] := (by unfold parseV; rw [hp, if_pos rfl]); rw [hpf] at gp; have GT := Lib.hid (fun W hW => text_any (opIx s) (pNum s 0) (pNum s 1) (pNum s 2) W hW (by have := opIx_in s; show inI (opIx s); unfold inI; omega) (pNum_in s 0) (pNum_in s 1) (pNum_in s 2)); rw [text_parse hp] at GT; have hsn : ¬ s.toList = [] := (fun e => by rw [toList_nil e, parse_empty] at hp; cases hp); have hse : s.toList.isEmpty = false := (by cases h : s.toList.isEmpty with | false => rfl | true => exact absurd (List.isEmpty_iff.1 h) hsn); clear hp hpf; generalize opIx s = z0 at *; generalize pNum s 0 = z1 at *; generalize pNum s 1 = z2 at *; generalize pNum s 2 = z3 at *; refine gp.mono ?_; clear gp; rintro e' w8 ⟨rfl, b8⟩; have B8 := Lib.hid (below_then (B5).out (B5).out.size b8); clear b8; go_wp2_with fail; have B9 := Lib.hid (B8.out.alloc B8.out.size (.cells #[.int .i64 (z0), .int .i64 (z1), .int .i64 (z2), .int .i64 (z3)] 23)); refine (GT.out _ (HE.out.grow B9.out)).mono ?_; rintro e' w10 ⟨rfl, b10⟩; have B10 := Lib.hid (below_then B9.out B9.out.size b10); clear b10; go_wp2; go_ret; first | exact ⟨rfl, B10.out⟩ | exact ⟨rfl, by rw [← hk1]; exact B10.out⟩)); (· have h9' : 900 < (s.size : Int) := (by omega); go_wp2; go_ret; first | exact ⟨rfl, (B5).out⟩ | exact ⟨rfl, by rw [← hk1]; exact (B5).out⟩))
end Go.Proofs.YtnmjglnllokklaaDoor.AsmBack
