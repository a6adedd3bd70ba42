/- The head of the laws: true. -/
import Derived.Test.YtnmjglnllokklaaDoorAsK
set_option linter.unusedVariables false
set_option linter.unusedSimpArgs false
namespace Go.Proofs.YtnmjglnllokklaaDoor.Head
open Go.RowKit Go.Proofs.YtnmjglnllokklaaDoor
def s1 : ByteArray := ⟨#[108, 100, 98, 32, 114, 50, 32, 114, 51, 32, 50, 48, 48]⟩
def s2 : ByteArray := ⟨#[108, 100, 98, 32, 114, 50, 32, 114, 51, 32, 32, 50, 48, 48]⟩
def s3 : ByteArray := ⟨#[109, 111, 118, 105, 32, 114, 49, 32, 43, 49]⟩
def s4 : ByteArray := ⟨#[104, 97, 108, 116, 10, 106, 109, 112, 32, 45, 50, 10]⟩
def s5 : ByteArray := ⟨#[104, 97, 108, 116, 10, 104, 97, 108, 116]⟩
theorem p1 : parseB s1 = true := by kernel_rfl
theorem p1v : parseT s1 = (11, 2, 3, 200) := by kernel_rfl
theorem p2 : parseB s2 = false := by kernel_rfl
theorem p3 : parseB s3 = false := by kernel_rfl
theorem t1 : textS 1 1 (-1) 0 = ⟨#[109, 111, 118, 105, 32, 114, 49, 32, 45, 49]⟩ := by kernel_rfl
theorem t2 : textS 30 0 0 0 = ⟨#[]⟩ := by kernel_rfl
theorem r4 : rdOk (linesB s4) = true := by kernel_rfl
theorem r4n : rdN (linesB s4) = 2 := by kernel_rfl
theorem r4t : rdT (linesB s4) = [(0, 0, 0, 0), (9, 0, -2, 0)] := by kernel_rfl
theorem r5 : rdOk (linesB s5) = false := by kernel_rfl
theorem r5n : rdN (linesB s5) = 1 := by kernel_rfl
theorem n29 : nameS 29 = ⟨#[115, 121, 115]⟩ := by kernel_rfl
theorem nm1 : nameS (-1) = ⟨#[]⟩ := by kernel_rfl

theorem parseV_no {t : ByteArray} (h : parseB t = false) : parseV t = .agg #[.int .i64 (0), .int .i64 (0), .int .i64 (0), .int .i64 (0)] := by unfold parseV; rw [h, if_neg (by decide)]
theorem p1w : parseV s1 = .agg #[.int .i64 (11), .int .i64 (2), .int .i64 (3), .int .i64 (200)] := by rw [parseV_of p1, p1v]; rfl
theorem parseT_in (t : ByteArray) : InI (parseT t) := ⟨by have := opIx_in t; show inI (opIx t); unfold inI; omega, pNum_in t 0, pNum_in t 1, pNum_in t 2⟩
theorem rdT_in (xs : List ByteArray) : ∀ c ∈ rdT xs, InI c := by
  intro c hc
  unfold rdT at hc
  split at hc
  · obtain ⟨x, _, rfl⟩ := List.mem_map.1 hc
    exact parseT_in _
  · cases hc

theorem InsM.new (W : World) (L : List I4) (c : Nat) (e : TypeId) (hc : L.length ≤ c) (hI : ∀ c ∈ L, InI c) (hm : L.length ≤ maxLen) : InsM (W.alloc (.cells (i4s L).toArray e)) (.slice (some ⟨W.heap.size, 0, none⟩) L.length c) L := by
  refine ⟨hm, .inr ⟨_, 0, c, rfl, hc, fun j q hj => ?_⟩⟩
  have hR := RdL.new W (i4s L).toArray e
  have h : ∀ i, i < 4 → ∀ u, (i4c q)[i]? = some u → (W.alloc (.cells (i4s L).toArray e)).cell? ⟨W.heap.size, 0 + j * 4 + i, none⟩ = some u := fun i hi u hu => by
    obtain ⟨ad, e1, hcc⟩ := hR (j * 4 + i) u (by rw [List.toList_toArray, i4s_get L j q hj i hi]; exact hu)
    cases e1
    rw [add_plain] at hcc
    rw [Nat.add_assoc]
    exact hcc
  exact ⟨hI q (List.mem_of_getElem? hj), by simp, h 0 (by decide) _ rfl, h 1 (by decide) _ rfl, h 2 (by decide) _ rfl, h 3 (by decide) _ rfl⟩

set_option maxRecDepth 100000 in
set_option maxHeartbeats 3200000 in
theorem head_any (w : World) (h : Env w) : Calls Tryd.prog 9 #[] w fun e w' => e = .returned (.bool true) ∧ Below w.heap.size w w' := by
  have HE := Lib.hid h
  clear h
  go_enter Tryd.func9, Tryd.ntmps9
  go_wp2_with fail
  have g1 := parse_any s1 w HE.out (by decide)
  rw [p1, p1w] at g1
  refine g1.mono ?_
  clear g1
  rintro e w1 ⟨rfl, b1⟩
  have B1 := Lib.hid b1
  clear b1
  go_wp2_with fail
  obtain ⟨W1, hW1⟩ : ∃ W1, w1.alloc (.cells #[.int .i64 (11), .int .i64 (2), .int .i64 (3), .int .i64 (200)] 23) = W1 := ⟨_, rfl⟩
  have b2 : Below w1.heap.size w1 W1 := by rw [← hW1]; go_grown
  have K1 := Lib.hid (show Blk W1 w1.heap.size #[.int .i64 (11), .int .i64 (2), .int .i64 (3), .int .i64 (200)] 23 by rw [← hW1]; exact Blk.new _ _ _)
  have B2 := Lib.hid (below_then B1.out B1.out.size b2)
  rw [hW1]
  generalize w1.heap.size = k1 at *
  clear hW1 b2 B1
  have g2 := parse_any s2 W1 (HE.out.grow B2.out) (by decide)
  rw [p2, parseV_no p2] at g2
  refine g2.mono ?_
  clear g2
  rintro e w2 ⟨rfl, b3⟩
  have K2 := Lib.hid (K1.out.below b3 K1.out.lt)
  have B3 := Lib.hid (below_then B2.out B2.out.size b3)
  clear b3 K1 B2
  go_wp2_with fail
  obtain ⟨W2, hW2⟩ : ∃ W2, w2.alloc (.cells #[.int .i64 (0), .int .i64 (0), .int .i64 (0), .int .i64 (0)] 23) = W2 := ⟨_, rfl⟩
  have b4 : Below w2.heap.size w2 W2 := by rw [← hW2]; go_grown
  have K3 := Lib.hid (K2.out.below b4 K2.out.lt)
  have B4 := Lib.hid (below_then B3.out B3.out.size b4)
  rw [hW2]
  generalize w2.heap.size = k2 at *
  clear hW2 b4 B3 K2
  have g3 := parse_any s3 W2 (HE.out.grow B4.out) (by decide)
  rw [p3, parseV_no p3] at g3
  refine g3.mono ?_
  clear g3
  rintro e w3 ⟨rfl, b5⟩
  have K4 := Lib.hid (K3.out.below b5 K3.out.lt)
  have B5 := Lib.hid (below_then B4.out B4.out.size b5)
  clear b5 K3 B4
  go_wp2_with fail
  obtain ⟨W3, hW3⟩ : ∃ W3, w3.alloc (.cells #[.int .i64 (0), .int .i64 (0), .int .i64 (0), .int .i64 (0)] 23) = W3 := ⟨_, rfl⟩
  have b6 : Below w3.heap.size w3 W3 := by rw [← hW3]; go_grown
  have K5 := Lib.hid (K4.out.below b6 K4.out.lt)
  have B6 := Lib.hid (below_then B5.out B5.out.size b6)
  rw [hW3]
  generalize w3.heap.size = k3 at *
  clear hW3 b6 B5 K4
  have g4 := read_any s4 W3 (HE.out.grow B6.out) (by decide)
  rw [r4, r4n, r4t] at g4
  refine g4.mono ?_
  clear g4
  rintro e w4 ⟨v4, rfl, o4, b7⟩
  have R4 := Lib.hid (InsM.own (L := [(0, 0, 0, 0), (9, 0, -2, 0)]) o4 (by rw [← r4t]; exact rdT_in _) (by decide))
  have K6 := Lib.hid (K5.out.below b7 K5.out.lt)
  have B7 := Lib.hid (below_then B6.out B6.out.size b7)
  clear b7 K5 B6 o4
  obtain ⟨A4, c4, rfl⟩ := R4.out.form
  go_wp2_with fail
  have g5 := read_any s5 w4 (HE.out.grow B7.out) (by decide)
  rw [r5, r5n] at g5
  refine g5.mono ?_
  clear g5
  rintro e w5 ⟨v5, rfl, o5, b8⟩
  obtain ⟨A5, c5, rfl⟩ := own_form o5
  have R5 := Lib.hid (R4.out.below b8)
  have K7 := Lib.hid (K6.out.below b8 K6.out.lt)
  have B8 := Lib.hid (below_then B7.out B7.out.size b8)
  clear b8 K6 B7 o5 R4
  go_wp2_with fail
  have g6 := text_any 1 1 (-1) 0 w5 (HE.out.grow B8.out) ⟨by decide, by decide⟩ ⟨by decide, by decide⟩ ⟨by decide, by decide⟩ ⟨by decide, by decide⟩
  rw [t1] at g6
  refine g6.mono ?_
  clear g6
  rintro e w6 ⟨rfl, b9⟩
  have R6 := Lib.hid (R5.out.below b9)
  have K8 := Lib.hid (K7.out.below b9 K7.out.lt)
  have B9 := Lib.hid (below_then B8.out B8.out.size b9)
  clear b9 K7 B8 R5
  go_wp2_with fail
  have g7 := text_any 30 0 0 0 w6 (HE.out.grow B9.out) ⟨by decide, by decide⟩ ⟨by decide, by decide⟩ ⟨by decide, by decide⟩ ⟨by decide, by decide⟩
  rw [t2] at g7
  refine g7.mono ?_
  clear g7
  rintro e w7 ⟨rfl, b10⟩
  have R7 := Lib.hid (R6.out.below b10)
  have K9 := Lib.hid (K8.out.below b10 K8.out.lt)
  have B10 := Lib.hid (below_then B9.out B9.out.size b10)
  clear b10 K8 B9 R6
  have c1 := K9.out.cell
  have l1 := K9.out.lt
  go_wp2_with fail
  obtain ⟨W7, hW7⟩ : ∃ W7, w7.alloc (.cells (i4s [(0, 0, 0, 0), (9, 0, -2, 0)]).toArray 23) = W7 := ⟨_, rfl⟩
  have b11 : Below w7.heap.size w7 W7 := by rw [← hW7]; go_grown
  have R8 := Lib.hid (R7.out.below b11)
  have N8 := Lib.hid (show InsM W7 (.slice (some ⟨w7.heap.size, 0, none⟩) 2 2) [(0, 0, 0, 0), (9, 0, -2, 0)] by rw [← hW7]; exact InsM.new w7 [(0, 0, 0, 0), (9, 0, -2, 0)] 2 23 (by decide) (by rw [← r4t]; exact rdT_in _) (by decide))
  have B11 := Lib.hid (below_then B10.out B10.out.size b11)
  have e7 : w7.alloc (.cells #[.int .i64 0, .int .i64 0, .int .i64 0, .int .i64 0, .int .i64 9, .int .i64 0, .int .i64 (-2), .int .i64 0] 23) = W7 := hW7
  rw [e7]
  clear hW7 e7 b11 B10 K9 c1 l1 R7
  have g8 := rsame_any _ _ _ _ W7 R8.out N8.out (by decide)
  rw [decide_eq_true (show ([(0, 0, 0, 0), (9, 0, -2, 0)] : List I4) = [(0, 0, 0, 0), (9, 0, -2, 0)] from rfl)] at g8
  refine g8.mono ?_
  clear g8
  rintro e w8 ⟨rfl, n8, rfl⟩
  have B12 := Lib.hid (below_drewN B11.out n8)
  clear B11 R8 N8
  generalize W7.drewN n8 = w8 at *
  go_wp2_with fail
  have g9 := name_any 29 w8 (HE.out.grow B12.out) ⟨by decide, by decide⟩
  rw [n29] at g9
  refine g9.mono ?_
  clear g9
  rintro e w9 ⟨rfl, b13⟩
  have B13 := Lib.hid (below_then B12.out B12.out.size b13)
  clear b13 B12
  go_wp2_with fail
  have g10 := name_any (-1) w9 (HE.out.grow B13.out) ⟨by decide, by decide⟩
  rw [nm1] at g10
  refine g10.mono ?_
  clear g10
  rintro e w10 ⟨rfl, b14⟩
  have B14 := Lib.hid (below_then B13.out B13.out.size b14)
  clear b14 B13
  go_wp2_with fail
  go_ret
  exact ⟨rfl, B14.out⟩
end Go.Proofs.YtnmjglnllokklaaDoor.Head
