/- seizinlaw07's live question. -/
import Derived.Test.YtjimkkkiilcpoaaTmO
import Derived.Test.YtjimkkkiilcpoaaCapEq
set_option linter.unusedVariables false
set_option linter.unusedSimpArgs false
namespace Go.Proofs.Ytjimkkkiilcpoaa
open Go.RowKit

/-- The memories that the live question goes through. -/
def m7D0 : List Int := List.replicate 512 0
def m7T0 : List Bool := List.replicate 32 false
def m7P0 : List Bool := List.replicate 2 false
def m7D1 : List Int := writeL m7D0 256 (putL true 16 48 20 3 0)
def m7T1 : List Bool := m7T0.set 16 true
def m7P1 : List Bool := m7P0.set 1 true
def m7D2 : List Int := writeL m7D1 254 [1, 2, 3]
def m7T2 : List Bool := storeT m7T1 254 3
def m7P2 : List Bool := m7P1.set 1 false
theorem h_right : rightB true 16 48 20 3 0 = true := by decide +kernel
theorem h_ld1 : ldC m7D1 m7T1 256 = (true, 16, 48, 20, 3, 0) := by decide +kernel
theorem h_ld2 : (ldC m7D2 m7T2 256).1 = false := by decide +kernel
theorem h_part : partL m7D2 254 4 = [1, 2, 3, 0] := by decide +kernel
theorem h_clean : cleanB m7T2 m7P1 1 = true := by decide +kernel
theorem h_tags : tagsL m7T2 = [] := by decide +kernel
theorem h_dirty : dirtyL m7P2 = [] := by decide +kernel
theorem h_strip : (plB m7P2.length 256 && tagL m7T2 256) = false := by decide +kernel
theorem h_len : m7P0.length = 2 ∧ m7P1.length = 2 ∧ m7P2.length = 2 := by decide +kernel
theorem h_sc1 (b bP : Nat) (W : World) (h : TmM W b bP m7D0 m7T0 m7P0) : Calls Try.prog 49 #[.pointer (some ⟨b, 0, none⟩), .int .i64 256, .agg #[.bool (true), .int .i64 (16), .int .i64 (48), .int .i64 (20), .int .i64 (3), .int .i64 (0)]] W fun e w' => e = .returned (.bool true) ∧ TmM w' b bP m7D1 m7T1 m7P1 ∧ Turns [bP] W w' :=
  tm_storecap b bP m7D0 m7T0 m7P0 1 0 true 16 48 20 3 0 W h (by decide) (by decide) (by unfold inI; omega) h_right
theorem h_sc2 (b bP : Nat) (W : World) (h : TmM W b bP m7D1 m7T1 m7P1) : Calls Try.prog 49 #[.pointer (some ⟨b, 0, none⟩), .int .i64 8, .agg #[.bool (true), .int .i64 (16), .int .i64 (48), .int .i64 (20), .int .i64 (3), .int .i64 (0)]] W fun e w' => e = .returned (.bool false) ∧ Below W.heap.size W w' :=
  tm_storecap_no b bP m7D1 m7T1 m7P1 8 true 16 48 20 3 0 W h (by unfold inI; omega) (by unfold inI; omega) (by decide +kernel)
theorem h_lc1 (b bP : Nat) (W : World) (h : TmM W b bP m7D1 m7T1 m7P1) : Calls Try.prog 57 #[.pointer (some ⟨b, 0, none⟩), .int .i64 256] W fun e w' => e = .returned (.tuple #[.agg #[.bool (true), .int .i64 (16), .int .i64 (48), .int .i64 (20), .int .i64 (3), .int .i64 (0)], .bool true]) ∧ Below W.heap.size W w' := by
  have := tm_loadcap b bP m7D1 m7T1 m7P1 1 0 W h (by decide) (by decide)
  rw [show ldC m7D1 m7T1 (1 * 256 + 0 * 16) = (true, 16, 48, 20, 3, 0) from h_ld1] at this
  exact this
theorem h_lc2 (b bP : Nat) (W : World) (h : TmM W b bP m7D2 m7T2 m7P1) : Calls Try.prog 57 #[.pointer (some ⟨b, 0, none⟩), .int .i64 256] W fun e w' => (∃ b p a q y : Int, e = .returned (.tuple #[.agg #[.bool (false), .int .i64 (b), .int .i64 (p), .int .i64 (a), .int .i64 (q), .int .i64 (y)], .bool true])) ∧ Below W.heap.size W w' := by
  have hc := h_ld2
  have := tm_loadcap b bP m7D2 m7T2 m7P1 1 0 W h (by decide) (by decide)
  have e0 : ldC m7D2 m7T2 (1 * 256 + 0 * 16) = ldC m7D2 m7T2 256 := rfl
  rw [e0] at this
  generalize ldC m7D2 m7T2 256 = x at *
  obtain ⟨t, b1, p1, a1, q1, y1⟩ := x
  dsimp only at hc
  subst hc
  exact this.mono fun e w' h => ⟨⟨b1, p1, a1, q1, y1, h.1⟩, h.2⟩
theorem h_st (b bP : Nat) (A : Option Addr) (c : Nat) (W : World) (h : TmM W b bP m7D1 m7T1 m7P1) (hr : RowU W (.slice A 3 c) [1, 2, 3]) (hA : ∀ ad, A = some ad → ad.block ≠ bP) : Calls Try.prog 59 #[.pointer (some ⟨b, 0, none⟩), .int .i64 254, .slice A 3 c] W fun e w' => e = .returned (.bool true) ∧ TmM w' b bP m7D2 m7T2 m7P1 ∧ Turns [bP] W w' :=
  tm_store b bP m7D1 m7T1 m7P1 254 A c [1, 2, 3] W h hr (by unfold isB; decide) (by decide) (fun _ => hA)
theorem h_load (b bP : Nat) (W : World) (h : TmM W b bP m7D2 m7T2 m7P1) : Calls Try.prog 55 #[.pointer (some ⟨b, 0, none⟩), .int .i64 254, .int .i64 4] W fun e w' => ∃ v, e = .returned (.tuple #[v, .bool true]) ∧ w'.ownsRow W.heap.size 5 1 v 4 (u8s [1, 2, 3, 0]) ∧ Below W.heap.size W w' :=
  (tm_load b bP m7D2 m7T2 m7P1 254 4 W h (by decide)).mono fun e w' ⟨v, h1, h2, h3⟩ => ⟨v, h1, by rw [h_part] at h2; exact h2, h3⟩
theorem h_cl (b bP : Nat) (W : World) (h : TmM W b bP m7D2 m7T2 m7P1) : Calls Try.prog 53 #[.pointer (some ⟨b, 0, none⟩), .int .i64 1] W fun e w' => e = .returned (.bool true) ∧ TmM w' b bP m7D2 m7T2 m7P2 ∧ Turns [bP] W w' := by
  have := tm_clean b bP m7D2 m7T2 m7P1 1 W h (by unfold inI; omega)
  rw [h_clean, if_pos rfl] at this
  exact this
theorem h_tg (b bP : Nat) (W : World) (h : TmM W b bP m7D2 m7T2 m7P2) : Calls Try.prog 62 #[.pointer (some ⟨b, 0, none⟩)] W fun e w' => (∃ A c, e = .returned (.slice A 0 c)) ∧ Below W.heap.size W w' :=
  (tm_tags b bP m7D2 m7T2 m7P2 W h).mono fun e w' ⟨v, h1, h2, h3⟩ => ⟨by rw [h_tags] at h2; obtain ⟨A, c, hv⟩ := own_form h2; exact ⟨A, c, by rw [h1, hv]; rfl⟩, h3⟩
theorem h_di (b bP : Nat) (W : World) (h : TmM W b bP m7D2 m7T2 m7P2) : Calls Try.prog 64 #[.pointer (some ⟨b, 0, none⟩)] W fun e w' => (∃ A c, e = .returned (.slice A 0 c)) ∧ Below W.heap.size W w' :=
  (tm_dirty b bP m7D2 m7T2 m7P2 W h).mono fun e w' ⟨v, h1, h2, h3⟩ => ⟨by rw [h_dirty] at h2; obtain ⟨A, c, hv⟩ := own_form h2; exact ⟨A, c, by rw [h1, hv]; rfl⟩, h3⟩
theorem h_sp (b bP : Nat) (W : World) (h : TmM W b bP m7D2 m7T2 m7P2) : Calls Try.prog 51 #[.pointer (some ⟨b, 0, none⟩), .int .i64 256] W fun e w' => e = .returned (.bool false) ∧ Turns [bP] W w' := by
  have := tm_strip b bP m7D2 m7T2 m7P2 256 W h (by unfold inI; omega)
  rw [h_strip] at this
  exact this.mono fun e w' ⟨h1, h2, h3⟩ => ⟨h1, h3⟩
theorem h_sz (b bP : Nat) (W : World) (h : TmM W b bP m7D2 m7T2 m7P2) : Calls Try.prog 68 #[.pointer (some ⟨b, 0, none⟩)] W fun e w' => e = .returned (.int .i64 512) ∧ W = w' :=
  tm_size b bP m7D2 m7T2 m7P2 W h

set_option maxRecDepth 100000 in
set_option maxHeartbeats 3200000 in
theorem head7_true (w : World) : Calls Try.prog 45 #[] w fun e w' => e = .returned (.bool true) ∧ Below w.heap.size w w' := by
  go_enter Try.func45, Try.ntmps45
  go_wp2_with fail
  refine (tm_new 2 _ (by decide) (by decide)).mono ?_
  rintro e w1 ⟨b, bP, rfl, h1, l1, l2, hb1⟩
  have H1 : Hid (TmM w1 b bP m7D0 m7T0 m7P0) := Lib.hid h1
  have HB1 := Lib.hid hb1
  have HL := Lib.hid (And.intro l1 l2)
  clear h1 hb1 l1 l2
  go_wp2_with fail
  refine (tm_new_nil 0 _ (by omega)).mono ?_
  rintro e w2 ⟨rfl, rfl⟩
  go_wp2_with fail
  refine (tm_new_nil 65537 _ (by omega)).mono ?_
  rintro e w3 ⟨rfl, rfl⟩
  obtain ⟨W1, hW1⟩ : ∃ W1, w1.alloc (.cells #[.bool (true), .int .i64 (16), .int .i64 (48), .int .i64 (20), .int .i64 (3), .int .i64 (0)] 23) = W1 := ⟨_, rfl⟩
  have H2 : Hid (TmM W1 b bP m7D0 m7T0 m7P0) := Lib.hid (by rw [← hW1]; exact H1.out.alloc _)
  have kc : Blk W1 w1.heap.size #[.bool (true), .int .i64 (16), .int .i64 (48), .int .i64 (20), .int .i64 (3), .int .i64 (0)] 23 := by rw [← hW1]; exact Blk.new _ _ _
  have HB2 := Lib.hid (show Below w.heap.size w W1 by rw [← hW1]; exact HB1.out.alloc HB1.out.size _)
  have hs1 : w1.heap.size < W1.heap.size := kc.lt
  have c1 := kc.cell
  go_wp2_with fail
  refine (h_sc1 b bP _ H2.out).mono ?_
  rintro e w4 ⟨rfl, h4, t4⟩
  have nb : w1.heap.size ≠ bP := by have := H1.out.lt.2; omega
  have kc4 := kc.turns t4 (by simpa using nb)
  have hbb := HL.out
  have hB : ∀ {X Y : World}, Below w.heap.size w X → Turns [bP] X Y → Below w.heap.size w Y := fun h k => ⟨k.os.trans h.os, k.tape.trans h.tape, k.output.trans h.output, Nat.le_trans h.size k.size, fun x hx => (k.block x (by have := h.size; omega) (by simp; omega)).trans (h.block x hx)⟩
  have HBB := Lib.hid (hB HB2.out t4)
  have H4 := Lib.hid h4
  have c4 := kc4.cell
  have l4 := kc4.lt
  clear h4 t4 kc c1 hs1 H2 H1 HB1 HB2 hW1
  go_wp2_with fail
  refine (h_sc2 b bP _ H4.out).mono ?_
  rintro e w5 ⟨rfl, b5⟩
  have H5 := Lib.hid (H4.out.grow b5)
  have HB5 := Lib.hid (below_then HBB.out HBB.out.size b5)
  have kc5 := kc4.below b5 kc4.lt
  clear b5 H4 HBB kc4 c4 l4
  go_wp2_with fail
  refine (h_lc1 b bP _ H5.out).mono ?_
  rintro e w6 ⟨rfl, b6⟩
  have H6 := Lib.hid (H5.out.grow b6)
  have HB6 := Lib.hid (below_then HB5.out HB5.out.size b6)
  have kc6 := kc5.below b6 kc5.lt
  clear b6 H5 HB5 kc5
  go_wp2_with fail
  obtain ⟨W7, hW7⟩ : ∃ W7, (w6.alloc (.cells #[.bool (true), .int .i64 (16), .int .i64 (48), .int .i64 (20), .int .i64 (3), .int .i64 (0)] 23)).alloc (.cells #[.int .u8 1, .int .u8 2, .int .u8 3] 5) = W7 := ⟨_, rfl⟩
  have H7 : Hid (TmM W7 b bP m7D1 m7T1 m7P1) := Lib.hid (by rw [← hW7]; exact (H6.out.alloc _).alloc _)
  have kx : Blk W7 w6.heap.size #[.bool (true), .int .i64 (16), .int .i64 (48), .int .i64 (20), .int .i64 (3), .int .i64 (0)] 23 := by rw [← hW7]; exact (Blk.new _ _ _).alloc _
  have kc7 : Blk W7 w1.heap.size #[.bool (true), .int .i64 (16), .int .i64 (48), .int .i64 (20), .int .i64 (3), .int .i64 (0)] 23 := by rw [← hW7]; exact (kc6.alloc _).alloc _
  have kr : RowU W7 (.slice (some ⟨w6.heap.size + 1, 0, none⟩) 3 3) [1, 2, 3] := ⟨_, _, rfl, by
    rw [← hW7]
    have := RdL.new (w6.alloc (.cells #[.bool (true), .int .i64 (16), .int .i64 (48), .int .i64 (20), .int .i64 (3), .int .i64 (0)] 23)) #[.int .u8 1, .int .u8 2, .int .u8 3] 5
    rw [World.size_alloc] at this
    exact this, by decide⟩
  have HB7 := Lib.hid (show Below w.heap.size w W7 by rw [← hW7]; exact (HB6.out.alloc HB6.out.size _).alloc (by have := HB6.out.size; simp; omega) _)
  have nx : w6.heap.size ≠ bP ∧ w6.heap.size + 1 ≠ bP := by have := H6.out.lt.2; omega
  have hst := h_st b bP (some ⟨w6.heap.size + 1, 0, none⟩) 3 W7 H7.out kr (fun ad e => by cases e; exact nx.2)
  clear kr H7 H6 HB6 kc6
  rw [hW7]
  clear hW7
  refine hst.mono ?_
  rintro e w8 ⟨rfl, h8, t8⟩
  have HB8 := Lib.hid (hB HB7.out t8)
  have H8 := Lib.hid h8
  have kc8 := kc7.turns t8 (by simpa using nb)
  have kx8 := kx.turns t8 (by simpa using nx.1)
  clear hst h8 t8 kc7 kx HB7
  go_wp2_with fail
  refine (h_lc2 b bP _ H8.out).mono ?_
  rintro e w9 ⟨⟨b1, p1, a1, q1, y1, rfl⟩, b9⟩
  have H9 := Lib.hid (H8.out.grow b9)
  have HB9 := Lib.hid (below_then HB8.out HB8.out.size b9)
  have kc9 := kc8.below b9 kc8.lt
  have kx9 := kx8.below b9 kx8.lt
  clear b9 H8 HB8 kc8 kx8
  go_wp2_with fail
  obtain ⟨W10, hW10⟩ : ∃ W10, w9.alloc (.cells #[.bool (false), .int .i64 (b1), .int .i64 (p1), .int .i64 (a1), .int .i64 (q1), .int .i64 (y1)] 23) = W10 := ⟨_, rfl⟩
  have H10 : Hid (TmM W10 b bP m7D2 m7T2 m7P1) := Lib.hid (by rw [← hW10]; exact H9.out.alloc _)
  have ky : Blk W10 w9.heap.size #[.bool (false), .int .i64 (b1), .int .i64 (p1), .int .i64 (a1), .int .i64 (q1), .int .i64 (y1)] 23 := by rw [← hW10]; exact Blk.new _ _ _
  have kc10 : Blk W10 w1.heap.size #[.bool (true), .int .i64 (16), .int .i64 (48), .int .i64 (20), .int .i64 (3), .int .i64 (0)] 23 := by rw [← hW10]; exact kc9.alloc _
  have kx10 : Blk W10 w6.heap.size #[.bool (true), .int .i64 (16), .int .i64 (48), .int .i64 (20), .int .i64 (3), .int .i64 (0)] 23 := by rw [← hW10]; exact kx9.alloc _
  have HB10 := Lib.hid (show Below w.heap.size w W10 by rw [← hW10]; exact HB9.out.alloc HB9.out.size _)
  have ny : w9.heap.size ≠ bP := by have := H9.out.lt.2; omega
  clear H9 HB9 kc9 kx9
  rw [hW10]
  clear hW10
  refine (h_load b bP _ H10.out).mono ?_
  rintro e w11 ⟨v, rfl, r11, b11⟩
  have hbp : bP < W10.heap.size := H10.out.lt.2
  have H11 := Lib.hid (H10.out.grow b11)
  have HB11 := Lib.hid (below_then HB10.out HB10.out.size b11)
  have kc11 := kc10.below b11 kc10.lt
  have kx11 := kx10.below b11 kx10.lt
  have ky11 := ky.below b11 ky.lt
  have HR11 := Lib.hid r11
  clear r11 b11 H10 HB10 kc10 kx10 ky
  go_wp2_with fail
  refine (h_cl b bP _ H11.out).mono ?_
  rintro e w12 ⟨rfl, h12, t12⟩
  have H12 := Lib.hid h12
  have HB12 := Lib.hid (hB HB11.out t12)
  have kc12 := kc11.turns t12 (by simpa using nb)
  have kx12 := kx11.turns t12 (by simpa using nx.1)
  have ky12 := ky11.turns t12 (by simpa using ny)
  have r12 := row_turns HR11.out t12 (by simpa using hbp)
  have hstr := (RowU.own r12)
  obtain ⟨A, c, rfl⟩ := own_form r12
  clear h12 t12 H11 HB11 kc11 kx11 ky11 HR11 r12
  have c1 := kc12.cell
  have c2 := kx12.cell
  have c3 := ky12.cell
  have l1 := kc12.lt
  have l2 := kx12.lt
  have l3 := ky12.lt
  have hcv : (convert 24 9 (.slice A 4 c)).run Try.prog w12 = .ok (.string ⟨#[1, 2, 3, 0]⟩) w12 := run_str Try.underlying24 Try.underlying5 Try.underlying9 c (xs := [1, 2, 3, 0]) rfl hstr.row
  clear hstr
  go_wp2_with fail
  refine (h_tg b bP _ H12.out).mono ?_
  rintro e w13 ⟨⟨A13, c13, rfl⟩, b13⟩
  have H13 := Lib.hid (H12.out.grow b13)
  have HB13 := Lib.hid (below_then HB12.out HB12.out.size b13)
  clear b13 H12 HB12 hcv c1 c2 c3 l1 l2 l3 kc12 kx12 ky12
  go_wp2_with fail
  refine (h_di b bP _ H13.out).mono ?_
  rintro e w14 ⟨⟨A14, c14, rfl⟩, b14⟩
  have H14 := Lib.hid (H13.out.grow b14)
  have HB14 := Lib.hid (below_then HB13.out HB13.out.size b14)
  clear b14 H13 HB13
  go_wp2_with fail
  refine (h_sz b bP _ H14.out).mono ?_
  rintro e w15 ⟨rfl, rfl⟩
  go_wp2_with fail
  refine (h_sp b bP _ H14.out).mono ?_
  rintro e w16 ⟨rfl, t16⟩
  have HB16 := Lib.hid (hB HB14.out t16)
  clear t16 H14 HB14
  go_wp2
  go_ret
  exact ⟨rfl, HB16.out⟩
end Go.Proofs.Ytjimkkkiilcpoaa
