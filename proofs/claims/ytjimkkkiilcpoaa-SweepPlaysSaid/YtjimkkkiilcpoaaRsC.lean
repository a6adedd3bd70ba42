/- Step; the document's. -/
import Derived.Test.YtjimkkkiilcpoaaRsB
set_option linter.unusedVariables false
set_option linter.unusedSimpArgs false
namespace Go.Proofs.Ytjimkkkiilcpoaa
open Go.RowKit

set_option maxRecDepth 100000 in
theorem rs_step_no (s r q : Nat) (run : Bool) (lv : Value) (g k : Int) (w : World) (h : Blk w s (rsC r q run lv g) 125) (hk : inI k) (hn : run = false ∨ k < 1) :
    Calls Try.prog 77 #[.pointer (some ⟨s, 0, none⟩), .int .i64 k] w fun e w' => e = .returned (.int .i64 0) ∧ w = w' := by
  unfold rsC at h
  have c1 := h.cell
  have l1 := h.lt
  obtain ⟨k0, k1⟩ := hk
  clear h
  cases run with
  | false =>
    go_enter Try.func77, Try.ntmps77
    go_wp2
    go_ret
    exact ⟨rfl, rfl⟩
  | true =>
    have h1 : k < 1 := by rcases hn with h | h; cases h; exact h
    clear hn
    go_enter Try.func77, Try.ntmps77
    go_wp2
    go_ret
    exact ⟨rfl, rfl⟩

theorem i64s_one (xs : List Int) : ∀ u ∈ i64s xs, u.oneCell' = true := fun u hu => by
  rw [i64s, List.mem_map] at hu
  obtain ⟨x, _, rfl⟩ := hu
  rfl
theorem own_base {w : World} {base size n : Nat} {e : TypeId} {A : Option Addr} {c : Nat} {xs : List Value} (h : w.ownsRow base e size (.slice A n c) n xs) : ∀ ad, A = some ad → base ≤ ad.block := fun ad ha => by
  subst ha
  rcases h.2 with ⟨ho, _⟩ | ⟨gg, _, _, ho, h3, _⟩
  · cases ho
  · cases ho
    exact h3
theorem own_cap {w : World} {base size n : Nat} {e : TypeId} {A : Option Addr} {c : Nat} {xs : List Value} (h : w.ownsRow base e size (.slice A n c) n xs) : n ≤ c ∧ c ≤ maxLen := by
  rcases h.2 with ⟨ho, h0⟩ | ⟨gg, _, _, ho, h3, _, h4, h5, _⟩
  · cases ho
    exact ⟨Nat.le_refl _, Nat.zero_le _⟩
  · cases ho
    exact ⟨h4, h5⟩
/-- What stands behind a step. -/
def RsStep (s r rB rT rP q : Nat) (D : List Int) (Q : List Bool) (L : List Int) (T P : List Bool) (g n m : Nat) (w w' : World) : Prop :=
  TrM w' r rB rT rP D (swS D Q (L.take m) (T, P, g)).1 (swS D Q (L.take m) (T, P, g)).2.1 ∧
    (∃ A' c', Blk w' s (rsC r q (decide (m < n)) (.slice A' (n - m) c') (((swS D Q (L.take m) (T, P, g)).2.2 : Nat) : Int)) 125 ∧ RowI w' (.slice A' (n - m) c') (L.drop m) ∧ n - m ≤ c' ∧ c' ≤ maxLen ∧ (0 < n - m → ∀ ad, A' = some ad → w.heap.size ≤ ad.block)) ∧
    Turns [rB, rT, rP, s] w w'
theorem RsNe.all {s r rB rT rP q qB : Nat} (h : RsNe s r rB rT rP q qB) : q ∉ [rB, rT, rP, s] ∧ qB ∉ [rB, rT, rP, s] := by
  obtain ⟨⟨a1, a2, a3, a4, a5, a6⟩, ⟨q1, q2, q3, q4, q5, q6⟩⟩ := h
  exact ⟨nin4 q1 q2 q3 a5.symm, nin4 q4 q5 q6 a6.symm⟩
theorem RowI.set_far {w : World} {A : Option Addr} {n c s : Nat} {xs : List Int} (h : RowI w (.slice A n c) xs) (hA : 0 < n → ∀ ad, A = some ad → ad.block ≠ s) (i : Nat) (v : Value) : RowI (w.setCell ⟨s, i, none⟩ v) (.slice A n c) xs :=
  h.turns (Turns.set (bs := [s]) w (List.mem_singleton.2 rfl) i v) (fun h0 ad e => by simpa using hA h0 ad e)
theorem TrM.set_far {w : World} {s r rB rT rP : Nat} {D : List Int} {T P : List Bool} (h : TrM w r rB rT rP D T P) (hs : s ≠ r ∧ s ≠ rB ∧ s ≠ rT ∧ s ≠ rP) (i : Nat) (v : Value) : TrM (w.setCell ⟨s, i, none⟩ v) r rB rT rP D T P :=
  h.turns (Turns.set (bs := [s]) w (List.mem_singleton.2 rfl) i v) (by simpa using hs.1.symm) (by simpa using hs.2.1.symm) (by simpa using hs.2.2.1.symm) (by simpa using hs.2.2.2.symm)

set_option maxRecDepth 100000 in
set_option maxHeartbeats 6400000 in
theorem rs_step (s r rB rT rP q qB : Nat) (D : List Int) (T P Q : List Bool) (A : Option Addr) (n c g k : Nat) (L : List Int) (w : World) (hS : Blk w s (rsC r q true (.slice A n c) g) 125) (hL : RowI w (.slice A n c) L) (hnc : n ≤ c) (hcm : (c : Int) ≤ 9223372036854775807)
    (hA : 0 < n → ∀ ad, A = some ad → ad.block ∉ [rB, rT, rP, s]) (hLp : ∀ p ∈ L, 0 ≤ p ∧ p < P.length) (hM : TrM w r rB rT rP D T P) (hQ : RfM w q qB Q)
    (hne : RsNe s r rB rT rP q qB) (hg : (g : Int) + 16 * n ≤ 1099511627776) (hk : (1 : Int) ≤ k) (hkm : (k : Int) ≤ 9223372036854775807) (hn6 : (n : Int) ≤ 65536) :
    Calls Try.prog 77 #[.pointer (some ⟨s, 0, none⟩), .int .i64 k] w fun e w' => e = .returned (.int .i64 ((min k n : Nat) : Int)) ∧ RsStep s r rB rT rP q D Q L T P g n (min k n) w w' := by
  have HS := Lib.hid hS
  have HL := Lib.hid hL
  have HM := Lib.hid hM
  have HQ := Lib.hid hQ
  have HA := Lib.hid hA
  have HLP := Lib.hid hLp
  have HNE := Lib.hid hne
  have HNQ := Lib.hid hne.all
  have HLN := Lib.hid (show L.length = n by obtain ⟨_, _, e, _⟩ := hL; simp only [Value.slice.injEq] at e; exact e.2.1.symm)
  have HG := Lib.hid hg
  have sS := hS
  unfold rsC at sS
  have cS := sS.cell
  have lS := sS.lt
  obtain ⟨m, hm⟩ : ∃ m, min k n = m := ⟨_, rfl⟩
  rw [hm]
  have HMN := Lib.hid (show m ≤ n ∧ m ≤ k ∧ (m = n ∨ m = k) by omega)
  have HNC := Lib.hid hnc
  have hmc : (m : Int) ≤ c := by omega
  have hmn : (m : Int) ≤ n := by omega
  have hnc' : (n : Int) ≤ c := by omega
  have hm6 : (m : Int) ≤ 65536 := by omega
  clear hS hL hM hQ hA hLp hne sS hg hm hnc
  rcases (show n < k ∨ k ≤ n by omega) with hnk | hnk
  · have i0 : (n : Int) < k := by omega
    obtain rfl : m = n := by have := HMN.out; omega
    clear hnk
    go_enter Try.func77, Try.ntmps77
    go_wp2
    go_loopg [6] m (fun gk v6 wr => ∃ i : Nat, i + gk = m ∧ v6 = .int .i64 i ∧ TrM wr r rB rT rP D (swS D Q (L.take i) (T, P, g)).1 (swS D Q (L.take i) (T, P, g)).2.1 ∧ Blk wr s (rsC r q true (.slice A m c) (((swS D Q (L.take i) (T, P, g)).2.2 : Nat) : Int)) 125 ∧ RfM wr q qB Q ∧ RowI wr (.slice A m c) L ∧ Turns [rB, rT, rP, s] w wr)
    case atStart => exact ⟨0, by omega, rfl, HM.out, HS.out, HQ.out, HL.out, Turns.refl _ _⟩
    case round =>
      obtain ⟨i, hi, rfl, hM, hS, hQ, hL, ht⟩ := hrel
      have HI := Lib.hid hi
      have HM1 := Lib.hid hM
      have HS1 := Lib.hid hS
      have HQ1 := Lib.hid hQ
      have HL1 := Lib.hid hL
      have HT1 := Lib.hid ht
      have sS := hS
      unfold rsC at sS
      have cS := sS.cell
      have fS := sS.frozen
      have lS := sS.lt
      clear hi hM hS hQ hL ht sS
      rcases Nat.lt_or_ge i m with h1 | h1
      · have i1 : (i : Int) < m := by omega
        have i1n : (i : Int) < m := by omega
        obtain ⟨ga, oa, rfl, hca⟩ := HL1.out.cellsA (by rw [HLN.out]; have := HMN.out; omega)
        have hil : i < L.length := by rw [HLN.out]; have := HMN.out; omega
        have c0 := hca i hil
        have hlt0 := World.block_lt_of_cell? _ _ c0
        dsimp only at hlt0
        have htk := take_snoc_i L i hil
        have hpm := HLP.out (rdi L i) (by rw [rdi, List.getD_eq_getElem?_getD, List.getElem?_eq_getElem hil]; exact List.getElem_mem hil)
        obtain ⟨p, hp⟩ := Int.eq_ofNat_of_zero_le hpm.1
        rw [hp] at c0 htk hpm
        have hsn := swS_snoc D Q (L.take i) (p : Int) (T, P, g)
        rw [← htk, Int.toNat_natCast] at hsn
        have hgn := swS_gone D Q (L.take i) (T, P, g)
        rw [List.length_take, Nat.min_eq_left (Nat.le_of_lt hil)] at hgn
        dsimp only at hgn
        have hpl : (swS D Q (L.take i) (T, P, g)).2.1.length = P.length := swS_len D Q _ _
        have gp := rs_page s r rB rT rP q qB p D _ _ Q true _ _ c _ wr HS1.out HM1.out HQ1.out (by rw [hpl]; omega) HNE.out (by have := HG.out; have := HMN.out; omega)
        have GP := Lib.hid gp
        have HSN := Lib.hid hsn
        have H1 := Lib.hid h1
        clear h1 hca hil htk hpm hp hsn hgn hpl gp fS
        go_wp2_with fail
        refine GP.out.mono ?_
        rintro e w1 ⟨⟨v1, rfl⟩, m1, k1, t1⟩
        have M1 := Lib.hid m1
        have K1 := Lib.hid k1
        have T1 := Lib.hid t1
        have Q1 := Lib.hid (HQ1.out.turns t1 HNQ.out.1 HNQ.out.2)
        have L1 := Lib.hid (HL1.out.turns t1 (fun h0 ad e => HA.out h0 ad e))
        clear m1 k1 t1 c0 hlt0 GP HS1 HM1 HQ1 HL1 cS lS
        go_wp2
        go_roundg (gk - 1)
        case measure => have := HI.out; have := H1.out; omega
        case rel => exact ⟨i + 1, by have := HI.out; have := H1.out; omega, by go_num, by rw [HSN.out]; exact M1.out, by rw [HSN.out]; exact K1.out, Q1.out, L1.out, HT1.out.trans T1.out⟩
      · have i1 : ¬ (i : Int) < m := by omega
        obtain rfl : i = m := by have := HI.out; omega
        clear h1
        have HOW : Hid ((wr.alloc (.cells #[] 3)).ownsRow wr.heap.size 3 1 (.slice (some ⟨wr.heap.size, 0, none⟩) 0 0) 0 []) := Lib.hid (World.ownsRow_made wr #[] 0 (Nat.le_refl _) (by decide) rfl)
        have HDL := Lib.hid (show L.drop i = [] from List.eq_nil_of_length_eq_zero (by rw [List.length_drop, HLN.out]; omega))
        have S2 := Lib.hid (HS1.out.alloc (.cells #[] 3))
        have M2 := Lib.hid (HM1.out.alloc (.cells #[] 3))
        have hsz : wr.heap.size ≤ (wr.alloc (.cells #[] 3)).heap.size := by simp
        have T2 := Lib.hid (HT1.out.trans (Turns.below (show Below wr.heap.size wr (wr.alloc (.cells #[] 3)) by go_grown)))
        have HWZ := Lib.hid (show w.heap.size ≤ wr.heap.size from HT1.out.size)
        clear cS fS lS
        have sS := S2.out
        unfold rsC at sS
        have cS := sS.cell
        have fS := sS.frozen
        have lS := sS.lt
        clear sS
        have c0 := HS1.out.cell
        unfold rsC at c0
        have l0 := HS1.out.lt
        by_cases hcj : c = i
        · go_wp2_with (first
            | (at_builtin; go_loud (refine app (w0 := wr) (W := wr.alloc _) wr.heap.size rfl _ _ 68 3 (.int .i64 0) 1 8 rfl Try.underlying68 infoInt rfl (by decide) (by decide) _ _ _ [] _ 0 _ rfl rfl rfl (by simp) HOW.out (RdL.nil _ _) ((Below.refl _ wr).alloc (Nat.le_refl _) _) hsz (by omega) ?_; intro v1 w3 hown1 hb2 _; rw [Nat.zero_add, List.nil_append] at hown1; obtain ⟨A1, c1, rfl⟩ := own_form hown1; have SS := HS1.out.below hb2 HS1.out.lt; have SX := Lib.hid SS; have MX := Lib.hid (HM1.out.grow hb2); have TX := Lib.hid (HT1.out.trans (Turns.below hb2)); have OX := Lib.hid hown1; unfold rsC at SS; clear cS fS lS c0 l0; have cS := SS.cell; have fS := SS.frozen; have lS := SS.lt; clear SS hown1 hb2)))
          all_goals (
            go_ret
            have hne := HNE.out.1
            have hbase := own_base OX.out
            have hfar : ∀ ad, A1 = some ad → ad.block ≠ s := fun ad e => by have h1 := hbase ad e; have h2 := HS1.out.lt; omega
            refine ⟨rfl, (MX.out.set_far ⟨hne.1, hne.2.1, hne.2.2.1, hne.2.2.2.1⟩ 3 _).set_far ⟨hne.1, hne.2.1, hne.2.2.1, hne.2.2.2.1⟩ 2 _, ⟨A1, c1, ?_, ?_, ?_, ?_, fun h => by omega⟩, TX.out.trans ((Turns.set _ (by simp) 3 _).trans (Turns.set _ (by simp) 2 _))⟩
            · rw [Nat.sub_self, decide_eq_false (Nat.lt_irrefl i)]
              exact (SX.out.set 3 _).set 2 _
            · rw [Nat.sub_self, HDL.out]
              exact ((RowI.own (n := 0) (xs := []) OX.out).set_far (fun h => by omega) 3 _).set_far (fun h => by omega) 2 _
            · rw [Nat.sub_self]
              exact (own_cap OX.out).1
            · exact (own_cap OX.out).2)
        · go_wp2_with (first
            | (at_builtin; go_loud (refine app (w0 := wr) (W := wr.alloc _) wr.heap.size rfl _ _ 68 3 (.int .i64 0) 1 8 rfl Try.underlying68 infoInt rfl (by decide) (by decide) _ _ _ [] _ 0 _ rfl rfl rfl (by simp) HOW.out (RdL.nil _ _) ((Below.refl _ wr).alloc (Nat.le_refl _) _) hsz (by omega) ?_; intro v1 w3 hown1 hb2 _; rw [Nat.zero_add, List.nil_append] at hown1; obtain ⟨A1, c1, rfl⟩ := own_form hown1; have SS := HS1.out.below hb2 HS1.out.lt; have SX := Lib.hid SS; have MX := Lib.hid (HM1.out.grow hb2); have TX := Lib.hid (HT1.out.trans (Turns.below hb2)); have OX := Lib.hid hown1; unfold rsC at SS; clear cS fS lS c0 l0; have cS := SS.cell; have fS := SS.frozen; have lS := SS.lt; clear SS hown1 hb2)))
          all_goals (
            go_ret
            have hne := HNE.out.1
            have hbase := own_base OX.out
            have hfar : ∀ ad, A1 = some ad → ad.block ≠ s := fun ad e => by have h1 := hbase ad e; have h2 := HS1.out.lt; omega
            refine ⟨rfl, (MX.out.set_far ⟨hne.1, hne.2.1, hne.2.2.1, hne.2.2.2.1⟩ 3 _).set_far ⟨hne.1, hne.2.1, hne.2.2.1, hne.2.2.2.1⟩ 2 _, ⟨A1, c1, ?_, ?_, ?_, ?_, fun h => by omega⟩, TX.out.trans ((Turns.set _ (by simp) 3 _).trans (Turns.set _ (by simp) 2 _))⟩
            · rw [Nat.sub_self, decide_eq_false (Nat.lt_irrefl i)]
              exact (SX.out.set 3 _).set 2 _
            · rw [Nat.sub_self, HDL.out]
              exact ((RowI.own (n := 0) (xs := []) OX.out).set_far (fun h => by omega) 3 _).set_far (fun h => by omega) 2 _
            · rw [Nat.sub_self]
              exact (own_cap OX.out).1
            · exact (own_cap OX.out).2)
  · have i0 : ¬ (n : Int) < k := by omega
    obtain rfl : m = k := by have := HMN.out; omega
    clear hnk
    go_enter Try.func77, Try.ntmps77
    go_wp2
    go_loopg [6] m (fun gk v6 wr => ∃ i : Nat, i + gk = m ∧ v6 = .int .i64 i ∧ TrM wr r rB rT rP D (swS D Q (L.take i) (T, P, g)).1 (swS D Q (L.take i) (T, P, g)).2.1 ∧ Blk wr s (rsC r q true (.slice A n c) (((swS D Q (L.take i) (T, P, g)).2.2 : Nat) : Int)) 125 ∧ RfM wr q qB Q ∧ RowI wr (.slice A n c) L ∧ Turns [rB, rT, rP, s] w wr)
    case atStart => exact ⟨0, by omega, rfl, HM.out, HS.out, HQ.out, HL.out, Turns.refl _ _⟩
    case round =>
      obtain ⟨i, hi, rfl, hM, hS, hQ, hL, ht⟩ := hrel
      have HI := Lib.hid hi
      have HM1 := Lib.hid hM
      have HS1 := Lib.hid hS
      have HQ1 := Lib.hid hQ
      have HL1 := Lib.hid hL
      have HT1 := Lib.hid ht
      have sS := hS
      unfold rsC at sS
      have cS := sS.cell
      have fS := sS.frozen
      have lS := sS.lt
      clear hi hM hS hQ hL ht sS
      rcases Nat.lt_or_ge i m with h1 | h1
      · have i1 : (i : Int) < m := by omega
        have i1n : (i : Int) < n := by omega
        obtain ⟨ga, oa, rfl, hca⟩ := HL1.out.cellsA (by rw [HLN.out]; have := HMN.out; omega)
        have hil : i < L.length := by rw [HLN.out]; have := HMN.out; omega
        have c0 := hca i hil
        have hlt0 := World.block_lt_of_cell? _ _ c0
        dsimp only at hlt0
        have htk := take_snoc_i L i hil
        have hpm := HLP.out (rdi L i) (by rw [rdi, List.getD_eq_getElem?_getD, List.getElem?_eq_getElem hil]; exact List.getElem_mem hil)
        obtain ⟨p, hp⟩ := Int.eq_ofNat_of_zero_le hpm.1
        rw [hp] at c0 htk hpm
        have hsn := swS_snoc D Q (L.take i) (p : Int) (T, P, g)
        rw [← htk, Int.toNat_natCast] at hsn
        have hgn := swS_gone D Q (L.take i) (T, P, g)
        rw [List.length_take, Nat.min_eq_left (Nat.le_of_lt hil)] at hgn
        dsimp only at hgn
        have hpl : (swS D Q (L.take i) (T, P, g)).2.1.length = P.length := swS_len D Q _ _
        have gp := rs_page s r rB rT rP q qB p D _ _ Q true _ _ c _ wr HS1.out HM1.out HQ1.out (by rw [hpl]; omega) HNE.out (by have := HG.out; have := HMN.out; omega)
        have GP := Lib.hid gp
        have HSN := Lib.hid hsn
        have H1 := Lib.hid h1
        clear h1 hca hil htk hpm hp hsn hgn hpl gp fS
        go_wp2_with fail
        refine GP.out.mono ?_
        rintro e w1 ⟨⟨v1, rfl⟩, m1, k1, t1⟩
        have M1 := Lib.hid m1
        have K1 := Lib.hid k1
        have T1 := Lib.hid t1
        have Q1 := Lib.hid (HQ1.out.turns t1 HNQ.out.1 HNQ.out.2)
        have L1 := Lib.hid (HL1.out.turns t1 (fun h0 ad e => HA.out h0 ad e))
        clear m1 k1 t1 c0 hlt0 GP HS1 HM1 HQ1 HL1 cS lS
        go_wp2
        go_roundg (gk - 1)
        case measure => have := HI.out; have := H1.out; omega
        case rel => exact ⟨i + 1, by have := HI.out; have := H1.out; omega, by go_num, by rw [HSN.out]; exact M1.out, by rw [HSN.out]; exact K1.out, Q1.out, L1.out, HT1.out.trans T1.out⟩
      · have i1 : ¬ (i : Int) < m := by omega
        obtain rfl : i = m := by have := HI.out; omega
        clear h1
        rcases Nat.lt_or_ge i n with hin | hin
        · obtain ⟨d, rfl⟩ : ∃ d, n = i + d := ⟨n - i, by omega⟩
          have hd : (0 : Int) < d := by omega
          have hdn : 0 < d := by omega
          have hcj : ¬ c = i := by have := HNC.out; omega
          have HSA := Lib.hid (show subA A c i = A.map (·.add i) by rw [subA, if_neg hcj])
          have RS := Lib.hid ((HL1.out.sub i (by omega) HNC.out).below (show Below wr.heap.size wr (wr.alloc (.cells #[] 3)) by go_grown))
          rw [HSA.out, Nat.add_sub_cancel_left] at RS
          have HOW : Hid ((wr.alloc (.cells #[] 3)).ownsRow wr.heap.size 3 1 (.slice (some ⟨wr.heap.size, 0, none⟩) 0 0) 0 []) := Lib.hid (World.ownsRow_made wr #[] 0 (Nat.le_refl _) (by decide) rfl)
          have HDL := Lib.hid (show (L.drop i).length = d by rw [List.length_drop, HLN.out]; omega)
          have HWZ := Lib.hid (show w.heap.size ≤ wr.heap.size from HT1.out.size)
          have hsz : wr.heap.size ≤ (wr.alloc (.cells #[] 3)).heap.size := by simp
          have c0 := (HS1.out.alloc (.cells #[] 3)).cell
          unfold rsC at c0
          have l0 := (HS1.out.alloc (.cells #[] 3)).lt
          clear hin
          go_wp2_with (first
            | (at_builtin; go_loud (refine app (w0 := wr) (W := wr.alloc _) wr.heap.size rfl _ _ 68 3 (.int .i64 0) 1 8 rfl Try.underlying68 infoInt rfl (by decide) (by decide) _ _ _ (i64s (L.drop i)) (A.map (·.add i)) d _ rfl rfl (by rw [i64s, List.length_map, HDL.out]; omega) (i64s_one _) HOW.out (by obtain ⟨_, _, e, hr⟩ := RS.out; simp only [Value.slice.injEq] at e; obtain ⟨rfl, _, rfl⟩ := e; exact hr) ((Below.refl _ wr).alloc (Nat.le_refl _) _) hsz (by omega) ?_; intro v1 w3 hown1 hb2 _; rw [Nat.zero_add, List.nil_append] at hown1; obtain ⟨A1, c1, rfl⟩ := own_form hown1; have SS := HS1.out.below hb2 HS1.out.lt; have SX := Lib.hid SS; have MX := Lib.hid (HM1.out.grow hb2); have TX := Lib.hid (HT1.out.trans (Turns.below hb2)); have OX := Lib.hid hown1; unfold rsC at SS; clear cS fS lS c0 l0; have cS := SS.cell; have fS := SS.frozen; have lS := SS.lt; clear SS hown1 hb2)))
          all_goals (
            go_ret
            have hne := HNE.out.1
            have hbase := own_base OX.out
            have hfar : ∀ ad, A1 = some ad → ad.block ≠ s := fun ad e => by have h1 := hbase ad e; have h2 := HS1.out.lt; omega
            refine ⟨rfl, (MX.out.set_far ⟨hne.1, hne.2.1, hne.2.2.1, hne.2.2.2.1⟩ 3 _).set_far ⟨hne.1, hne.2.1, hne.2.2.1, hne.2.2.2.1⟩ 2 _, ⟨A1, c1, ?_, ?_, ?_, ?_, fun _ ad e => Nat.le_trans HWZ.out (hbase ad e)⟩, TX.out.trans ((Turns.set _ (by simp) 3 _).trans (Turns.set _ (by simp) 2 _))⟩
            · rw [Nat.add_sub_cancel_left, decide_eq_true (by omega)]
              exact (SX.out.set 3 _).set 2 _
            · rw [Nat.add_sub_cancel_left]
              exact ((RowI.own (n := d) OX.out).set_far (fun _ => hfar) 3 _).set_far (fun _ => hfar) 2 _
            · rw [Nat.add_sub_cancel_left]
              exact (own_cap OX.out).1
            · exact (own_cap OX.out).2)
        · obtain rfl : n = i := by have := HMN.out; omega
          have HOW : Hid ((wr.alloc (.cells #[] 3)).ownsRow wr.heap.size 3 1 (.slice (some ⟨wr.heap.size, 0, none⟩) 0 0) 0 []) := Lib.hid (World.ownsRow_made wr #[] 0 (Nat.le_refl _) (by decide) rfl)
          have HDL := Lib.hid (show L.drop n = [] from List.eq_nil_of_length_eq_zero (by rw [List.length_drop, HLN.out]; omega))
          have S2 := Lib.hid (HS1.out.alloc (.cells #[] 3))
          have M2 := Lib.hid (HM1.out.alloc (.cells #[] 3))
          have hsz : wr.heap.size ≤ (wr.alloc (.cells #[] 3)).heap.size := by simp
          have T2 := Lib.hid (HT1.out.trans (Turns.below (show Below wr.heap.size wr (wr.alloc (.cells #[] 3)) by go_grown)))
          have HWZ := Lib.hid (show w.heap.size ≤ wr.heap.size from HT1.out.size)
          clear cS fS lS
          have sS := S2.out
          unfold rsC at sS
          have cS := sS.cell
          have fS := sS.frozen
          have lS := sS.lt
          clear sS
          have c0 := HS1.out.cell
          unfold rsC at c0
          have l0 := HS1.out.lt
          by_cases hcj : c = n
          · go_wp2_with (first
              | (at_builtin; go_loud (refine app (w0 := wr) (W := wr.alloc _) wr.heap.size rfl _ _ 68 3 (.int .i64 0) 1 8 rfl Try.underlying68 infoInt rfl (by decide) (by decide) _ _ _ [] _ 0 _ rfl rfl rfl (by simp) HOW.out (RdL.nil _ _) ((Below.refl _ wr).alloc (Nat.le_refl _) _) hsz (by omega) ?_; intro v1 w3 hown1 hb2 _; rw [Nat.zero_add, List.nil_append] at hown1; obtain ⟨A1, c1, rfl⟩ := own_form hown1; have SS := HS1.out.below hb2 HS1.out.lt; have SX := Lib.hid SS; have MX := Lib.hid (HM1.out.grow hb2); have TX := Lib.hid (HT1.out.trans (Turns.below hb2)); have OX := Lib.hid hown1; unfold rsC at SS; clear cS fS lS c0 l0; have cS := SS.cell; have fS := SS.frozen; have lS := SS.lt; clear SS hown1 hb2)))
            all_goals (
              go_ret
              have hne := HNE.out.1
              have hbase := own_base OX.out
              have hfar : ∀ ad, A1 = some ad → ad.block ≠ s := fun ad e => by have h1 := hbase ad e; have h2 := HS1.out.lt; omega
              refine ⟨rfl, (MX.out.set_far ⟨hne.1, hne.2.1, hne.2.2.1, hne.2.2.2.1⟩ 3 _).set_far ⟨hne.1, hne.2.1, hne.2.2.1, hne.2.2.2.1⟩ 2 _, ⟨A1, c1, ?_, ?_, ?_, ?_, fun h => by omega⟩, TX.out.trans ((Turns.set _ (by simp) 3 _).trans (Turns.set _ (by simp) 2 _))⟩
              · rw [Nat.sub_self, decide_eq_false (Nat.lt_irrefl n)]
                exact (SX.out.set 3 _).set 2 _
              · rw [Nat.sub_self, HDL.out]
                exact ((RowI.own (n := 0) (xs := []) OX.out).set_far (fun h => by omega) 3 _).set_far (fun h => by omega) 2 _
              · rw [Nat.sub_self]
                exact (own_cap OX.out).1
              · exact (own_cap OX.out).2)
          · go_wp2_with (first
              | (at_builtin; go_loud (refine app (w0 := wr) (W := wr.alloc _) wr.heap.size rfl _ _ 68 3 (.int .i64 0) 1 8 rfl Try.underlying68 infoInt rfl (by decide) (by decide) _ _ _ [] _ 0 _ rfl rfl rfl (by simp) HOW.out (RdL.nil _ _) ((Below.refl _ wr).alloc (Nat.le_refl _) _) hsz (by omega) ?_; intro v1 w3 hown1 hb2 _; rw [Nat.zero_add, List.nil_append] at hown1; obtain ⟨A1, c1, rfl⟩ := own_form hown1; have SS := HS1.out.below hb2 HS1.out.lt; have SX := Lib.hid SS; have MX := Lib.hid (HM1.out.grow hb2); have TX := Lib.hid (HT1.out.trans (Turns.below hb2)); have OX := Lib.hid hown1; unfold rsC at SS; clear cS fS lS c0 l0; have cS := SS.cell; have fS := SS.frozen; have lS := SS.lt; clear SS hown1 hb2)))
            all_goals (
              go_ret
              have hne := HNE.out.1
              have hbase := own_base OX.out
              have hfar : ∀ ad, A1 = some ad → ad.block ≠ s := fun ad e => by have h1 := hbase ad e; have h2 := HS1.out.lt; omega
              refine ⟨rfl, (MX.out.set_far ⟨hne.1, hne.2.1, hne.2.2.1, hne.2.2.2.1⟩ 3 _).set_far ⟨hne.1, hne.2.1, hne.2.2.1, hne.2.2.2.1⟩ 2 _, ⟨A1, c1, ?_, ?_, ?_, ?_, fun h => by omega⟩, TX.out.trans ((Turns.set _ (by simp) 3 _).trans (Turns.set _ (by simp) 2 _))⟩
              · rw [Nat.sub_self, decide_eq_false (Nat.lt_irrefl n)]
                exact (SX.out.set 3 _).set 2 _
              · rw [Nat.sub_self, HDL.out]
                exact ((RowI.own (n := 0) (xs := []) OX.out).set_far (fun h => by omega) 3 _).set_far (fun h => by omega) 2 _
              · rw [Nat.sub_self]
                exact (own_cap OX.out).1
              · exact (own_cap OX.out).2)
end Go.Proofs.Ytjimkkkiilcpoaa
