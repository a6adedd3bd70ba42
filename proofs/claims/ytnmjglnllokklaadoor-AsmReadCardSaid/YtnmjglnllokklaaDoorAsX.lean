/- Parse; the document's. -/
import Derived.Test.YtnmjglnllokklaaDoorAsW
import Derived.Test.YtnmjglnllokklaaDoorAsF
import Derived.Deep.DeepCutAuto
import Derived.Deep.CutBlock
set_option linter.unusedVariables false
set_option linter.unusedSimpArgs false
namespace Go.Proofs.YtnmjglnllokklaaDoor
open Go.RowKit

theorem rowStr_form {w : World} {B : Nat} {ls : List (List UInt8)} {v : Value} (h : RowStr B ls v w) : ∃ A c, v = .slice A ls.length c := own_form h
/-- Where the pieces' reading stands. -/
def AtJ (B : Nat) (l : List UInt8) (j : Nat) (v4 v5 : Value) (w : World) : Prop := ∃ f : Nat, f ≤ j ∧ v5 = .int .i64 f ∧ (stS (l.take j)).2 = (l.drop f).take (j - f) ∧ RowStr B (stS (l.take j)).1 v4 w
theorem stS_len (l : List UInt8) : ∀ j, (stS (l.take j)).1.length ≤ j := fun j => by
  have : ∀ (m : List UInt8) (E : List (List UInt8)) (x : List UInt8), (m.foldl stStep (E, x)).1.length ≤ E.length + m.length := fun m => by
    induction m with
    | nil => intro E x; exact Nat.le_refl _
    | cons c r ih =>
      intro E x
      rw [List.foldl_cons]
      by_cases hc : c = 32
      · rw [show stStep (E, x) c = (E ++ [x], []) by unfold stStep; rw [if_pos hc]]
        have := ih (E ++ [x]) []
        simp only [List.length_append, List.length_cons, List.length_nil] at this ⊢
        omega
      · rw [show stStep (E, x) c = (E, x ++ [c]) by unfold stStep; rw [if_neg hc]]
        have := ih E (x ++ [c])
        simp only [List.length_cons] at this ⊢
        omega
  have h := this (l.take j) [] []
  rw [List.length_take] at h
  show ((l.take j).foldl stStep ([], [])).1.length ≤ j
  simp at h
  omega

/-- An instruction that was made, and holds nothing as yet. -/
def NewIns (B : Nat) : Value → World → Prop := fun v w => ∃ g, v = .pointer (some ⟨g, 0, none⟩) ∧ B ≤ g ∧ Blk w g #[.int .i64 (0), .int .i64 (0), .int .i64 (0), .int .i64 (0)] 23
theorem newIns_stab (B : Nat) : ∀ v w w', NewIns B v w → Below w.heap.size w w' → NewIns B v w' := fun v w w' ⟨g, h1, h2, h3⟩ hb => ⟨g, h1, h2, h3.below hb h3.lt⟩

set_option maxRecDepth 100000 in
set_option maxHeartbeats 6400000 in
theorem rparse_any (s : ByteArray) (w : World) (h : Env w) (hs : s.size ≤ 100000) :
    Calls Tryd.prog 11 #[.string s] w fun e w' => e = .returned (.tuple #[parseV s, .bool (parseB s)]) ∧ Below w.heap.size w w' := by
  have HE := Lib.hid h
  have HS := Lib.hid hs
  have hs1 : (s.size : Int) ≤ 100000 := by omega
  obtain ⟨l, hl⟩ : ∃ l, s.data.toList = l := ⟨_, rfl⟩
  have HLL := Lib.hid hl
  have HLN := Lib.hid (show l.length = s.size by rw [← hl, Array.length_toList]; rfl)
  have HG := Lib.hid (fun j h => congrArg (fun b : UInt8 => (b.toNat : Int)) ((get_data s j h).trans (by rw [hl])))
  clear h hs hl
  go_enter Tryd.func11, Tryd.ntmps11
  go_wp2_with fail
  obtain ⟨W1, hW1⟩ : ∃ W1, w.alloc (.cells #[.int .i64 (0), .int .i64 (0), .int .i64 (0), .int .i64 (0)] 23) = W1 := ⟨_, rfl⟩
  have K1 := Lib.hid (show Blk W1 w.heap.size #[.int .i64 (0), .int .i64 (0), .int .i64 (0), .int .i64 (0)] 23 by rw [← hW1]; exact Blk.new _ _ _)
  have B1 := Lib.hid (show Below w.heap.size w W1 by rw [← hW1]; go_grown)
  obtain ⟨kx, hkx⟩ : ∃ kx, w.heap.size = kx := ⟨_, rfl⟩
  have HKX := Lib.hid hkx
  rw [hW1]
  rw [hkx] at K1 ⊢
  have HW1 := Lib.hid (show kx + 1 = W1.heap.size by rw [← hW1, ← hkx]; simp)
  clear hW1 hkx
  go_loopg [4, 5, 6] (s.size + 1) (fun gk v4 v5 v6 wr => ∃ j : Nat, j + gk = s.size + 1 ∧ v6 = .int .i64 j ∧ Below W1.heap.size W1 wr ∧ ((j ≤ s.size ∧ AtJ W1.heap.size l j v4 v5 wr) ∨ (j = s.size + 1 ∧ RowStr W1.heap.size (spl l) v4 wr)))
  case atStart => exact ⟨0, by omega, rfl, Below.refl _ _, .inl ⟨Nat.zero_le _, 0, Nat.le_refl _, rfl, rfl, World.ownsRow_nil _ _ _ _⟩⟩
  case round =>
    obtain ⟨j, hj, rfl, hb, hrel⟩ := hrel
    have HJ := Lib.hid hj
    have HB := Lib.hid hb
    clear hj hb
    rcases hrel with ⟨hjs, f, hf, rfl, hx, hR⟩ | ⟨hjs, hR⟩
    · have i1 : (j : Int) ≤ s.size := by omega
      have i2 : (f : Int) ≤ j := by omega
      have HR := Lib.hid hR
      have HX := Lib.hid hx
      have HF := Lib.hid (And.intro hf hjs)
      obtain ⟨A4, c4, rfl⟩ := rowStr_form hR
      have HLen := Lib.hid (stS_len l j)
      have HXV := Lib.hid (show s.extract f j = ⟨((stS (l.take j)).2).toArray⟩ by rw [HX.out, Lib.extract_eq, HLL.out])
      clear hx hR
      rcases Nat.lt_or_ge j s.size with hlt | hge
      · have i3 : ¬ (j : Int) = s.size := by omega
        have i3' : ((j : Int) == (s.size : Int)) = false := by simpa using i3
        have i4 : (j : Int) < s.size := by omega
        have hget := HG.out j
        try dsimp only at hget
        have HSN := Lib.hid (stS_snoc l j (by rw [HLN.out]; exact hlt))
        have HLT := Lib.hid hlt
        obtain ⟨b, hb⟩ : ∃ b, l.getD j 0 = b := ⟨_, rfl⟩
        rw [hb] at hget HSN
        have HBB := Lib.hid hb
        clear hb hlt hjs
        by_cases h32 : b = 32
        · have e32 : (b.toNat : Int) = 32 := by rw [h32]; rfl
          have HS2 := Lib.hid (HSN.out.trans (show stStep _ b = ((stS (l.take j)).1 ++ [(stS (l.take j)).2], []) by unfold stStep; rw [if_pos h32]))
          rw [e32] at hget
          clear h32 e32 HSN
          obtain ⟨E, hE⟩ : ∃ E, (stS (l.take j)).1 = E := ⟨_, rfl⟩
          rw [hE] at HR HLen HS2 ⊢
          clear hE
          go_wp2_with (first
            | (at_builtin; go_loud (refine app2 (w0 := W1) (W := wr.alloc _) W1.heap.size rfl _ _ 41 9 (.string ⟨#[]⟩) 1 16 rfl Tryd.underlying41 infoStr rfl (by decide) (by decide) (.slice A4 E.length c4) E.length (E.map strV) [.string (s.extract f j)] ⟨wr.heap.size, 0, none⟩ 1 1 rfl rfl rfl (by intro u hu; simp at hu; subst hu; rfl) (World.ownsRow.alloc HR.out _) (RdL.new wr #[.string (s.extract f j)] _) (HB.out.alloc HB.out.size _) (by have := HB.out.size; simp; omega) (by have h9 := HLen.out; have h8 := HF.out; omega) ?_; intro v1 w9 hown1 hb9 hgb9 _)))
          go_roundg (gk - 1)
          case measure => have := HJ.out; have := HF.out; omega
          case rel =>
            refine ⟨j + 1, by have := HJ.out; have := HF.out; omega, by go_num, hb9, .inl ⟨by have := HLT.out; omega, j + 1, Nat.le_refl _, by go_num, ?_, ?_⟩⟩
            · rw [HS2.out, Nat.sub_self, List.take_zero]
            · rw [HS2.out]
              unfold RowStr
              rw [List.map_append, List.length_append]
              show w9.ownsRow _ _ 1 v1 (E.length + 1) (E.map strV ++ [strV ((stS (l.take j)).2)])
              rw [show strV ((stS (l.take j)).2) = Value.string (s.extract f j) by unfold strV; rw [HXV.out]]
              exact hown1
        · have e32 : ¬ (b.toNat : Int) = 32 := by
            intro e
            apply h32
            have : b.toNat = (32 : UInt8).toNat := by show _ = 32; omega
            exact UInt8.toNat_inj.1 this
          have HS2 := Lib.hid (HSN.out.trans (show stStep (stS (l.take j)) b = ((stS (l.take j)).1, (stS (l.take j)).2 ++ [b]) by unfold stStep; rw [if_neg h32]))
          obtain ⟨c, hc⟩ : ∃ c : Int, (b.toNat : Int) = c := ⟨_, rfl⟩
          rw [hc] at hget e32
          have e32' : (c == 32) = false := by simpa using e32
          clear h32 hc HSN
          go_wp2
          go_roundg (gk - 1)
          case measure => have := HJ.out; have := HF.out; omega
          case rel =>
            refine ⟨j + 1, by have := HJ.out; have := HF.out; omega, by go_num, HB.out, .inl ⟨by have := HLT.out; omega, f, by have := HF.out; omega, rfl, ?_, ?_⟩⟩
            · rw [HS2.out, HX.out, show j + 1 - f = (j - f) + 1 by have := HF.out; omega, List.take_add_one, List.getElem?_drop, show f + (j - f) = j by have := HF.out; omega]
              rw [List.getElem?_eq_getElem (by rw [HLN.out]; exact HLT.out)]
              have := HBB.out
              rw [List.getD_eq_getElem?_getD, List.getElem?_eq_getElem (by rw [HLN.out]; exact HLT.out)] at this
              rw [← this]
              rfl
            · rw [HS2.out]
              exact HR.out
      · have hjn : j = s.size := by omega
        subst hjn
        have HSP := Lib.hid (stS_spl l)
        have htk : l.take s.size = l := List.take_of_length_le (by rw [HLN.out]; omega)
        rw [htk] at HXV HX HR HLen ⊢
        obtain ⟨E, hE⟩ : ∃ E, (stS l).1 = E := ⟨_, rfl⟩
        rw [hE] at HR HLen HSP ⊢
        clear hE htk hge hjs
        go_wp2_with (first
          | (at_builtin; go_loud (refine app2 (w0 := W1) (W := wr.alloc _) W1.heap.size rfl _ _ 41 9 (.string ⟨#[]⟩) 1 16 rfl Tryd.underlying41 infoStr rfl (by decide) (by decide) (.slice A4 E.length c4) E.length (E.map strV) [.string (s.extract f s.size)] ⟨wr.heap.size, 0, none⟩ 1 1 rfl rfl rfl (by intro u hu; simp at hu; subst hu; rfl) (World.ownsRow.alloc HR.out _) (RdL.new wr #[.string (s.extract f s.size)] _) (HB.out.alloc HB.out.size _) (by have := HB.out.size; simp; omega) (by have h9 := HLen.out; have h8 := HF.out; omega) ?_; intro v1 w9 hown1 hb9 hgb9 _)))
        go_roundg (gk - 1)
        case measure => have := HJ.out; have := HF.out; omega
        case rel =>
          refine ⟨s.size + 1, by have := HJ.out; have := HF.out; omega, by go_num, hb9, .inr ⟨rfl, ?_⟩⟩
          rw [← HSP.out]
          unfold RowStr
          rw [List.map_append, List.length_append]
          show w9.ownsRow _ _ 1 v1 (E.length + 1) (E.map strV ++ [strV ((stS l).2)])
          rw [show strV ((stS l).2) = Value.string (s.extract f s.size) by unfold strV; rw [HXV.out]]
          exact hown1
    · have i1 : ¬ (j : Int) ≤ s.size := by omega
      have HR := Lib.hid hR
      obtain ⟨A4, c4, rfl⟩ := rowStr_form hR
      go_upto_region 9 with fail
      have hne : (spl l).length ≠ 0 := fun e => spl_ne l (List.length_eq_zero_iff.1 e)
      rcases hR.2 with ⟨hv, h0⟩ | ⟨g, cap, cur, hv, hB, hg, hcap, _⟩
      · exact absurd h0 hne
      · cases hv
        have HPC := Lib.hid (show ∀ q, q < (spl l).length → wr.cell? ⟨g, q, none⟩ = some (.string ((pcs s).getD q ByteArray.empty)) from fun q hq => by
          obtain ⟨ad, e1, hc⟩ := RdL.own HR.out q (.string ((pcs s).getD q ByteArray.empty)) (by
            rw [List.getElem?_map, pcs_spl, HLL.out, List.getD_eq_getElem?_getD, List.getElem?_map, List.getElem?_eq_getElem hq]
            rfl)
          cases e1
          rw [add_plain, Nat.zero_add] at hc
          exact hc)
        have HPL := Lib.hid (show (pcs s).length = (spl l).length by rw [pcs_spl, HLL.out, List.length_map])
        have HNL := Lib.hid (show 0 < (spl l).length ∧ (spl l).length ≤ s.size + 1 by
          have h1 := stS_len l l.length
          have h2 := stS_spl l
          rw [List.take_length] at h1
          rw [← h2, List.length_append, List.length_singleton]
          have := HLN.out
          omega)
        have hgl : g < wr.heap.size := (Array.getElem?_eq_some_iff.1 hg).1
        have HGK := Lib.hid (show g < wr.heap.size ∧ kx < g ∧ kx < wr.heap.size by have := HW1.out; omega)
        obtain ⟨m, hm⟩ : ∃ m, (spl l).length = m := ⟨_, rfl⟩
        rw [hm] at HPC HPL HNL hcap ⊢
        have HB1 := Lib.hid (below_then (show Below w.heap.size w W1 from B1.out) B1.out.size HB.out)
        have HK4 := Lib.hid (K1.out.below HB.out K1.out.lt)
        have hm1 : (m : Int) ≤ 100001 := by have := HNL.out; have := HS.out; omega
        have hm0 : (0 : Int) < m := by have := HNL.out; omega
        have hmc : (m : Int) ≤ c4 := by omega
        clear hR hjs hB hg hm hne HR HB HJ hcap i1
        obtain ⟨p0, hp0⟩ : ∃ p0, (pcs s).getD 0 ByteArray.empty = p0 := ⟨_, rfl⟩
        have HP0 := Lib.hid hp0
        clear hp0
        go_wp2_with fail
        generalize wr = w4 at *
        go_loopg [7] 30 (fun gk v7 wr => ∃ o : Nat, o + gk = 30 ∧ v7 = .int .i64 o ∧ Below w4.heap.size w4 wr ∧ ∀ q : Nat, q < o → nameS (q : Int) = p0 → textS (q : Int) (nR s q 0) (nR s q 1) (nR s q 2) ≠ s)
        case atStart => exact ⟨0, rfl, rfl, Below.refl _ _, fun q hq => absurd hq (Nat.not_lt_zero _)⟩
        case round =>
          obtain ⟨o, ho, rfl, hb, hq⟩ := hrel
          have HO := Lib.hid ho
          have HQ := Lib.hid hq
          have HB := Lib.hid hb
          clear ho hq hb
          rcases Nat.lt_or_ge o 30 with hlt | hge
          · have i1 : (o : Int) ≤ 29 := by omega
            have c0 : wr.cell? ⟨g, 0, none⟩ = some (.string p0) := by rw [← HP0.out]; exact (HB.out.cell (p := ⟨g, 0, none⟩) HGK.out.1).trans (HPC.out 0 HNL.out.1)
            have lq : g < wr.heap.size := Nat.lt_of_lt_of_le HGK.out.1 HB.out.size
            have HLT := Lib.hid hlt
            have oin : inI (o : Int) := ⟨by omega, by omega⟩
            have GN := Lib.hid (fun W => rname_any (o : Int) W oin)
            have HON := Lib.hid oin
            obtain ⟨no, hno⟩ : ∃ no, nameS (o : Int) = no := ⟨_, rfl⟩
            rw [hno] at GN
            have HNO := Lib.hid hno
            clear hlt oin hno
            by_cases hq0 : no = p0
            · have hbq : (no.toList == p0.toList) = true := (Lib.bytes_beq_iff _ _).2 hq0
              go_upto_region 12 with fail
              refine wp_region_quiet_lit (by kernel_rfl) (by kernel_rfl) ?_
              repeat (go_big_quiet_step ((with_reducible exact Calls.quiet_of_same ((GN.out _).mono fun e w' ⟨h1, h2⟩ => ⟨h1, h2.symm⟩))))
              refine wpQuiet_nil ?_
              intro _ hw'
              obtain ⟨nq, hw''⟩ := hw'
              subst hw''
              have HBD := Lib.hid (below_drewN HB.out nq)
              clear HB c0 lq
              generalize wr.drewN nq = w5 at *
              have GK := Lib.hid (fun W => rkinds_any (o : Int) W HON.out)
              go_wp2_with fail
              refine (GK.out _).mono ?_
              rintro e w6 ⟨rfl, rfl⟩
              go_wp2_with fail
              obtain ⟨W6, hW6⟩ : ∃ W6, w5.alloc (.cells #[.int .i64 0, .int .i64 0, .int .i64 0] 3) = W6 := ⟨_, rfl⟩
              have HK6 := Lib.hid (show Blk W6 w5.heap.size (arr3 (tkR (o : Int) ((pcs s).drop 1) 0).2) 3 by rw [← hW6]; exact Blk.new _ _ _)
              have b6 : Below w5.heap.size w5 W6 := by rw [← hW6]; go_grown
              have HB6 := Lib.hid (below_then HBD.out HBD.out.size b6)
              have HKN := Lib.hid (show w4.heap.size ≤ w5.heap.size from HBD.out.size)
              rw [hW6]
              clear hW6 b6 GK
              obtain ⟨kn, hkn⟩ : ∃ kn, w5.heap.size = kn := ⟨_, rfl⟩
              rw [hkn] at HK6 HKN ⊢
              clear hkn HBD
              have HGN := Lib.hid (show g ≠ kn ∧ kx ≠ kn ∧ g < W6.heap.size ∧ kx < W6.heap.size by have h1 := HGK.out; have h2 := HKN.out; have h3 := HB6.out.size; omega)
              have HOP := Lib.hid (show 0 ≤ (o : Int) ∧ (o : Int) ≤ 29 by have := HLT.out; omega)
              have hks : (kndS (o : Int)).size = 3 := by have := knd_len (o : Int); rw [if_pos HOP.out] at this; show (List.toArray _).size = 3; rw [List.size_toArray, this]
              have HKS := Lib.hid hks
              have HRL := Lib.hid (show ((pcs s).drop 1).length = m - 1 by rw [List.length_drop, HPL.out])
              clear hks
              generalize gk = gq at *
              go_loopg [9, 11] 3 (fun gk v9 v11 wr => ∃ j : Nat, j + gk = 3 ∧ v11 = .int .i64 j ∧ v9 = .int .i64 ((1 + (tkR (o : Int) ((pcs s).drop 1) j).1 : Nat) : Int) ∧ Blk wr kn (arr3 (tkR (o : Int) ((pcs s).drop 1) j).2) 3 ∧ Gr kn W6 wr)
              case atStart => exact ⟨0, rfl, rfl, rfl, HK6.out, Gr.refl _ _⟩
              case round =>
                obtain ⟨j, hj, rfl, rfl, hK, hG⟩ := hrel
                have HJ3 := Lib.hid hj
                have HK3 := Lib.hid hK
                have HG3 := Lib.hid hG
                clear hj hK hG
                rcases Nat.lt_or_ge j 3 with hlt | hge
                · have HL3 := Lib.hid hlt
                  have hget := knd_get (o : Int) j
                  have hkin := kc_in HOP.out j hlt
                  have hj1 : j < (kndS (o : Int)).size := by rw [HKS.out]; exact hlt
                  have hsz : ((kndS (o : Int)).size : Int) = 3 := by rw [HKS.out]; rfl
                  have i3 : (j : Int) < 3 := by omega
                  have HTK := Lib.hid (show tkR (o : Int) ((pcs s).drop 1) (j + 1) = _ from rfl)
                  have HTL := Lib.hid (tkR_len (o : Int) ((pcs s).drop 1) j)
                  have htle := tkR_le (o : Int) ((pcs s).drop 1) j
                  rw [HRL.out] at htle
                  have hcj : wr.cell? ⟨kn, j, none⟩ = some (.int .i64 ((tkR (o : Int) ((pcs s).drop 1) j).2.getD j 0)) := by
                    rw [HK3.out.cell j]
                    match j, hlt with
                    | 0, _ => rfl
                    | 1, _ => rfl
                    | 2, _ => rfl
                  have fK := HK3.out.frozen
                  have lK := HK3.out.lt
                  generalize (tkR (o : Int) ((pcs s).drop 1) j).2.getD j 0 = xj at *
                  obtain ⟨t, ht⟩ : ∃ t, (tkR (o : Int) ((pcs s).drop 1) j).1 = t := ⟨_, rfl⟩
                  obtain ⟨c, hc⟩ : ∃ c, kc (o : Int) j = c := ⟨_, rfl⟩
                  rw [ht] at htle ⊢
                  rw [hc] at hget hkin
                  have htm : (t : Int) ≤ 100001 := by have := HNL.out; have := HS.out; omega
                  obtain ⟨t1, ht1⟩ : ∃ t1, 1 + t = t1 := ⟨_, rfl⟩
                  rw [ht1]
                  have HT1 := Lib.hid ht1
                  by_cases hn : isN c = true
                  · by_cases htl : t < m - 1
                    · have g1 : (t1 : Int) < m := by omega
                      have g2 : t1 < m := by omega
                      have hcell : wr.cell? ⟨g, t1, none⟩ = some (.string ((pcs s).getD t1 ByteArray.empty)) := by
                        rw [HG3.out.cell HGN.out.2.2.1 HGN.out.1]
                        exact (HB6.out.cell (p := ⟨g, t1, none⟩) HGK.out.1).trans (HPC.out t1 g2)
                      have lg : g < wr.heap.size := Nat.lt_of_lt_of_le HGN.out.2.2.1 HG3.out.size
                      obtain ⟨pz, hpz⟩ : ∃ pz, (pcs s).getD t1 ByteArray.empty = pz := ⟨_, rfl⟩
                      have HPSZ := Lib.hid (show pz.size ≤ 100000 by
                        rw [← hpz, List.getD_eq_getElem?_getD, List.getElem?_eq_getElem (by rw [HPL.out]; exact g2 : t1 < (pcs s).length)]
                        exact Nat.le_trans (pcs_size s _ (List.getElem_mem _)) HS.out)
                      have HT := Lib.hid (show tkR (o : Int) ((pcs s).drop 1) (j + 1) = (t + 1, (tkR (o : Int) ((pcs s).drop 1) j).2 ++ [numR pz.data.toList]) by
                        rw [tkR, hc, hn, Bool.true_and, ht, if_pos (by rw [decide_eq_true_eq, HRL.out]; exact htl)]
                        congr 3
                        rw [← hpz, ← ht1, List.getD_eq_getElem?_getD, List.getD_eq_getElem?_getD, List.getElem?_drop])
                      rw [hpz] at hcell
                      have hc3 : c = 114 ∨ c = 105 ∨ c = 119 := by unfold isN at hn; rw [decide_eq_true_eq] at hn; exact hn
                      clear hn hpz hc ht ht1 htle htl hlt hkin HTK
                      rcases hc3 with h | h | h
                      · (subst h; go_wp2_with fail; refine (number_any pz wr HPSZ.out).mono ?_; rintro e w9 ⟨rfl, rfl⟩; go_wp2; go_roundg (gk - 1); (case measure => have := HJ3.out; have := HL3.out; omega); (case rel => exact ⟨j + 1, by have := HJ3.out; have := HL3.out; omega, by go_num, by rw [HT.out]; have := HT1.out; show _ = Value.int .i64 ((1 + (t + 1) : Nat) : Int); go_num, by rw [HT.out, ← arr3_set _ j HL3.out HTL.out]; exact HK3.out.set j _, HG3.out.set j _⟩))
                      · (subst h; go_wp2_with fail; refine (number_any pz wr HPSZ.out).mono ?_; rintro e w9 ⟨rfl, rfl⟩; go_wp2; go_roundg (gk - 1); (case measure => have := HJ3.out; have := HL3.out; omega); (case rel => exact ⟨j + 1, by have := HJ3.out; have := HL3.out; omega, by go_num, by rw [HT.out]; have := HT1.out; show _ = Value.int .i64 ((1 + (t + 1) : Nat) : Int); go_num, by rw [HT.out, ← arr3_set _ j HL3.out HTL.out]; exact HK3.out.set j _, HG3.out.set j _⟩))
                      · (subst h; go_wp2_with fail; refine (number_any pz wr HPSZ.out).mono ?_; rintro e w9 ⟨rfl, rfl⟩; go_wp2; go_roundg (gk - 1); (case measure => have := HJ3.out; have := HL3.out; omega); (case rel => exact ⟨j + 1, by have := HJ3.out; have := HL3.out; omega, by go_num, by rw [HT.out]; have := HT1.out; show _ = Value.int .i64 ((1 + (t + 1) : Nat) : Int); go_num, by rw [HT.out, ← arr3_set _ j HL3.out HTL.out]; exact HK3.out.set j _, HG3.out.set j _⟩))
                    · have g1 : ¬ (t1 : Int) < m := by omega
                      have HT := Lib.hid (show tkR (o : Int) ((pcs s).drop 1) (j + 1) = (t, (tkR (o : Int) ((pcs s).drop 1) j).2 ++ [0]) by
                        rw [tkR, hc, hn, Bool.true_and, ht, if_neg (by rw [decide_eq_true_eq, HRL.out]; exact htl)])
                      have hc3 : c = 114 ∨ c = 105 ∨ c = 119 := by unfold isN at hn; rw [decide_eq_true_eq] at hn; exact hn
                      have HX1 := Lib.hid ht1
                      clear hn hc ht ht1 htle htl hlt hkin HTK
                      rcases hc3 with h | h | h
                      · (subst h; go_wp2; go_roundg (gk - 1); (case measure => have := HJ3.out; have := HL3.out; omega); (case rel => exact ⟨j + 1, by have := HJ3.out; have := HL3.out; omega, by go_num, by rw [HT.out]; have := HT1.out; show _ = Value.int .i64 ((1 + t : Nat) : Int); go_num, by rw [HT.out]; show Blk _ kn (arr3 (_ ++ [0])) _; rw [arr3_zero]; exact HK3.out, HG3.out⟩))
                      · (subst h; go_wp2; go_roundg (gk - 1); (case measure => have := HJ3.out; have := HL3.out; omega); (case rel => exact ⟨j + 1, by have := HJ3.out; have := HL3.out; omega, by go_num, by rw [HT.out]; have := HT1.out; show _ = Value.int .i64 ((1 + t : Nat) : Int); go_num, by rw [HT.out]; show Blk _ kn (arr3 (_ ++ [0])) _; rw [arr3_zero]; exact HK3.out, HG3.out⟩))
                      · (subst h; go_wp2; go_roundg (gk - 1); (case measure => have := HJ3.out; have := HL3.out; omega); (case rel => exact ⟨j + 1, by have := HJ3.out; have := HL3.out; omega, by go_num, by rw [HT.out]; have := HT1.out; show _ = Value.int .i64 ((1 + t : Nat) : Int); go_num, by rw [HT.out]; show Blk _ kn (arr3 (_ ++ [0])) _; rw [arr3_zero]; exact HK3.out, HG3.out⟩))
                  · have HT := Lib.hid (show tkR (o : Int) ((pcs s).drop 1) (j + 1) = (t, (tkR (o : Int) ((pcs s).drop 1) j).2 ++ [0]) by
                      rw [tkR, hc, show isN c = false by simpa using hn, Bool.false_and, ht, if_neg (by decide)])
                    have hc3 : ¬ c = 114 ∧ ¬ c = 105 ∧ ¬ c = 119 := by
                      unfold isN at hn
                      rw [decide_eq_true_eq] at hn
                      exact ⟨fun e => hn (by simp [e]), fun e => hn (by simp [e]), fun e => hn (by simp [e])⟩
                    obtain ⟨h1, h2, h3⟩ := hc3
                    have q1 : (c == 114) = false := by simpa using h1
                    have q2 : (c == 105) = false := by simpa using h2
                    have q3 : (c == 119) = false := by simpa using h3
                    clear hn hc ht ht1 htle hlt hkin HTK
                    (skip; go_wp2; go_roundg (gk - 1); (case measure => have := HJ3.out; have := HL3.out; omega); (case rel => exact ⟨j + 1, by have := HJ3.out; have := HL3.out; omega, by go_num, by rw [HT.out]; have := HT1.out; show _ = Value.int .i64 ((1 + t : Nat) : Int); go_num, by rw [HT.out]; show Blk _ kn (arr3 (_ ++ [0])) _; rw [arr3_zero]; exact HK3.out, HG3.out⟩))
                · have hj3 : j = 3 := by have := HJ3.out; omega
                  have i3 : ¬ (j : Int) < 3 := by omega
                  have HX := Lib.hid (show Blk wr kn #[.int .i64 (nR s (o : Int) 0), .int .i64 (nR s (o : Int) 1), .int .i64 (nR s (o : Int) 2)] 3 from by have := HK3.out; rw [hj3] at this; exact this)
                  have BW := Lib.hid (HG3.out.below HB6.out HB6.out.size HKN.out)
                  have KX := Lib.hid (HK4.out.below BW.out HK4.out.lt)
                  have BA := Lib.hid (below_then HB1.out HB1.out.size BW.out)
                  have HHIT := Lib.hid (fun (ht : textS (o : Int) (nR s (o : Int) 0) (nR s (o : Int) 1) (nR s (o : Int) 2) = s) => ref_hit HLT.out (HNO.out.trans (hq0.trans HP0.out.symm)) ht)
                  have HQ2 := Lib.hid (show textS (o : Int) (nR s (o : Int) 0) (nR s (o : Int) 1) (nR s (o : Int) 2) ≠ s → ∀ q : Nat, q < o + 1 → nameS (q : Int) = p0 → textS (q : Int) (nR s q 0) (nR s q 1) (nR s q 2) ≠ s from fun hne q hq hn => by
                    rcases Nat.lt_or_ge q o with h | h
                    · exact HQ.out q h hn
                    · have e : q = o := by omega
                      subst e
                      exact hne)
                  have h0 := nR_in s (o : Int) 0
                  have h1 := nR_in s (o : Int) 1
                  have h2 := nR_in s (o : Int) 2
                  clear hge hj3 HK3 HG3 HRL HKS HJ3 HQ
                  generalize nR s (o : Int) 0 = n0 at *
                  generalize nR s (o : Int) 1 = n1 at *
                  generalize nR s (o : Int) 2 = n2 at *
                  have HNN := Lib.hid (And.intro h0 (And.intro h1 h2))
                  clear h0 h1 h2
                  go_upto_region 22 with fail
                  refine wp_flow_lit 12 (fun w' => Blk w' kn #[.int .i64 n0, .int .i64 n1, .int .i64 n2] 3 ∧ Below wr.heap.size wr w') [none, none, none, none, none, none, none, none, none, none, none, some (NewIns wr.heap.size)] (by kernel_rfl) (by kernel_rfl)
                    ⟨HX.out.drew, (Below.drew (Below.refl _ _))⟩ (fun w1 w2 h hb => ⟨h.1.below hb h.1.lt, below_then h.2 h.2.size hb⟩) ⟨newIns_stab _, trivial⟩ ?_
                  (try simp (config := { maxSteps := 10000000 }) only [specV, addF, Act.put, List.setIfInBounds_toArray, List.set_cons_zero, List.set_cons_succ, List.take_succ_cons, List.take_zero, List.drop_succ_cons, List.drop_zero])
                  (apply Exists.intro; refine ⟨fun vs w1 hS hB hf => ?_, ?_⟩; (focus (clear hS hB hf; go_simp; first | exact ⟨Below.refl _ _, rfl⟩ | exact rfl)); (try simp (config := { maxSteps := 10000000 }) only [specV, addF, Act.put, List.setIfInBounds_toArray, List.set_cons_zero, List.set_cons_succ, List.take_succ_cons, List.take_zero, List.drop_succ_cons, List.drop_zero]))
                  (apply Exists.intro; refine ⟨fun vs w1 hS hB hf => ?_, ?_⟩; (focus (clear hS hB hf; go_simp; first | exact ⟨Below.refl _ _, rfl⟩ | exact rfl)); (try simp (config := { maxSteps := 10000000 }) only [specV, addF, Act.put, List.setIfInBounds_toArray, List.set_cons_zero, List.set_cons_succ, List.take_succ_cons, List.take_zero, List.drop_succ_cons, List.drop_zero]))
                  (apply Exists.intro; refine ⟨fun vs w1 hS hB hf => ?_, ?_⟩; (focus (clear hS hB hf; go_simp; first | exact ⟨Below.refl _ _, rfl⟩ | exact rfl)); (try simp (config := { maxSteps := 10000000 }) only [specV, addF, Act.put, List.setIfInBounds_toArray, List.set_cons_zero, List.set_cons_succ, List.take_succ_cons, List.take_zero, List.drop_succ_cons, List.drop_zero]))
                  (apply Exists.intro; refine ⟨fun vs w1 hS hB hf => ?_, ?_⟩; (focus (have M1 := hS.1.cell; have m1 := hS.1.lt; clear hS hB hf; go_simp; first | exact ⟨Below.refl _ _, rfl⟩ | exact rfl)); (try simp (config := { maxSteps := 10000000 }) only [specV, addF, Act.put, List.setIfInBounds_toArray, List.set_cons_zero, List.set_cons_succ, List.take_succ_cons, List.take_zero, List.drop_succ_cons, List.drop_zero]))
                  (apply Exists.intro; refine ⟨fun vs w1 hS hB hf => ?_, ?_⟩; (focus (clear hS hB hf; go_simp; first | exact ⟨Below.refl _ _, rfl⟩ | exact rfl)); (try simp (config := { maxSteps := 10000000 }) only [specV, addF, Act.put, List.setIfInBounds_toArray, List.set_cons_zero, List.set_cons_succ, List.take_succ_cons, List.take_zero, List.drop_succ_cons, List.drop_zero]))
                  (apply Exists.intro; refine ⟨fun vs w1 hS hB hf => ?_, ?_⟩; (focus (clear hS hB hf; go_simp; first | exact ⟨Below.refl _ _, rfl⟩ | exact rfl)); (try simp (config := { maxSteps := 10000000 }) only [specV, addF, Act.put, List.setIfInBounds_toArray, List.set_cons_zero, List.set_cons_succ, List.take_succ_cons, List.take_zero, List.drop_succ_cons, List.drop_zero]))
                  (apply Exists.intro; refine ⟨fun vs w1 hS hB hf => ?_, ?_⟩; (focus (have M1 := hS.1.cell; have m1 := hS.1.lt; clear hS hB hf; go_simp; first | exact ⟨Below.refl _ _, rfl⟩ | exact rfl)); (try simp (config := { maxSteps := 10000000 }) only [specV, addF, Act.put, List.setIfInBounds_toArray, List.set_cons_zero, List.set_cons_succ, List.take_succ_cons, List.take_zero, List.drop_succ_cons, List.drop_zero]))
                  (apply Exists.intro; refine ⟨fun vs w1 hS hB hf => ?_, ?_⟩; (focus (clear hS hB hf; go_simp; first | exact ⟨Below.refl _ _, rfl⟩ | exact rfl)); (try simp (config := { maxSteps := 10000000 }) only [specV, addF, Act.put, List.setIfInBounds_toArray, List.set_cons_zero, List.set_cons_succ, List.take_succ_cons, List.take_zero, List.drop_succ_cons, List.drop_zero]))
                  (apply Exists.intro; refine ⟨fun vs w1 hS hB hf => ?_, ?_⟩; (focus (clear hS hB hf; go_simp; first | exact ⟨Below.refl _ _, rfl⟩ | exact rfl)); (try simp (config := { maxSteps := 10000000 }) only [specV, addF, Act.put, List.setIfInBounds_toArray, List.set_cons_zero, List.set_cons_succ, List.take_succ_cons, List.take_zero, List.drop_succ_cons, List.drop_zero]))
                  (apply Exists.intro; refine ⟨fun vs w1 hS hB hf => ?_, ?_⟩; (focus (have M1 := hS.1.cell; have m1 := hS.1.lt; clear hS hB hf; go_simp; first | exact ⟨Below.refl _ _, rfl⟩ | exact rfl)); (try simp (config := { maxSteps := 10000000 }) only [specV, addF, Act.put, List.setIfInBounds_toArray, List.set_cons_zero, List.set_cons_succ, List.take_succ_cons, List.take_zero, List.drop_succ_cons, List.drop_zero]))
                  (apply Exists.intro; refine ⟨fun vs w1 hS hB hf => ?_, ?_⟩; (focus (clear hS hB hf; go_simp; first | exact ⟨Below.refl _ _, rfl⟩ | exact rfl)); (try simp (config := { maxSteps := 10000000 }) only [specV, addF, Act.put, List.setIfInBounds_toArray, List.set_cons_zero, List.set_cons_succ, List.take_succ_cons, List.take_zero, List.drop_succ_cons, List.drop_zero]))
                  (refine ⟨fun vs w1 hS hB hf => ?_, ?_⟩; (focus (have hz := Below.size hS.2; go_simp; exact ⟨by go_grown, w1.heap.size, rfl, hz, Blk.new w1 _ _⟩)); (try simp (config := { maxSteps := 10000000 }) only [specV, addF, Act.put, List.setIfInBounds_toArray, List.set_cons_zero, List.set_cons_succ, List.take_succ_cons, List.take_zero, List.drop_succ_cons, List.drop_zero]))
                  intro vs w7 hS hB7 hfin
                  obtain ⟨⟨xb, hxb, hxB, X7⟩, _⟩ := hfin
                  have hxb' : vs 11 = .pointer (some ⟨xb, 0, none⟩) := hxb
                  have hB7' : Below wr.heap.size wr w7 := hB7
                  dsimp only
                  rw [hxb']
                  have HSB := Lib.hid hS.2
                  have X7h := Lib.hid X7
                  have KX7 := Lib.hid (KX.out.below hB7' KX.out.lt)
                  have BA7 := Lib.hid (below_then BA.out BA.out.size hB7')
                  have BW7 := Lib.hid (below_then BW.out BW.out.size hB7')
                  have HKXN := Lib.hid (show kx ≠ xb by have := KX.out.lt; omega)
                  have HXB := Lib.hid (show w4.heap.size ≤ xb by have := BW.out.size; omega)
                  have c7 := X7.cell
                  have f7 := X7.frozen
                  have l7 := X7.lt
                  clear hxb hxb' hB7 hB7' hS X7 HSB hxB
                  go_wp2_with fail
                  obtain ⟨W8, hW8⟩ : ∃ W8, (((w7.setCell ⟨xb, 0, none⟩ (.int .i64 (o : Int))).setCell ⟨xb, 1, none⟩ (.int .i64 n0)).setCell ⟨xb, 2, none⟩ (.int .i64 n1)).setCell ⟨xb, 3, none⟩ (.int .i64 n2) = W8 := ⟨_, rfl⟩
                  have X8 := Lib.hid (show Blk W8 xb #[.int .i64 ((o : Int)), .int .i64 (n0), .int .i64 (n1), .int .i64 (n2)] 23 by have h := (((X7h.out.set 0 (.int .i64 (o : Int))).set 1 (.int .i64 n0)).set 2 (.int .i64 n1)).set 3 (.int .i64 n2); rw [hW8] at h; exact h)
                  have KX8 := Lib.hid (show Blk W8 kx #[.int .i64 (0), .int .i64 (0), .int .i64 (0), .int .i64 (0)] 23 by rw [← hW8]; exact (((KX7.out.set_other (by have := HKXN.out; omega) _ _).set_other (by have := HKXN.out; omega) _ _).set_other (by have := HKXN.out; omega) _ _).set_other (by have := HKXN.out; omega) _ _)
                  have BA8 := Lib.hid (show Below w.heap.size w W8 by rw [← hW8]; have hle : w.heap.size ≤ xb := (by have h1 := HXB.out; have h2 := HB1.out.size; omega); exact (((BA7.out.setCell hle _).setCell hle _).setCell hle _).setCell hle _)
                  have BW8 := Lib.hid (show Below w4.heap.size w4 W8 by rw [← hW8]; exact (((BW7.out.setCell HXB.out _).setCell HXB.out _).setCell HXB.out _).setCell HXB.out _)
                  rw [hW8]
                  clear hW8 c7 f7 l7 X7h KX7 BA7 BW7
                  refine (rtext_any (o : Int) n0 n1 n2 W8 (HE.out.grow BA8.out) HON.out HNN.out.1 HNN.out.2.1 HNN.out.2.2).mono ?_
                  rintro e w10 ⟨rfl, b10⟩
                  have X10 := Lib.hid (X8.out.below b10 X8.out.lt)
                  have KX10 := Lib.hid (KX8.out.below b10 KX8.out.lt)
                  have BA10 := Lib.hid (below_then BA8.out BA8.out.size b10)
                  have BW10 := Lib.hid (below_then BW8.out BW8.out.size b10)
                  clear b10 X8 KX8 BA8 BW8
                  generalize textS (o : Int) n0 n1 n2 = tx at *
                  have c1 := X10.out.cell
                  have f1 := X10.out.frozen
                  have l1 := X10.out.lt
                  have c2 := KX10.out.cell
                  have f2 := KX10.out.frozen
                  have l2 := KX10.out.lt
                  have hne1 := HKXN.out
                  have hne2 : ¬ xb = kx := fun e => hne1 e.symm
                  by_cases hq : tx = s
                  · have hbq : (tx.toList == s.toList) = true := (Lib.bytes_beq_iff tx s).2 hq
                    have HPB2 := Lib.hid (HHIT.out hq)
                    clear hq
                    go_wp2
                    have hle : w.heap.size ≤ kx := Nat.le_of_eq HKX.out
                    exact bodyPost_ret (results_cell2 (cs := #[.int .i64 ((o : Int)), .int .i64 (n0), .int .i64 (n1), .int .i64 (n2)]) rfl (by have := (((KX10.out.set 0 (.int .i64 (o : Int))).set 1 (.int .i64 n0)).set 2 (.int .i64 n1)).set 3 (.int .i64 n2); exact this) Tryd.underlying23 rfl (by kernel_rfl) rfl) rfl
                      ⟨by rw [HPB2.out.1, HPB2.out.2]; rfl, (((BA10.out.setCell hle _).setCell hle _).setCell hle _).setCell hle _⟩
                  · have hbq : (tx.toList == s.toList) = false := (Lib.bytes_beq_false_iff tx s).2 hq
                    have HN2 := Lib.hid (HQ2.out hq)
                    clear hq
                    go_wp2
                    go_roundg (gq - 1)
                    case measure => have := HO.out; have := HLT.out; omega
                    case rel => exact ⟨o + 1, by have := HO.out; have := HLT.out; omega, by go_num, BW10.out, HN2.out⟩
            · have hbq : (no.toList == p0.toList) = false := (Lib.bytes_beq_false_iff _ _).2 hq0
              go_upto_region 12 with fail
              refine wp_region_quiet_lit (by kernel_rfl) (by kernel_rfl) ?_
              repeat (go_big_quiet_step ((with_reducible exact Calls.quiet_of_same ((GN.out _).mono fun e w' ⟨h1, h2⟩ => ⟨h1, h2.symm⟩))))
              refine wpQuiet_nil ?_
              intro _ hw'
              obtain ⟨nq, hw''⟩ := hw'
              subst hw''
              go_wp2
              go_roundg (gk - 1)
              case measure => have := HO.out; have := HLT.out; omega
              case rel => exact ⟨o + 1, by have := HO.out; have := HLT.out; omega, by go_num, below_drewN HB.out nq, fun q hq hn => by
                rcases Nat.lt_or_ge q o with h | h
                · exact HQ.out q h hn
                · have e : q = o := by omega
                  subst e
                  exact absurd (HNO.out.symm.trans hn) hq0⟩
          · have i1 : ¬ (o : Int) ≤ 29 := by omega
            have HPB := Lib.hid (ref_miss (s := s) fun q hq hn => HQ.out q (by omega) (by rw [hn, HP0.out]))
            have K5 := HK4.out.below HB.out HK4.out.lt
            have c5 := K5.cell
            have f5 := K5.frozen
            have l5 := K5.lt
            have K5h := Lib.hid K5
            have B5 := Lib.hid (below_then HB1.out HB1.out.size HB.out)
            clear K5 hge HQ
            go_wp2
            exact bodyPost_ret (results_cell2 (cs := #[.int .i64 (0), .int .i64 (0), .int .i64 (0), .int .i64 (0)]) rfl (by have := (((K5h.out.set 0 (.int .i64 0)).set 1 (.int .i64 0)).set 2 (.int .i64 0)).set 3 (.int .i64 0); exact this) Tryd.underlying23 rfl (by kernel_rfl) rfl) rfl
              ⟨by unfold parseV; rw [HPB.out]; rfl, (((B5.out.setCell (by have := HKX.out; show _ ≤ kx; omega) _).setCell (by have := HKX.out; show _ ≤ kx; omega) _).setCell (by have := HKX.out; show _ ≤ kx; omega) _).setCell (by have := HKX.out; show _ ≤ kx; omega) _⟩
end Go.Proofs.YtnmjglnllokklaaDoor
