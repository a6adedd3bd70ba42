/-
  AsmRead: for every instructions, every string and every byte the law returns true, and each argument reads as it did. Condition: none.
-/
import Derived.Test.YtnmjglnllokklaaDoorAsL
import Derived.Test.YtnmjglnllokklaaDoorAsY
import Derived.Test.YtnmjglnllokklaaDoorAsZ
set_option linter.unusedVariables false
set_option linter.unusedSimpArgs false
namespace Go.Proofs.YtnmjglnllokklaaDoor.AsmRead
open Go.RowKit Go.Proofs.YtnmjglnllokklaaDoor

theorem filter_take_succ {L : List I4} {j : Nat} {q : I4} (h : L[j]? = some q) : (L.take (j + 1)).filter right4 = if right4 q then (L.take j).filter right4 ++ [q] else (L.take j).filter right4 := by
  rw [List.take_add_one, h, Option.toList_some, List.filter_append, List.filter_cons, List.filter_nil]
  cases right4 q
  · exact List.append_nil _
  · rfl
theorem filter_len (L : List I4) (j : Nat) : ((L.take j).filter right4).length ≤ L.length := Nat.le_trans (List.length_filter_le _ _) (List.length_take_le' _ _)
theorem InsM.take {w : World} {A : Option Addr} {n c : Nat} {L : List I4} (h : InsM w (.slice A n c) L) {k : Nat} (hk : k ≤ L.length) : InsM w (.slice A k c) (L.take k) := by
  have hl : (L.take k).length = k := by rw [List.length_take]; omega
  refine ⟨by rw [hl]; have := h.1; omega, ?_⟩
  rcases h.2 with ⟨A', c', hv, rfl⟩ | ⟨b, o, c', hv, hc, h'⟩
  · cases hv
    have : k = 0 := by simpa using hk
    subst this
    exact .inl ⟨_, _, rfl, rfl⟩
  · cases hv
    refine .inr ⟨b, o, _, by rw [hl], by rw [hl]; omega, fun j q hj => h' j q ?_⟩
    rw [List.getElem?_take] at hj
    split at hj
    · exact hj
    · cases hj
theorem InsM.drop {w : World} {b o n c : Nat} {L : List I4} (h : InsM w (.slice (some ⟨b, o, none⟩) n c) L) {k : Nat} (hk : k ≤ L.length) (hc : n ≤ c) : InsM w (.slice (some ⟨b, o + k * 4, none⟩) (n - k) (c - k)) (L.drop k) := by
  have hn : n = L.length := by
    obtain ⟨A', c', hv⟩ := h.form
    cases hv
    rfl
  have hl : (L.drop k).length = n - k := by rw [List.length_drop, hn]
  refine ⟨by rw [hl]; have := h.1; omega, ?_⟩
  rcases h.2 with ⟨A', c', hv, rfl⟩ | ⟨b', o', c', hv, hc', h'⟩
  · cases hv
    have : k = 0 := by simpa using hk
    subst this
    exact .inl ⟨_, _, rfl, rfl⟩
  · cases hv
    refine .inr ⟨b, o + k * 4, _, by rw [hl], by rw [hl]; omega, fun j q hj => ?_⟩
    rw [List.getElem?_drop] at hj
    have := h' (k + j) q hj
    rwa [Nat.add_mul, ← Nat.add_assoc] at this
theorem InsM.dropIf {w : World} {b n c : Nat} {L : List I4} (h : InsM w (.slice (some ⟨b, 0, none⟩) n c) L) {k : Nat} (hk : k ≤ L.length) (hc : n ≤ c) : InsM w (.slice (if c = k then some ⟨b, 0, none⟩ else some ⟨b, k * 4, none⟩) (n - k) (c - k)) (L.drop k) := by
  by_cases he : c = k
  · rw [if_pos he]
    have hn : n = L.length := by
      obtain ⟨A', c', hv⟩ := h.form
      cases hv
      rfl
    have hd : L.drop k = [] := List.drop_of_length_le (by omega)
    rw [hd]
    exact ⟨Nat.zero_le _, .inl ⟨_, _, by rw [show n - k = 0 by omega], rfl⟩⟩
  · rw [if_neg he]
    have := InsM.drop h hk hc
    rwa [Nat.zero_add] at this
/-- What Read tells, without where. -/
def RdV (t : Nat) (N : Nat) (ok : Bool) : Value → World → Prop := fun u _ => ∃ A c, u = .tuple #[.slice A t c, .int .i64 (N : Int), .bool ok]
def SlV (n : Nat) : Value → World → Prop := fun u _ => ∃ A c, u = .slice A n c
theorem rdV_stab (t : Nat) (N : Nat) (ok : Bool) : ∀ v w w', RdV t N ok v w → Below w.heap.size w w' → RdV t N ok v w' := fun _ _ _ h _ => h
theorem read_v (s : ByteArray) (w : World) (h : Env w) (hs : s.size ≤ 90000) : Calls Tryd.prog 17 #[.string s] w fun e w' => ∃ u, e = .returned u ∧ Below w.heap.size w w' ∧ RdV (rdT (linesB s)).length (rdN (linesB s)) (rdOk (linesB s)) u w' :=
  (read_any s w h hs).mono fun e w' ⟨v, he, ho, hb⟩ => by
    obtain ⟨A, c, rfl⟩ := own_form ho
    exact ⟨_, he, hb, A, c, rfl⟩
theorem slV_stab (n : Nat) : ∀ v w w', SlV n v w → Below w.heap.size w w' → SlV n v w' := fun _ _ _ h _ => h

set_option maxRecDepth 100000 in
set_option maxHeartbeats 6400000 in
theorem walk (w : World) (v : Value) (L : List I4) (s : ByteArray) (a : Int) (hE : Env w) (hL : InsM w v L) (hs : s.size ≤ maxLen) (ha : (Lit.int .u8 a).wf = true) :
    Calls Tryd.prog 8 #[v, .string s, .int .u8 a] w fun e w' => e = .returned (.bool true) ∧ Below w.heap.size w w' := by
  have ha2 : 0 ≤ a ∧ a ≤ 255 := by simpa [Lit.wf, IntKind.min, IntKind.max, IntKind.signed, IntKind.bits] using ha
  have HAA := Lib.hid ha2
  obtain ⟨A, c, rfl⟩ := hL.form
  have HE := Lib.hid hE
  have HL := Lib.hid hL
  have hn2 : (L.length : Int) ≤ 9223372036854775807 := by have := hL.1; simp only [maxLen] at this; omega
  have hs2 : (s.size : Int) ≤ 9223372036854775807 := by simp only [maxLen] at hs; omega
  clear hE hL hs ha ha2
  obtain ⟨n, hn⟩ : ∃ n, L.length = n := ⟨_, rfl⟩
  rw [hn] at HL hn2 ⊢
  have Hn := Lib.hid hn
  clear hn
  go_enter Tryd.func8, Tryd.ntmps8
  go_wp2_with fail
  refine (Head.head_any w HE.out).mono ?_
  rintro e' w1 ⟨rfl, b1⟩
  have B1 := Lib.hid b1
  clear b1
  by_cases h2 : n ≤ 200
  · have h2' : ¬ 200 < (n : Int) := by omega
    have H2 := Lib.hid h2
    clear h2
    by_cases h3 : s.size ≤ 900
    · have h3' : ¬ 900 < (s.size : Int) := by omega
      have HS := Lib.hid (show s.size ≤ 900 by omega)
      clear h3
      go_wp2_with fail
      go_loopg [8, 9] n (fun gk v8 v9 wr => ∃ j : Nat, j + gk = n ∧ v9 = .int .i64 j ∧ Below w.heap.size w wr ∧ wr.ownsRow w.heap.size 23 4 v8 ((L.take j).filter right4).length (i4s ((L.take j).filter right4)))
      case atStart => exact ⟨0, by omega, rfl, B1.out, by rw [List.take_zero]; exact World.ownsRow_nil _ _ _ _⟩
      case round =>
        obtain ⟨j, hj, rfl, hb, hR⟩ := hrel
        have HJ := Lib.hid hj
        have HB := Lib.hid hb
        have HR := Lib.hid hR
        have HFL := Lib.hid (filter_len L j)
        obtain ⟨A8, c8, rfl⟩ := own_form hR
        clear hj hb hR
        rcases Nat.lt_or_ge j n with hlt | hge
        · have i1 : (j : Int) < n := by omega
          have hx := List.getElem?_eq_getElem (l := L) (i := j) (by rw [Hn.out]; exact hlt)
          generalize L[j]'(by rw [Hn.out]; exact hlt) = x at *
          have HX := Lib.hid (filter_take_succ hx)
          obtain ⟨F, hF⟩ : ∃ F, (L.take j).filter right4 = F := ⟨_, rfl⟩
          rw [hF] at HR HX HFL ⊢
          clear hF
          have HXX := Lib.hid hx
          obtain ⟨g1, o1, rfl, hc1, hi, gl1, c10, c11, c12, c13⟩ := ((HL.out.below HB.out).at hx)
          have GT := Lib.hid (fun W => rright_any x.1 x.2.1 x.2.2.1 x.2.2.2 W hi.1 hi.2.1 hi.2.2.1 hi.2.2.2)
          have HRX := Lib.hid (show rightI x.1 x.2.1 x.2.2.1 x.2.2.2 = right4 x from rfl)
          obtain ⟨x0, x1, x2, x3⟩ := x
          dsimp only at c10 c11 c12 c13 GT HRX
          have HLT := Lib.hid hlt
          have hc2 : (n : Int) ≤ c := by omega
          clear hlt hx hi hc1
          go_wp2_with fail
          have gt := GT.out wr
          clear GT
          rw [HRX.out] at gt
          cases hr : right4 (x0, x1, x2, x3) with
          | false =>
            rw [hr, if_neg (by decide)] at HX
            rw [hr] at gt
            refine gt.mono ?_
            clear gt hr
            rintro e' w4 ⟨rfl, b4⟩
            have HB4 := Lib.hid (below_then HB.out HB.out.size b4)
            have HR4 := Lib.hid (own_below HR.out b4)
            clear b4 HB HR
            go_wp2
            go_roundg (gk - 1)
            case measure => have := HJ.out; have := HLT.out; omega
            case rel =>
              refine ⟨j + 1, by have := HJ.out; have := HLT.out; omega, by go_num, HB4.out, ?_⟩
              rw [HX.out]
              exact HR4.out
          | true =>
            rw [hr, if_pos rfl] at HX
            rw [hr] at gt
            refine gt.mono ?_
            clear gt hr
            rintro e' w4 ⟨rfl, b4⟩
            have HB4 := Lib.hid (below_then HB.out HB.out.size b4)
            have HR4 := Lib.hid (own_below HR.out b4)
            clear b4 HB HR c10 c11 c12 c13 gl1
            obtain ⟨g1', o1', e1, _, _, gl1, c10, c11, c12, c13⟩ := ((HL.out.below HB4.out).at HXX.out)
            cases e1
            dsimp only at c10 c11 c12 c13
            go_wp2_with (first
              | (at_builtin; go_loud (refine app2 (w0 := w) (W := w4.alloc _) w.heap.size rfl _ _ 34 23 (.agg #[.int .i64 (0), .int .i64 (0), .int .i64 (0), .int .i64 (0)]) 4 32 rfl Tryd.underlying34 infoIns rfl (by decide) (by decide) (.slice A8 F.length c8) F.length (i4s F) (i4c (x0, x1, x2, x3)) ⟨w4.heap.size, 0, none⟩ 1 1 rfl rfl rfl (by intro u hu; simp [i4c] at hu; rcases hu with rfl | rfl | rfl | rfl <;> rfl) (World.ownsRow.alloc HR4.out _) (RdL.new w4 #[.int .i64 (x0), .int .i64 (x1), .int .i64 (x2), .int .i64 (x3)] _) (HB4.out.alloc HB4.out.size _) (by have := HB4.out.size; simp; omega) (by have h9 := HFL.out; have h8 := Hn.out; have h7 := H2.out; omega) ?_; intro v1 w9 hown1 hb9 hgb9 _)))
            go_roundg (gk - 1)
            case measure => have := HJ.out; have := HLT.out; omega
            case rel =>
              refine ⟨j + 1, by have := HJ.out; have := HLT.out; omega, by go_num, hb9, ?_⟩
              rw [HX.out, i4s_snoc, List.length_append]
              exact hown1
        · have i1 : ¬ (j : Int) < n := by omega
          have HZ := Lib.hid (show L.take j = L from List.take_of_length_le (by rw [Hn.out]; exact hge))
          rw [HZ.out] at HR HFL ⊢
          clear hge HZ
          have HRR := Lib.hid (show ∀ x ∈ L.filter right4, right4 x = true from fun x hx => (List.mem_filter.1 hx).2)
          have HLL := Lib.hid (read_lines L)
          have HIL := Lib.hid HL.out.all
          have HLB := Lib.hid (HL.out.below HB.out)
          have HRI := Lib.hid (show ∀ x ∈ L.filter right4, InI x from fun x hx => HIL.out x (List.mem_filter.1 hx).1)
          obtain ⟨R, hR⟩ : ∃ R, L.filter right4 = R := ⟨_, rfl⟩
          rw [hR] at HR HFL HRR HLL HRI ⊢
          clear hR
          have HLR := Lib.hid (show R.length ≤ 200 by have h9 := HFL.out; have h8 := Hn.out; have h7 := H2.out; omega)
          have HM := Lib.hid (InsM.own HR.out HRI.out (by have := HLR.out; simp only [maxLen]; omega))
          have hA8 := HR.out.2
          go_wp2_with fail
          refine (lines_any (.slice A n c) L wr (HE.out.grow HB.out) HLB.out (by rw [Hn.out]; exact H2.out)).mono ?_
          rintro e' w3 ⟨rfl, b3⟩
          have B3 := Lib.hid (below_then HB.out HB.out.size b3)
          have M3 := Lib.hid (HM.out.below b3)
          clear b3 HB HM HR HLB
          go_wp2_with fail
          have hsz : (⟨(lnS L).toArray⟩ : ByteArray).size ≤ 90000 := by
            have := lnS_len L HIL.out
            show (List.toArray _).size ≤ _
            rw [List.size_toArray]
            have h8 := Hn.out
            have h7 := H2.out
            omega
          have g := read_any ⟨(lnS L).toArray⟩ w3 (HE.out.grow B3.out) hsz
          rw [HLL.out.1, HLL.out.2.1, HLL.out.2.2] at g
          refine g.mono ?_
          clear g hsz
          rintro e' w4 ⟨va, rfl, ra, b4⟩
          have N4 := Lib.hid (InsM.own ra HRI.out (by have := HLR.out; simp only [maxLen]; omega))
          have B4 := Lib.hid (below_then B3.out B3.out.size b4)
          have M4 := Lib.hid (M3.out.below b4)
          obtain ⟨A1, c1, rfl⟩ := own_form ra
          clear b4 ra B3 M3 HLL
          go_wp2_with fail
          have g := rsame_any (.slice A1 R.length c1) (.slice A8 R.length c8) R R w4 N4.out M4.out (by have := HLR.out; omega)
          rw [show decide (R = R) = true by simp] at g
          refine g.mono ?_
          clear g
          rintro e' w5 ⟨rfl, k5, rfl⟩
          have B5 := Lib.hid (below_drewN B4.out k5)
          have M5 := Lib.hid (M4.out.drewN k5)
          clear B4 M4 N4
          generalize w4.drewN k5 = w5 at *
          go_wp2_with fail
          go_loopg [13] s.size (fun gk v13 wr => ∃ i : Nat, i + gk = s.size ∧ v13 = .int .i64 i ∧ wr = w5 ∧ ∀ q : Nat, q < i → s.data.toList[q]? ≠ some 10)
          case atStart => exact ⟨0, by omega, rfl, rfl, fun q hq => absurd hq (Nat.not_lt_zero _)⟩
          case round =>
            obtain ⟨i, hi, rfl, rfl, hq⟩ := hrel
            have HI2 := Lib.hid hi
            have HQ := Lib.hid hq
            clear hi hq
            rcases Nat.lt_or_ge i s.size with hlt | hge
            · have i4 : (i : Int) < s.size := by omega
              have hget := (fun h => congrArg (fun b : UInt8 => (b.toNat : Int)) (get_data s i h))
              try dsimp only at hget
              have HLT := Lib.hid hlt
              have hgd : s.data.toList[i]? = some (s.data.toList.getD i 0) := by
                have : i < s.data.toList.length := by rw [Array.length_toList]; exact hlt
                rw [List.getD_eq_getElem?_getD, List.getElem?_eq_getElem this]
                rfl
              obtain ⟨b, hb⟩ : ∃ b, s.data.toList.getD i 0 = b := ⟨_, rfl⟩
              rw [hb] at hget hgd
              clear hb hlt
              by_cases h10 : b = 10
              · have e10 : (b.toNat : Int) = 10 := by rw [h10]; rfl
                rw [e10] at hget
                clear h10 e10 hgd
                go_wp2
                go_ret
                exact ⟨rfl, B5.out⟩
              · have e10 : ¬ (b.toNat : Int) = 10 := by
                  intro e
                  apply h10
                  have : b.toNat = (10 : UInt8).toNat := by show _ = 10; omega
                  exact UInt8.toNat_inj.1 this
                have HN := Lib.hid (show s.data.toList[i]? ≠ some 10 by rw [hgd]; exact fun e => h10 (Option.some.inj e))
                obtain ⟨d, hd⟩ : ∃ d : Int, (b.toNat : Int) = d := ⟨_, rfl⟩
                rw [hd] at hget e10
                have e10' : (d == 10) = false := by simpa using e10
                clear h10 hd hgd
                go_wp2
                go_roundg (gk - 1)
                case measure => have := HI2.out; have := HLT.out; omega
                case rel => exact ⟨i + 1, by have := HI2.out; have := HLT.out; omega, by go_num, rfl, fun q hq => by
                  rcases Nat.lt_or_ge q i with h | h
                  · exact HQ.out q h
                  · have : q = i := by omega
                    rw [this]; exact HN.out⟩
            · have i4 : ¬ (i : Int) < s.size := by omega
              have HNO := Lib.hid (show ∀ b ∈ s.data.toList, b ≠ 10 from fun b hb e => by
                obtain ⟨q, hq⟩ := List.getElem?_of_mem hb
                have hl := (List.getElem?_eq_some_iff.1 hq).1
                rw [Array.length_toList] at hl
                have hl' : q < s.size := hl
                exact HQ.out q (by omega) (by rw [hq, e]))
              clear hge HQ
              go_wp2_with fail
              refine (parse_any s wr (HE.out.grow B5.out) (by have := HS.out; omega)).mono ?_
              obtain ⟨y, hy, _⟩ := parseV_form s
              rw [hy]
              obtain ⟨y0, y1, y2, y3⟩ := y
              dsimp only
              clear hy
              obtain ⟨pb, hpb⟩ : ∃ pb, parseB s = pb := ⟨_, rfl⟩
              have HPB := Lib.hid hpb
              rw [hpb]
              clear hpb
              rintro e' w6 ⟨rfl, b6⟩
              have B6 := Lib.hid (below_then B5.out B5.out.size b6)
              have M6 := Lib.hid (M5.out.below b6)
              clear b6 B5 M5
              have hsb : s.size ≤ 900 := HS.out
              have HLR2 := HLR.out
              have hrl : (R.length : Int) ≤ 200 := by omega
              have hrl0 : ¬ (R.length : Int) + 1 = 0 := by omega
              obtain ⟨a0, a1⟩ := HAA.out
              obtain ⟨k, hk⟩ : ∃ k : Nat, a.tmod ((R.length : Int) + 1) = k := ⟨(a.tmod ((R.length : Int) + 1)).toNat, by have := Int.tmod_nonneg ((R.length : Int) + 1) a0; omega⟩
              have hk1 : k ≤ R.length := by have := Int.tmod_lt_of_pos a (show (0 : Int) < (R.length : Int) + 1 by omega); omega
              have HK1 := Lib.hid hk1
              clear hk1
              go_upto_region 19 with fail
              obtain ⟨W7, hW7⟩ : ∃ W7, w6.alloc (.cells #[.int .i64 (y0), .int .i64 (y1), .int .i64 (y2), .int .i64 (y3)] 23) = W7 := ⟨_, rfl⟩
              have b7 : Below w6.heap.size w6 W7 := by rw [← hW7]; go_grown
              have B7 := Lib.hid (below_then B6.out B6.out.size b7)
              have M7 := Lib.hid (M6.out.below b7)
              rw [hW7]
              clear hW7 b7 B6 M6 i4
              have GL := Lib.hid (fun (W : World) (v : Value) (T : List I4) (hW : Env W) (hT : InsM W v T) (hl : T.length ≤ 200) => lines_any v T W hW hT hl)
              have hS1 : (⟨(lnS (R.take k)).toArray⟩ : ByteArray).size ≤ 40200 := by
                show (List.toArray _).size ≤ _
                rw [List.size_toArray]
                exact lnS_take_len HRI.out HLR.out k
              have hS2 : (⟨(lnS (R.drop k)).toArray⟩ : ByteArray).size ≤ 40200 := by
                show (List.toArray _).size ≤ _
                rw [List.size_toArray]
                have h1 := lnS_len (R.drop k) (fun x hx => HRI.out x (List.mem_of_mem_drop hx))
                rw [List.length_drop] at h1
                omega
              have HMID := Lib.hid (read_mid R HRR.out k HK1.out s.data.toList HNO.out)
              obtain ⟨S1, hS1e⟩ : ∃ S1 : ByteArray, ⟨(lnS (R.take k)).toArray⟩ = S1 := ⟨_, rfl⟩
              obtain ⟨S2, hS2e⟩ : ∃ S2 : ByteArray, ⟨(lnS (R.drop k)).toArray⟩ = S2 := ⟨_, rfl⟩
              have HME := Lib.hid (show (⟨(lnS (R.take k) ++ (s.data.toList ++ 10 :: lnS (R.drop k))).toArray⟩ : ByteArray) = S1 ++ s ++ ⟨#[10]⟩ ++ S2 by
                rw [← hS1e, ← hS2e]
                conv => rhs; rw [show s = ⟨s.data.toList.toArray⟩ from rfl]
                rw [show (⟨#[10]⟩ : ByteArray) = ⟨[10].toArray⟩ from rfl, ba_app, ba_app, ba_app]
                congr 2
                simp)
              rw [HME.out, show (⟨s.data.toList.toArray⟩ : ByteArray) = s from rfl, HPB.out] at HMID
              rw [hS1e] at hS1
              rw [hS2e] at hS2
              have hq1 : ¬ 9223372036854775807 < S1.size + s.size := by omega
              have hq2 : ¬ 9223372036854775807 < S1.size + s.size + 1 := by omega
              have hq3 : ¬ 9223372036854775807 < S1.size + s.size + 1 + S2.size := by omega
              have HS1e := Lib.hid hS1e
              have HS2e := Lib.hid hS2e
              have GRD := Lib.hid (fun (W : World) (hW : Env W) => read_v (S1 ++ s ++ ⟨#[10]⟩ ++ S2) W hW (by
                rw [ByteArray.size_append, ByteArray.size_append, ByteArray.size_append]
                show S1.size + s.size + 1 + S2.size ≤ 90000
                omega))
              have HT0 := Lib.hid (show pb = false → (rdT (linesB (S1 ++ s ++ ⟨#[10]⟩ ++ S2))).length = 0 from fun h => by
                unfold rdT
                rw [(HMID.out.2 h).1, if_neg (by decide)]
                rfl)
              obtain ⟨tl, htl⟩ : ∃ tl, (rdT (linesB (S1 ++ s ++ ⟨#[10]⟩ ++ S2))).length = tl := ⟨_, rfl⟩
              obtain ⟨rn, hrn⟩ : ∃ rn, rdN (linesB (S1 ++ s ++ ⟨#[10]⟩ ++ S2)) = rn := ⟨_, rfl⟩
              obtain ⟨rk, hrk⟩ : ∃ rk, rdOk (linesB (S1 ++ s ++ ⟨#[10]⟩ ++ S2)) = rk := ⟨_, rfl⟩
              rw [htl] at HT0
              rw [hrn, hrk] at HMID
              rw [htl, hrn, hrk] at GRD
              clear htl hrn hrk hS1e hS2e HPB
              have HA8 := Lib.hid hA8
              clear hA8
              rcases HA8.out with ⟨hv, h0⟩ | ⟨g, cap, cur, hv, _, _, hcap, _⟩
              · obtain rfl : R = [] := List.eq_nil_of_length_eq_zero h0
                cases hv
                obtain rfl : k = 0 := Nat.le_zero.1 HK1.out
                have hk' : a.tmod 1 = 0 := Int.tmod_one a
                have H1 := Lib.hid (show ∀ W, Env W → InsM W (.slice none 0 0) [] → Calls Tryd.prog 19 #[.slice none 0 0] W fun e w' => e = .returned (.string S1) ∧ Below W.heap.size W w' from fun W hW hM => by
                  rw [← HS1e.out]
                  exact GL.out W _ [] hW hM (Nat.zero_le _))
                have H2' := Lib.hid (show ∀ W, Env W → InsM W (.slice none 0 0) [] → Calls Tryd.prog 19 #[.slice none 0 0] W fun e w' => e = .returned (.string S2) ∧ Below W.heap.size W w' from fun W hW hM => by
                  rw [← HS2e.out]
                  exact GL.out W _ [] hW hM (Nat.zero_le _))
                clear hk h0
                go_upto_region 20 with fail
                (refine wp_flow_lit 19 (fun w' => Env w' ∧ InsM w' (.slice none 0 0) [] ∧ Below W7.heap.size W7 w') [none, none, none, none, none, none, none, none, none, none, none, none, some (RdV tl rn rk), some (RdV tl rn rk), some (SlV tl), none, none, some (SlV tl), none] (by kernel_rfl) (by kernel_rfl) ⟨(HE.out.grow B7.out).grow (Below.drew (Below.refl _ _)), M7.out.below (Below.drew (Below.refl _ _)), (Below.drew (Below.refl _ _))⟩ (fun w1 w2 h hb => ⟨h.1.grow hb, h.2.1.below hb, below_then h.2.2 h.2.2.size hb⟩) ⟨rdV_stab _ _ _, rdV_stab _ _ _, slV_stab _, slV_stab _, trivial⟩ ?_; (try simp (config := { maxSteps := 10000000 }) only [specV, addF, Act.put, List.setIfInBounds_toArray, List.set_cons_zero, List.set_cons_succ, List.take_succ_cons, List.take_zero, List.drop_succ_cons, List.drop_zero]); (apply Exists.intro; refine ⟨fun vs w1 hS hB hf => ?_, ?_⟩; (focus (clear hS hB hf; go_simp; first | exact ⟨Below.refl _ _, rfl⟩ | exact rfl)); (try simp (config := { maxSteps := 10000000 }) only [specV, addF, Act.put, List.setIfInBounds_toArray, List.set_cons_zero, List.set_cons_succ, List.take_succ_cons, List.take_zero, List.drop_succ_cons, List.drop_zero])); (apply Exists.intro; refine ⟨fun vs w1 hS hB hf => ?_, ?_⟩; (focus (clear hS hB hf; go_simp; first | exact ⟨Below.refl _ _, rfl⟩ | exact rfl)); (try simp (config := { maxSteps := 10000000 }) only [specV, addF, Act.put, List.setIfInBounds_toArray, List.set_cons_zero, List.set_cons_succ, List.take_succ_cons, List.take_zero, List.drop_succ_cons, List.drop_zero])); (apply Exists.intro; refine ⟨fun vs w1 hS hB hf => ?_, ?_⟩; (focus (clear hS hB hf; go_simp; first | exact ⟨Below.refl _ _, rfl⟩ | exact rfl)); (try simp (config := { maxSteps := 10000000 }) only [specV, addF, Act.put, List.setIfInBounds_toArray, List.set_cons_zero, List.set_cons_succ, List.take_succ_cons, List.take_zero, List.drop_succ_cons, List.drop_zero])); (apply Exists.intro; refine ⟨fun vs w1 hS hB hf => ?_, ?_⟩; (focus (go_simp; exact (H1.out _ hS.1 hS.2.1).mono fun e w2 ⟨he, hb⟩ => callPost.of he hb rfl)); (try simp (config := { maxSteps := 10000000 }) only [specV, addF, Act.put, List.setIfInBounds_toArray, List.set_cons_zero, List.set_cons_succ, List.take_succ_cons, List.take_zero, List.drop_succ_cons, List.drop_zero])); (apply Exists.intro; refine ⟨fun vs w1 hS hB hf => ?_, ?_⟩; (focus (clear hS hB hf; go_simp; first | exact ⟨Below.refl _ _, rfl⟩ | exact rfl)); (try simp (config := { maxSteps := 10000000 }) only [specV, addF, Act.put, List.setIfInBounds_toArray, List.set_cons_zero, List.set_cons_succ, List.take_succ_cons, List.take_zero, List.drop_succ_cons, List.drop_zero])); (apply Exists.intro; refine ⟨fun vs w1 hS hB hf => ?_, ?_⟩; (focus (clear hS hB hf; go_simp; first | exact ⟨Below.refl _ _, rfl⟩ | exact rfl)); (try simp (config := { maxSteps := 10000000 }) only [specV, addF, Act.put, List.setIfInBounds_toArray, List.set_cons_zero, List.set_cons_succ, List.take_succ_cons, List.take_zero, List.drop_succ_cons, List.drop_zero])); (apply Exists.intro; refine ⟨fun vs w1 hS hB hf => ?_, ?_⟩; (focus (clear hS hB hf; go_simp; first | exact ⟨Below.refl _ _, rfl⟩ | exact rfl)); (try simp (config := { maxSteps := 10000000 }) only [specV, addF, Act.put, List.setIfInBounds_toArray, List.set_cons_zero, List.set_cons_succ, List.take_succ_cons, List.take_zero, List.drop_succ_cons, List.drop_zero])); (apply Exists.intro; refine ⟨fun vs w1 hS hB hf => ?_, ?_⟩; (focus (clear hS hB hf; go_simp; first | exact ⟨Below.refl _ _, rfl⟩ | exact rfl)); (try simp (config := { maxSteps := 10000000 }) only [specV, addF, Act.put, List.setIfInBounds_toArray, List.set_cons_zero, List.set_cons_succ, List.take_succ_cons, List.take_zero, List.drop_succ_cons, List.drop_zero])); (apply Exists.intro; refine ⟨fun vs w1 hS hB hf => ?_, ?_⟩; (focus (clear hS hB hf; go_simp; first | exact ⟨Below.refl _ _, rfl⟩ | exact rfl)); (try simp (config := { maxSteps := 10000000 }) only [specV, addF, Act.put, List.setIfInBounds_toArray, List.set_cons_zero, List.set_cons_succ, List.take_succ_cons, List.take_zero, List.drop_succ_cons, List.drop_zero])); (apply Exists.intro; refine ⟨fun vs w1 hS hB hf => ?_, ?_⟩; (focus (clear hS hB hf; go_simp; first | exact ⟨Below.refl _ _, rfl⟩ | exact rfl)); (try simp (config := { maxSteps := 10000000 }) only [specV, addF, Act.put, List.setIfInBounds_toArray, List.set_cons_zero, List.set_cons_succ, List.take_succ_cons, List.take_zero, List.drop_succ_cons, List.drop_zero])); (apply Exists.intro; refine ⟨fun vs w1 hS hB hf => ?_, ?_⟩; (focus (go_simp; exact (H2'.out _ hS.1 hS.2.1).mono fun e w2 ⟨he, hb⟩ => callPost.of he hb rfl)); (try simp (config := { maxSteps := 10000000 }) only [specV, addF, Act.put, List.setIfInBounds_toArray, List.set_cons_zero, List.set_cons_succ, List.take_succ_cons, List.take_zero, List.drop_succ_cons, List.drop_zero])); (apply Exists.intro; refine ⟨fun vs w1 hS hB hf => ?_, ?_⟩; (focus (clear hS hB hf; go_simp; first | exact ⟨Below.refl _ _, rfl⟩ | exact rfl)); (try simp (config := { maxSteps := 10000000 }) only [specV, addF, Act.put, List.setIfInBounds_toArray, List.set_cons_zero, List.set_cons_succ, List.take_succ_cons, List.take_zero, List.drop_succ_cons, List.drop_zero])); (refine ⟨fun vs w1 hS hB hf => ?_, ?_⟩; (focus (go_simp; exact (GRD.out _ hS.1).mono fun e w2 ⟨u, he, hb, hr⟩ => callPost.of he hb hr)); (try simp (config := { maxSteps := 10000000 }) only [specV, addF, Act.put, List.setIfInBounds_toArray, List.set_cons_zero, List.set_cons_succ, List.take_succ_cons, List.take_zero, List.drop_succ_cons, List.drop_zero])); (refine ⟨fun vs w1 hS hB hf => ?_, ?_⟩; (focus (obtain ⟨hh, _⟩ := hf; obtain ⟨Ax, cx, hx⟩ := hh rfl; dsimp only; rw [hx]; clear hS hB hx; go_simp; exact ⟨Below.refl _ _, Ax, cx, rfl⟩)); (try simp (config := { maxSteps := 10000000 }) only [specV, addF, Act.put, List.setIfInBounds_toArray, List.set_cons_zero, List.set_cons_succ, List.take_succ_cons, List.take_zero, List.drop_succ_cons, List.drop_zero])); (refine ⟨fun vs w1 hS hB hf => ?_, ?_⟩; (focus (obtain ⟨hh, _⟩ := hf; obtain ⟨Ax, cx, hx⟩ := hh rfl; dsimp only; rw [hx]; clear hS hB hx; go_simp; exact ⟨Below.refl _ _, Ax, cx, rfl⟩)); (try simp (config := { maxSteps := 10000000 }) only [specV, addF, Act.put, List.setIfInBounds_toArray, List.set_cons_zero, List.set_cons_succ, List.take_succ_cons, List.take_zero, List.drop_succ_cons, List.drop_zero])); (apply Exists.intro; refine ⟨fun vs w1 hS hB hf => ?_, ?_⟩; (focus (obtain ⟨_, hh, _⟩ := hf; obtain ⟨Ax, cx, hx⟩ := hh rfl; dsimp only; rw [hx]; clear hS hB hx; go_simp; first | exact ⟨Below.refl _ _, rfl⟩ | exact rfl)); (try simp (config := { maxSteps := 10000000 }) only [specV, addF, Act.put, List.setIfInBounds_toArray, List.set_cons_zero, List.set_cons_succ, List.take_succ_cons, List.take_zero, List.drop_succ_cons, List.drop_zero])); (apply Exists.intro; refine ⟨fun vs w1 hS hB hf => ?_, ?_⟩; (focus (obtain ⟨_, hh, _⟩ := hf; obtain ⟨Ax, cx, hx⟩ := hh rfl; dsimp only; rw [hx]; clear hS hB hx; go_simp; first | exact ⟨Below.refl _ _, rfl⟩ | exact rfl)); (try simp (config := { maxSteps := 10000000 }) only [specV, addF, Act.put, List.setIfInBounds_toArray, List.set_cons_zero, List.set_cons_succ, List.take_succ_cons, List.take_zero, List.drop_succ_cons, List.drop_zero])); (refine ⟨fun vs w1 hS hB hf => ?_, ?_⟩; (focus (obtain ⟨hh, _⟩ := hf; obtain ⟨Ax, cx, hx⟩ := hh rfl; dsimp only; rw [hx]; clear hS hB hx; go_simp; exact ⟨Below.refl _ _, Ax, cx, rfl⟩)); (try simp (config := { maxSteps := 10000000 }) only [specV, addF, Act.put, List.setIfInBounds_toArray, List.set_cons_zero, List.set_cons_succ, List.take_succ_cons, List.take_zero, List.drop_succ_cons, List.drop_zero])); (apply Exists.intro; refine ⟨fun vs w1 hS hB hf => ?_, ?_⟩; (focus (clear hS hB hf; go_simp; first | exact ⟨Below.refl _ _, rfl⟩ | exact rfl)); (try simp (config := { maxSteps := 10000000 }) only [specV, addF, Act.put, List.setIfInBounds_toArray, List.set_cons_zero, List.set_cons_succ, List.take_succ_cons, List.take_zero, List.drop_succ_cons, List.drop_zero])); intro vs w9 hS hB9 hfin; obtain ⟨⟨Af, cf, hv17⟩, _⟩ := hfin; have hv17' : vs 17 = .slice Af tl cf := hv17; dsimp only; rw [hv17']; have B9 := Lib.hid (below_then B7.out B7.out.size hS.2.2); clear hS hB9 hv17 hv17'; cases pb; (case false => (obtain ⟨e1, e2⟩ := HMID.out.2 rfl; have e3 := HT0.out rfl; subst e1; subst e2; subst e3; clear HMID HT0 GRD HME H1 H2' HNO HRR HLR HIL HRI HJ HI2; go_wp2; all_goals (go_ret); all_goals (exact ⟨rfl, B9.out⟩))); (case true => (obtain ⟨e1, e2⟩ := HMID.out.1 rfl; subst e1; subst e2; clear HMID HT0 GRD HME H1 H2' HNO HRR HLR HIL HRI HJ HI2; go_wp2; all_goals (go_ret); all_goals (exact ⟨rfl, B9.out⟩))))
              · cases hv
                have hcp : (R.length : Int) ≤ c8 := by omega
                have hk2 : (k : Int) ≤ R.length := by have := HK1.out; omega
                have hk3 : (k : Int) ≤ c8 := by omega
                have H1 := Lib.hid (show ∀ W, Env W → InsM W (.slice (some ⟨g, 0, none⟩) R.length c8) R → Calls Tryd.prog 19 #[.slice (some ⟨g, 0, none⟩) k c8] W fun e w' => e = .returned (.string S1) ∧ Below W.heap.size W w' from fun W hW hM => by
                  rw [← HS1e.out]
                  exact GL.out W _ (R.take k) hW (InsM.take hM HK1.out) (by rw [List.length_take]; have := HLR.out; omega))
                have H2' := Lib.hid (show ∀ W, Env W → InsM W (.slice (some ⟨g, 0, none⟩) R.length c8) R → Calls Tryd.prog 19 #[.slice (if c8 = k then some ⟨g, 0, none⟩ else some ⟨g, k * 4, none⟩) (R.length - k) (c8 - k)] W fun e w' => e = .returned (.string S2) ∧ Below W.heap.size W w' from fun W hW hM => by
                  rw [← HS2e.out]
                  exact GL.out W _ (R.drop k) hW (InsM.dropIf hM HK1.out hcap) (by rw [List.length_drop]; have := HLR.out; omega))
                clear hcap
                go_upto_region 20 with fail
                (refine wp_flow_lit 19 (fun w' => Env w' ∧ InsM w' (.slice (some ⟨g, 0, none⟩) R.length c8) R ∧ Below W7.heap.size W7 w') [none, none, none, none, none, none, none, none, none, none, none, none, some (RdV tl rn rk), some (RdV tl rn rk), some (SlV tl), none, none, some (SlV tl), none] (by kernel_rfl) (by kernel_rfl) ⟨(HE.out.grow B7.out).grow (Below.drew (Below.refl _ _)), M7.out.below (Below.drew (Below.refl _ _)), (Below.drew (Below.refl _ _))⟩ (fun w1 w2 h hb => ⟨h.1.grow hb, h.2.1.below hb, below_then h.2.2 h.2.2.size hb⟩) ⟨rdV_stab _ _ _, rdV_stab _ _ _, slV_stab _, slV_stab _, trivial⟩ ?_; (try simp (config := { maxSteps := 10000000 }) only [specV, addF, Act.put, List.setIfInBounds_toArray, List.set_cons_zero, List.set_cons_succ, List.take_succ_cons, List.take_zero, List.drop_succ_cons, List.drop_zero]); (apply Exists.intro; refine ⟨fun vs w1 hS hB hf => ?_, ?_⟩; (focus (clear hS hB hf; go_simp; first | exact ⟨Below.refl _ _, rfl⟩ | exact rfl)); (try simp (config := { maxSteps := 10000000 }) only [specV, addF, Act.put, List.setIfInBounds_toArray, List.set_cons_zero, List.set_cons_succ, List.take_succ_cons, List.take_zero, List.drop_succ_cons, List.drop_zero])); (apply Exists.intro; refine ⟨fun vs w1 hS hB hf => ?_, ?_⟩; (focus (clear hS hB hf; go_simp; first | exact ⟨Below.refl _ _, rfl⟩ | exact rfl)); (try simp (config := { maxSteps := 10000000 }) only [specV, addF, Act.put, List.setIfInBounds_toArray, List.set_cons_zero, List.set_cons_succ, List.take_succ_cons, List.take_zero, List.drop_succ_cons, List.drop_zero])); (apply Exists.intro; refine ⟨fun vs w1 hS hB hf => ?_, ?_⟩; (focus (clear hS hB hf; go_simp; first | exact ⟨Below.refl _ _, rfl⟩ | exact rfl)); (try simp (config := { maxSteps := 10000000 }) only [specV, addF, Act.put, List.setIfInBounds_toArray, List.set_cons_zero, List.set_cons_succ, List.take_succ_cons, List.take_zero, List.drop_succ_cons, List.drop_zero])); (apply Exists.intro; refine ⟨fun vs w1 hS hB hf => ?_, ?_⟩; (focus (go_simp; exact (H1.out _ hS.1 hS.2.1).mono fun e w2 ⟨he, hb⟩ => callPost.of he hb rfl)); (try simp (config := { maxSteps := 10000000 }) only [specV, addF, Act.put, List.setIfInBounds_toArray, List.set_cons_zero, List.set_cons_succ, List.take_succ_cons, List.take_zero, List.drop_succ_cons, List.drop_zero])); (apply Exists.intro; refine ⟨fun vs w1 hS hB hf => ?_, ?_⟩; (focus (clear hS hB hf; go_simp; first | exact ⟨Below.refl _ _, rfl⟩ | exact rfl)); (try simp (config := { maxSteps := 10000000 }) only [specV, addF, Act.put, List.setIfInBounds_toArray, List.set_cons_zero, List.set_cons_succ, List.take_succ_cons, List.take_zero, List.drop_succ_cons, List.drop_zero])); (apply Exists.intro; refine ⟨fun vs w1 hS hB hf => ?_, ?_⟩; (focus (clear hS hB hf; go_simp; first | exact ⟨Below.refl _ _, rfl⟩ | exact rfl)); (try simp (config := { maxSteps := 10000000 }) only [specV, addF, Act.put, List.setIfInBounds_toArray, List.set_cons_zero, List.set_cons_succ, List.take_succ_cons, List.take_zero, List.drop_succ_cons, List.drop_zero])); (apply Exists.intro; refine ⟨fun vs w1 hS hB hf => ?_, ?_⟩; (focus (clear hS hB hf; go_simp; first | exact ⟨Below.refl _ _, rfl⟩ | exact rfl)); (try simp (config := { maxSteps := 10000000 }) only [specV, addF, Act.put, List.setIfInBounds_toArray, List.set_cons_zero, List.set_cons_succ, List.take_succ_cons, List.take_zero, List.drop_succ_cons, List.drop_zero])); (apply Exists.intro; refine ⟨fun vs w1 hS hB hf => ?_, ?_⟩; (focus (clear hS hB hf; go_simp; first | exact ⟨Below.refl _ _, rfl⟩ | exact rfl)); (try simp (config := { maxSteps := 10000000 }) only [specV, addF, Act.put, List.setIfInBounds_toArray, List.set_cons_zero, List.set_cons_succ, List.take_succ_cons, List.take_zero, List.drop_succ_cons, List.drop_zero])); (apply Exists.intro; refine ⟨fun vs w1 hS hB hf => ?_, ?_⟩; (focus (clear hS hB hf; go_simp; first | exact ⟨Below.refl _ _, rfl⟩ | exact rfl)); (try simp (config := { maxSteps := 10000000 }) only [specV, addF, Act.put, List.setIfInBounds_toArray, List.set_cons_zero, List.set_cons_succ, List.take_succ_cons, List.take_zero, List.drop_succ_cons, List.drop_zero])); (apply Exists.intro; refine ⟨fun vs w1 hS hB hf => ?_, ?_⟩; (focus (clear hS hB hf; go_simp; first | exact ⟨Below.refl _ _, rfl⟩ | exact rfl)); (try simp (config := { maxSteps := 10000000 }) only [specV, addF, Act.put, List.setIfInBounds_toArray, List.set_cons_zero, List.set_cons_succ, List.take_succ_cons, List.take_zero, List.drop_succ_cons, List.drop_zero])); (apply Exists.intro; refine ⟨fun vs w1 hS hB hf => ?_, ?_⟩; (focus (go_simp; exact (H2'.out _ hS.1 hS.2.1).mono fun e w2 ⟨he, hb⟩ => callPost.of he hb rfl)); (try simp (config := { maxSteps := 10000000 }) only [specV, addF, Act.put, List.setIfInBounds_toArray, List.set_cons_zero, List.set_cons_succ, List.take_succ_cons, List.take_zero, List.drop_succ_cons, List.drop_zero])); (apply Exists.intro; refine ⟨fun vs w1 hS hB hf => ?_, ?_⟩; (focus (clear hS hB hf; go_simp; first | exact ⟨Below.refl _ _, rfl⟩ | exact rfl)); (try simp (config := { maxSteps := 10000000 }) only [specV, addF, Act.put, List.setIfInBounds_toArray, List.set_cons_zero, List.set_cons_succ, List.take_succ_cons, List.take_zero, List.drop_succ_cons, List.drop_zero])); (refine ⟨fun vs w1 hS hB hf => ?_, ?_⟩; (focus (go_simp; exact (GRD.out _ hS.1).mono fun e w2 ⟨u, he, hb, hr⟩ => callPost.of he hb hr)); (try simp (config := { maxSteps := 10000000 }) only [specV, addF, Act.put, List.setIfInBounds_toArray, List.set_cons_zero, List.set_cons_succ, List.take_succ_cons, List.take_zero, List.drop_succ_cons, List.drop_zero])); (refine ⟨fun vs w1 hS hB hf => ?_, ?_⟩; (focus (obtain ⟨hh, _⟩ := hf; obtain ⟨Ax, cx, hx⟩ := hh rfl; dsimp only; rw [hx]; clear hS hB hx; go_simp; exact ⟨Below.refl _ _, Ax, cx, rfl⟩)); (try simp (config := { maxSteps := 10000000 }) only [specV, addF, Act.put, List.setIfInBounds_toArray, List.set_cons_zero, List.set_cons_succ, List.take_succ_cons, List.take_zero, List.drop_succ_cons, List.drop_zero])); (refine ⟨fun vs w1 hS hB hf => ?_, ?_⟩; (focus (obtain ⟨hh, _⟩ := hf; obtain ⟨Ax, cx, hx⟩ := hh rfl; dsimp only; rw [hx]; clear hS hB hx; go_simp; exact ⟨Below.refl _ _, Ax, cx, rfl⟩)); (try simp (config := { maxSteps := 10000000 }) only [specV, addF, Act.put, List.setIfInBounds_toArray, List.set_cons_zero, List.set_cons_succ, List.take_succ_cons, List.take_zero, List.drop_succ_cons, List.drop_zero])); (apply Exists.intro; refine ⟨fun vs w1 hS hB hf => ?_, ?_⟩; (focus (obtain ⟨_, hh, _⟩ := hf; obtain ⟨Ax, cx, hx⟩ := hh rfl; dsimp only; rw [hx]; clear hS hB hx; go_simp; first | exact ⟨Below.refl _ _, rfl⟩ | exact rfl)); (try simp (config := { maxSteps := 10000000 }) only [specV, addF, Act.put, List.setIfInBounds_toArray, List.set_cons_zero, List.set_cons_succ, List.take_succ_cons, List.take_zero, List.drop_succ_cons, List.drop_zero])); (apply Exists.intro; refine ⟨fun vs w1 hS hB hf => ?_, ?_⟩; (focus (obtain ⟨_, hh, _⟩ := hf; obtain ⟨Ax, cx, hx⟩ := hh rfl; dsimp only; rw [hx]; clear hS hB hx; go_simp; first | exact ⟨Below.refl _ _, rfl⟩ | exact rfl)); (try simp (config := { maxSteps := 10000000 }) only [specV, addF, Act.put, List.setIfInBounds_toArray, List.set_cons_zero, List.set_cons_succ, List.take_succ_cons, List.take_zero, List.drop_succ_cons, List.drop_zero])); (refine ⟨fun vs w1 hS hB hf => ?_, ?_⟩; (focus (obtain ⟨hh, _⟩ := hf; obtain ⟨Ax, cx, hx⟩ := hh rfl; dsimp only; rw [hx]; clear hS hB hx; go_simp; exact ⟨Below.refl _ _, Ax, cx, rfl⟩)); (try simp (config := { maxSteps := 10000000 }) only [specV, addF, Act.put, List.setIfInBounds_toArray, List.set_cons_zero, List.set_cons_succ, List.take_succ_cons, List.take_zero, List.drop_succ_cons, List.drop_zero])); (apply Exists.intro; refine ⟨fun vs w1 hS hB hf => ?_, ?_⟩; (focus (clear hS hB hf; go_simp; first | exact ⟨Below.refl _ _, rfl⟩ | exact rfl)); (try simp (config := { maxSteps := 10000000 }) only [specV, addF, Act.put, List.setIfInBounds_toArray, List.set_cons_zero, List.set_cons_succ, List.take_succ_cons, List.take_zero, List.drop_succ_cons, List.drop_zero])); intro vs w9 hS hB9 hfin; obtain ⟨⟨Af, cf, hv17⟩, _⟩ := hfin; have hv17' : vs 17 = .slice Af tl cf := hv17; dsimp only; rw [hv17']; have B9 := Lib.hid (below_then B7.out B7.out.size hS.2.2); clear hS hB9 hv17 hv17'; cases pb; (case false => (obtain ⟨e1, e2⟩ := HMID.out.2 rfl; have e3 := HT0.out rfl; subst e1; subst e2; subst e3; clear HMID HT0 GRD HME H1 H2' HNO HRR HLR HIL HRI HJ HI2; go_wp2; all_goals (go_ret); all_goals (exact ⟨rfl, B9.out⟩))); (case true => (obtain ⟨e1, e2⟩ := HMID.out.1 rfl; subst e1; subst e2; clear HMID HT0 GRD HME H1 H2' HNO HRR HLR HIL HRI HJ HI2; go_wp2; all_goals (go_ret); all_goals (exact ⟨rfl, B9.out⟩))))
    · have h3' : 900 < (s.size : Int) := by omega
      clear h3
      go_wp2
      go_ret
      exact ⟨rfl, B1.out⟩
  · have h2' : 200 < (n : Int) := by omega
    clear h2
    go_wp2
    go_ret
    exact ⟨rfl, B1.out⟩
end Go.Proofs.YtnmjglnllokklaaDoor.AsmRead
