/- Arguments opened: slices of calls of a memory. -/
import Derived.Test.YtjimkkkiilcpoaaShJ
import Derived.Test.YtjimkkkiilcpoaaTmR
set_option linter.unusedVariables false
set_option linter.unusedSimpArgs false
namespace Go.Proofs.Ytjimkkkiilcpoaa
open Go.ChangeShapes Go.WideShapes Go.ChangeAt Go.RowKit Go.Deep

/-- A call: what, where, bytes, a capability, how many. -/
structure Op7 where
  what : Int
  at_ : Int
  bs : List Int
  t : Bool
  b : Int
  p : Int
  a : Int
  q : Int
  y : Int
  n : Int
deriving Inhabited
/-- What a call's ten cells hold. -/
def OpAt (w : World) (g x : Nat) (o : Op7) : Prop :=
  inI o.what ∧ inI o.at_ ∧ inI o.b ∧ inI o.p ∧ inI o.a ∧ inI o.q ∧ inI o.y ∧ inI o.n ∧ isB o.bs ∧ o.bs.length ≤ maxLen ∧ g < w.heap.size ∧
    (∃ v, RowU w v o.bs ∧ w.cell? ⟨g, x + 2, none⟩ = some v) ∧
    w.cell? ⟨g, x, none⟩ = some (.int .i64 o.what) ∧ w.cell? ⟨g, x + 1, none⟩ = some (.int .i64 o.at_) ∧ w.cell? ⟨g, x + 3, none⟩ = some (.bool o.t) ∧ w.cell? ⟨g, x + 4, none⟩ = some (.int .i64 o.b) ∧ w.cell? ⟨g, x + 5, none⟩ = some (.int .i64 o.p) ∧
    w.cell? ⟨g, x + 6, none⟩ = some (.int .i64 o.a) ∧ w.cell? ⟨g, x + 7, none⟩ = some (.int .i64 o.q) ∧ w.cell? ⟨g, x + 8, none⟩ = some (.int .i64 o.y) ∧ w.cell? ⟨g, x + 9, none⟩ = some (.int .i64 o.n)
/-- A slice of calls that reads so. -/
def OpsM (w : World) (v : Value) (L : List Op7) : Prop :=
  L.length ≤ maxLen ∧ ((∃ A c, v = .slice A 0 c ∧ L = []) ∨ ∃ b o c, v = .slice (some ⟨b, o, none⟩) L.length c ∧ L.length ≤ c ∧ ∀ j op, L[j]? = some op → OpAt w b (o + j * 10) op)

section
variable {H : Type} {enc : TypeId × Value → H} {w : World} {base : Nat} {spare : Nat → Bool} {held : Bool}
set_option maxRecDepth 100000 in
theorem trod_bytes {fuel : Nat} {cs : List Value} {x : DataW H × List MemPlace} (h : DataW.trod enc Try.prog w base spare held fuel 24 cs = some x) :
    ∃ v xs, cs = [v] ∧ RowU w v xs ∧ isB xs ∧ xs.length ≤ maxLen := by
  rcases open_ints Try.underlying24 Try.underlying5 (by kernel_rfl) h with ⟨hcs, _⟩ | ⟨x, l, c, zs, hcs, _, hl, hm, hz, _, hcell, hwz⟩
  · exact ⟨_, [], hcs, RowU.nil _, (fun x hx => by cases hx), Nat.zero_le _⟩
  · have hlz : l ≤ zs.length := by rw [hz]; split <;> omega
    have hlt : (zs.take l).length = l := by rw [List.length_take]; omega
    refine ⟨_, zs.take l, hcs, ⟨some x, c, by rw [hlt], fun j u hu => ?_, by rw [hlt]; exact hl⟩, fun n hn => u8_of_wf (hwz n (List.mem_of_mem_take hn)), by rw [hlt]; omega⟩
    rw [u8s, List.map_take, List.getElem?_take] at hu
    split at hu
    · rename_i hj
      have hjz : j < zs.length := by omega
      refine ⟨x, rfl, ?_⟩
      rw [hcell j hjz]
      simpa [List.getElem?_eq_getElem hjz, List.getD_eq_getElem?_getD] using hu
    · cases hu
set_option maxRecDepth 100000 in
theorem trod_cap {fuel : Nat} {cs : List Value} {x : DataW H × List MemPlace} (h : DataW.trod enc Try.prog w base spare held fuel 23 cs = some x) (hl : cs.length = 6) :
    ∃ (t : Bool) (b p a q y : Int), cs = [.bool t, .int .i64 b, .int .i64 p, .int .i64 a, .int .i64 q, .int .i64 y] ∧ inI b ∧ inI p ∧ inI a ∧ inI q ∧ inI y := by
  have c3 : Try.prog.cellsOf 3 = 1 := by kernel_rfl
  have c4 : Try.prog.cellsOf 4 = 1 := by kernel_rfl
  obtain ⟨xs, k, hk, hxy, _, hxl, hfs⟩ := DataW.trod_struct Try.underlying23 h
  match xs, hxl, cs, hl with
  | [y0, y1, y2, y3, y4, y5], _, [v0, v1, v2, v3, v4, v5], _ =>
    have f0 := hfs 0 _ rfl
    have f1 := hfs 1 _ rfl
    have f2 := hfs 2 _ rfl
    have f3 := hfs 3 _ rfl
    have f4 := hfs 4 _ rfl
    have f5 := hfs 5 _ rfl
    simp [c3, c4] at f0 f1 f2 f3 f4 f5
    obtain ⟨t, g0, _⟩ := DataW.trod_bool Try.underlying4 f0
    obtain ⟨b, g1, _, w1⟩ := DataW.trod_int Try.underlying3 f1
    obtain ⟨p, g2, _, w2⟩ := DataW.trod_int Try.underlying3 f2
    obtain ⟨a, g3, _, w3⟩ := DataW.trod_int Try.underlying3 f3
    obtain ⟨q, g4, _, w4⟩ := DataW.trod_int Try.underlying3 f4
    obtain ⟨y, g5, _, w5⟩ := DataW.trod_int Try.underlying3 f5
    cases g0
    cases g1
    cases g2
    cases g3
    cases g4
    cases g5
    exact ⟨t, b, p, a, q, y, rfl, inI_of_wf w1, inI_of_wf w2, inI_of_wf w3, inI_of_wf w4, inI_of_wf w5⟩

set_option maxRecDepth 100000 in
set_option maxHeartbeats 800000 in
theorem open_opsM {r : Reach} {b0 : Nat} {v : Value} {d : DataW H} {p : List MemPlace} (hv : Value.okWide Try.prog w r b0 54 v) (h : DataW.Trod enc Try.prog w base spare held 54 v d p) :
    ∃ L : List Op7, OpsM w v L := by
  have hC : Try.prog.cellsOf 61 = 10 := by kernel_rfl
  have c3 : Try.prog.cellsOf 3 = 1 := by kernel_rfl
  have c5 : Try.prog.cellsOf 24 = 1 := by kernel_rfl
  have c6 : Try.prog.cellsOf 23 = 6 := by kernel_rfl
  obtain ⟨a0, len0, cap0, rfl⟩ := okWide_slice Try.underlying54 hv
  obtain ⟨fuel, hf⟩ := h
  rcases open_slice Try.underlying54 hf with ⟨hcs, _⟩ | ⟨a, len, cap, m, n, D, Pl, hcs, _, hl, hm, hmm, _, hx⟩
  · simp [Value.cells] at hcs
    obtain ⟨rfl, rfl, rfl⟩ := hcs
    exact ⟨[], Nat.zero_le _, .inl ⟨none, 0, rfl, rfl⟩⟩
  · simp [Value.cells] at hcs
    obtain ⟨rfl, rfl, rfl⟩ := hcs
    have hlm : len0 ≤ m := by rw [hmm]; split <;> omega
    have each : ∀ i, i < len0 → ∃ q : Op7, (w.cell? (a.add (i * 10)) = some (.int .i64 q.what)) ∧ ∀ g o, a = ⟨g, o, none⟩ → OpAt w g (o + i * 10) q := by
      intro i hi
      obtain ⟨cs', h1, h2⟩ := hx i (by omega)
      rw [hC] at h1
      obtain ⟨_, hlen, hcell⟩ := World.cells?_some h1
      obtain ⟨xs, k, hk, hxy, _, hxl, hfs⟩ := DataW.trod_struct Try.underlying61 h2
      match xs, hxl, cs', hlen with
      | [y0, y1, y2, y3, y4], _, [v0, v1, v2, v3, v4, v5, v6, v7, v8, v9], _ =>
        have g0 := hfs 0 _ rfl
        have g1 := hfs 1 _ rfl
        have g2 := hfs 2 _ rfl
        have g3 := hfs 3 _ rfl
        have g4 := hfs 4 _ rfl
        simp [c3, c5, c6] at g0 g1 g2 g3 g4
        obtain ⟨wh, e0, _, w0⟩ := DataW.trod_int Try.underlying3 g0
        obtain ⟨at_, e1, _, w1⟩ := DataW.trod_int Try.underlying3 g1
        obtain ⟨vb, bs, e2, hrow, hB, hbl⟩ := trod_bytes g2
        obtain ⟨t, b, p, a', q, y, e3, i1, i2, i3, i4, i5⟩ := trod_cap g3 rfl
        obtain ⟨nn, e4, _, w4⟩ := DataW.trod_int Try.underlying3 g4
        cases e0
        cases e1
        cases e2
        cases e3
        cases e4
        have k0 := hcell 0 (by omega)
        have k1 := hcell 1 (by omega)
        have k2 := hcell 2 (by omega)
        have k3 := hcell 3 (by omega)
        have k4 := hcell 4 (by omega)
        have k5 := hcell 5 (by omega)
        have k6 := hcell 6 (by omega)
        have k7 := hcell 7 (by omega)
        have k8 := hcell 8 (by omega)
        have k9 := hcell 9 (by omega)
        rw [add_add] at k0 k1 k2 k3 k4 k5 k6 k7 k8 k9
        refine ⟨⟨wh, at_, bs, t, b, p, a', q, y, nn⟩, by simpa using k0, fun g o e => ?_⟩
        subst e
        rw [add_plain] at k0 k1 k2 k3 k4 k5 k6 k7 k8 k9
        simp only [← Nat.add_assoc] at k0 k1 k2 k3 k4 k5 k6 k7 k8 k9
        exact ⟨inI_of_wf w0, inI_of_wf w1, i1, i2, i3, i4, i5, inI_of_wf w4, hB, hbl, World.block_lt_of_cell? w _ k0, ⟨_, hrow, by simpa using k2⟩, by simpa using k0, by simpa using k1, by simpa using k3, by simpa using k4, by simpa using k5, by simpa using k6, by simpa using k7, by simpa using k8, by simpa using k9⟩
    obtain ⟨q, hq⟩ := choose_lt each
    refine ⟨(List.range len0).map q, by rw [List.length_map, List.length_range]; exact Nat.le_trans hl hm, ?_⟩
    rcases Nat.eq_zero_or_pos len0 with h0 | hpos
    · subst h0
      exact .inl ⟨some a, cap0, rfl, rfl⟩
    · obtain ⟨b, o, s⟩ := a
      have hsp := spot_of_cell (hq 0 hpos).1
      have hs : s = none := by simpa [Addr.add] using hsp
      subst hs
      refine .inr ⟨b, o, cap0, by simp, by simpa using hl, fun j op hj => ?_⟩
      have hj' : j < len0 := by have := (List.getElem?_eq_some_iff.1 hj).1; simpa using this
      have e : q j = op := by simpa [List.getElem?_eq_getElem, hj'] using hj
      rw [← e]
      exact (hq j hj').2 b o rfl
end
end Go.Proofs.Ytjimkkkiilcpoaa

/- Is it too much? -/
namespace Go.Proofs.Ytjimkkkiilcpoaa
open Go.RowKit

theorem OpAt.below {w w1 : World} {g x : Nat} {o : Op7} (h : OpAt w g x o) (hb : Below w.heap.size w w1) : OpAt w1 g x o := by
  obtain ⟨h1, h2, h3, h4, h5, h6, h7, h8, h9, h10, hg, ⟨v, hr, hc⟩, k0, k1, k3, k4, k5, k6, k7, k8, k9⟩ := h
  have hk : ∀ {y : Nat} {u : Value}, w.cell? ⟨g, y, none⟩ = some u → w1.cell? ⟨g, y, none⟩ = some u := fun {y u} h => (hb.cell (p := ⟨g, y, none⟩) hg).trans h
  exact ⟨h1, h2, h3, h4, h5, h6, h7, h8, h9, h10, Nat.lt_of_lt_of_le hg hb.size, ⟨v, hr.below hb, hk hc⟩, hk k0, hk k1, hk k3, hk k4, hk k5, hk k6, hk k7, hk k8, hk k9⟩
theorem OpsM.below {w w1 : World} {v : Value} {L : List Op7} (h : OpsM w v L) (hb : Below w.heap.size w w1) : OpsM w1 v L := by
  obtain ⟨hm, h⟩ := h
  refine ⟨hm, ?_⟩
  rcases h with h | ⟨b, o, c, e, hc, h⟩
  · exact .inl h
  · exact .inr ⟨b, o, c, e, hc, fun j op hj => (h j op hj).below hb⟩
theorem OpsM.form {w : World} {v : Value} {L : List Op7} (h : OpsM w v L) : ∃ A c, v = .slice A L.length c := by
  rcases h.2 with ⟨A, c, rfl, rfl⟩ | ⟨b, o, c, rfl, _⟩
  · exact ⟨A, c, rfl⟩
  · exact ⟨_, _, rfl⟩
theorem OpsM.at {w : World} {A : Option Addr} {n c : Nat} {L : List Op7} (h : OpsM w (.slice A n c) L) {j : Nat} {op : Op7} (hj : L[j]? = some op) : ∃ b o, A = some ⟨b, o, none⟩ ∧ n ≤ c ∧ OpAt w b (o + j * 10) op := by
  rcases h.2 with ⟨A', c', hv, rfl⟩ | ⟨b, o, c', hv, hc, h'⟩
  · simp at hj
  · cases hv
    exact ⟨b, o, rfl, hc, h' j op hj⟩

def gsum : List Op7 → Nat → Nat
  | [], n => n
  | o :: l, n => if n < 9000 then gsum l (n + min o.bs.length 9000) else n
def greatB (L : List Op7) : Bool := decide (9000 ≤ gsum L L.length) || decide (200 < L.length)
theorem gsum_ge : ∀ (L : List Op7) (n : Nat), n ≤ gsum L n
  | [], n => Nat.le_refl _
  | o :: l, n => by
    rw [gsum]
    split
    · exact Nat.le_trans (Nat.le_add_right _ _) (gsum_ge l _)
    · exact Nat.le_refl _
theorem gsum_each : ∀ (L : List Op7) (n : Nat), gsum L n < 9000 → ∀ o ∈ L, o.bs.length < 9000
  | [], _, _, o, ho => by cases ho
  | x :: l, n, h, o, ho => by
    rw [gsum] at h
    split at h
    · rcases List.mem_cons.1 ho with rfl | ho
      · have := gsum_ge l (n + min o.bs.length 9000); omega
      · exact gsum_each l _ h o ho
    · omega
theorem great_no {L : List Op7} (h : greatB L = false) : L.length ≤ 200 ∧ ∀ o ∈ L, o.bs.length < 9000 := by
  simp only [greatB, Bool.or_eq_false_iff, decide_eq_false_iff_not] at h
  exact ⟨by omega, gsum_each L L.length (by omega)⟩

set_option maxRecDepth 100000 in
set_option maxHeartbeats 1600000 in
theorem great_any (v : Value) (L : List Op7) (w : World) (h : OpsM w v L) :
    Calls Try.prog 46 #[v] w fun e w' => e = .returned (.bool (greatB L)) ∧ w = w' := by
  obtain ⟨A, c, rfl⟩ := h.form
  have hm : (L.length : Int) ≤ 9223372036854775807 := by have := h.1; unfold maxLen at this; omega
  have H := Lib.hid h
  have HE := Lib.hid (show greatB L = (decide (9000 ≤ gsum L L.length) || decide (200 < L.length)) from rfl)
  clear h
  generalize hn : L.length = n at *
  have HN := Lib.hid hn
  clear hn
  generalize greatB L = gb at *
  generalize hs : gsum L n = s at *
  have HS := Lib.hid hs
  clear hs
  go_enter Try.func46, Try.ntmps46
  go_wp2
  go_loopg [3, 4] n (fun k u i wr => ∃ j m : Nat, j + k = n ∧ i = .int .i64 j ∧ u = .int .i64 m ∧ gsum (L.drop j) m = s ∧ (m ≤ 18000 ∨ m = n) ∧ w = wr)
  case atStart => exact ⟨0, n, by omega, rfl, rfl, by rw [List.drop_zero]; exact HS.out, .inr rfl, rfl⟩
  case round =>
    obtain ⟨j, m, hjk, rfl, rfl, hg, hm2, rfl⟩ := hrel
    have HJ := Lib.hid hjk
    have HG := Lib.hid hg
    have HM := Lib.hid hm2
    clear hjk hg hm2
    rcases Nat.lt_or_ge j n with h1 | h1
    · have i1 : (j : Int) < n := by omega
      rcases Nat.lt_or_ge m 9000 with h2 | h2
      · have i2 : (m : Int) < 9000 := by omega
        obtain ⟨op, hop⟩ : ∃ op, L[j]? = some op := ⟨_, List.getElem?_eq_getElem (by rw [HN.out]; exact h1)⟩
        obtain ⟨b, o, rfl, hc, hat⟩ := H.out.at hop
        have hlt := hat.2.2.2.2.2.2.2.2.2.2.1
        obtain ⟨vb, hrb, hcb⟩ := hat.2.2.2.2.2.2.2.2.2.2.2.1
        have hbl := hat.2.2.2.2.2.2.2.2.2.1
        obtain ⟨Ab, cb, rfl, _, _⟩ := hrb
        have hd : L.drop j = op :: L.drop (j + 1) := by
          have hjl : j < L.length := by rw [HN.out]; exact h1
          rw [List.drop_eq_getElem_cons hjl]
          rw [List.getElem?_eq_getElem hjl] at hop
          cases hop
          rfl
        have hg2 := HG.out
        rw [hd, gsum, if_pos h2] at hg2
        have HG2 := Lib.hid hg2
        unfold maxLen at hbl
        generalize op.bs.length = bl at *
        have H1 := Lib.hid h1
        have H2 := Lib.hid h2
        clear h1 h2 hop hat hd hg2 HG
        go_wp2
        · rename_i hb
          go_roundg (gk - 1)
          case measure => have := HJ.out; have := H1.out; omega
          case rel => exact ⟨j + 1, m + 9000, by have := HJ.out; have := H1.out; omega, by go_num, by go_num, by have := HG2.out; rwa [Nat.min_eq_right (by omega)] at this, .inl (by have := H2.out; omega), rfl⟩
        · rename_i hb
          go_roundg (gk - 1)
          case measure => have := HJ.out; have := H1.out; omega
          case rel => exact ⟨j + 1, m + bl, by have := HJ.out; have := H1.out; omega, by go_num, by go_num, by have := HG2.out; rwa [Nat.min_eq_left (by omega)] at this, .inl (by have := H2.out; omega), rfl⟩
      · have i2 : ¬ (m : Int) < 9000 := by omega
        have e : gb = true := by
          have hs : s = m := by
            rw [← HG.out]
            cases L.drop j with
            | nil => rfl
            | cons x l => rw [gsum, if_neg (by omega)]
          rw [HE.out, hs, decide_eq_true h2, Bool.true_or]
        subst e
        have i3 : (9000 : Int) ≤ m := by omega
        clear h1 h2 HG HE
        go_wp2
        go_ret
        exact ⟨rfl, rfl⟩
    · have i1 : ¬ (j : Int) < n := by omega
      have hs : s = m := by
        rw [← HG.out, List.drop_of_length_le (by rw [HN.out]; exact h1)]
        rfl
      have hE := HE.out
      rw [hs] at hE
      by_cases h2 : 9000 ≤ m
      · rw [decide_eq_true h2, Bool.true_or] at hE
        subst hE
        have i3 : (9000 : Int) ≤ m := by omega
        clear h1 h2 HG HE hs
        go_wp2
        go_ret
        exact ⟨rfl, rfl⟩
      · rw [decide_eq_false h2, Bool.false_or] at hE
        have i3 : ¬ (9000 : Int) ≤ m := by omega
        by_cases h3 : 200 < n
        · rw [decide_eq_true h3] at hE
          subst hE
          have i4 : (200 : Int) < n := by omega
          clear h1 h2 h3 HG HE hs
          go_wp2
          go_ret
          exact ⟨rfl, rfl⟩
        · rw [decide_eq_false h3] at hE
          subst hE
          have i4 : ¬ (200 : Int) < n := by omega
          clear h1 h2 h3 HG HE hs
          go_wp2
          go_ret
          exact ⟨rfl, rfl⟩
end Go.Proofs.Ytjimkkkiilcpoaa

/- What is stored in a memory, one contract for a call, refused or not. -/
namespace Go.Proofs.Ytjimkkkiilcpoaa
open Go.RowKit

/-- What Store makes of bytes and tags. -/
def stD (n : Nat) (D : List Int) (a : Int) (bs : List Int) : List Int := if inB n a bs.length then writeL D a.toNat bs else D
def stT (n : Nat) (T : List Bool) (a : Int) (k : Nat) : List Bool := if inB n a k then storeT T a.toNat k else T
/-- Does StoreCap go; what it makes of bytes, tags and dirty pages. -/
def scB (n : Nat) (at_ : Int) (t : Bool) (b p a q y : Int) : Bool := plB n at_ && rightB t b p a q y
def scD (n : Nat) (D : List Int) (at_ : Int) (t : Bool) (b p a q y : Int) : List Int := if scB n at_ t b p a q y then writeL D at_.toNat (putL t b p a q y) else D
def scT (n : Nat) (T : List Bool) (at_ : Int) (t : Bool) (b p a q y : Int) : List Bool := if scB n at_ t b p a q y then T.set (at_ / 16).toNat t else T
def scP (P : List Bool) (at_ : Int) (t : Bool) (b p a q y : Int) : List Bool := if scB P.length at_ t b p a q y && t then P.set (at_ / 256).toNat true else P
theorem scP_length (P : List Bool) (at_ : Int) (t : Bool) (b p a q y : Int) : (scP P at_ t b p a q y).length = P.length := by unfold scP; split <;> simp
theorem inB_split {n : Nat} {a : Int} {k : Nat} (h : inB n a k = true) : ∃ i : Nat, a = i ∧ i + k ≤ 256 * n := by
  simp only [inB, decide_eq_true_eq] at h
  exact ⟨a.toNat, by omega, by omega⟩
theorem pl_div (i k : Nat) : ((((i * 256 + k * 16 : Nat) : Int)) / 16).toNat = i * 16 + k ∧ (k < 16 → ((((i * 256 + k * 16 : Nat) : Int)) / 256).toNat = i) ∧ (((i * 256 + k * 16 : Nat) : Int)).toNat = i * 256 + k * 16 := by
  refine ⟨by omega, fun h => by omega, by omega⟩

theorem tm_storeU (b bP : Nat) (D : List Int) (T P : List Bool) (a : Int) (A : Option Addr) (c : Nat) (xs : List Int) (w : World) (h : TmM w b bP D T P) (ha : inI a) (hr : RowU w (.slice A xs.length c) xs) (hx : isB xs) (hm : xs.length ≤ 9000)
    (hA : 0 < xs.length → ∀ ad, A = some ad → ad.block ≠ bP) :
    Calls Try.prog 59 #[.pointer (some ⟨b, 0, none⟩), .int .i64 a, .slice A xs.length c] w fun e w' => e = .returned (.bool (inB P.length a xs.length)) ∧ TmM w' b bP (stD P.length D a xs) (stT P.length T a xs.length) P ∧ Turns [bP] w w' := by
  cases hi : inB P.length a xs.length with
  | false =>
    rw [stD, stT, hi, if_neg (by decide), if_neg (by decide)]
    exact (tm_store_no b bP D T P a A xs.length c w h ha (by omega) hi).mono fun e w' ⟨he, hb⟩ => ⟨he, h.grow hb, Turns.below hb⟩
  | true =>
    rw [stD, stT, hi, if_pos rfl, if_pos rfl]
    obtain ⟨i, rfl, hle⟩ := inB_split hi
    rw [Int.toNat_natCast]
    exact tm_store b bP D T P i A c xs w h hr hx hle hA

theorem tr_storeU (b bB bT bP : Nat) (D : List Int) (T P : List Bool) (a : Int) (A : Option Addr) (c : Nat) (xs : List Int) (w : World) (h : TrM w b bB bT bP D T P) (ha : inI a) (hr : RowU w (.slice A xs.length c) xs) (hx : isB xs) (hm : xs.length ≤ 9000)
    (hA : 0 < xs.length → ∀ ad, A = some ad → ad.block ∉ [bB, bT, bP]) :
    Calls Try.prog 60 #[.pointer (some ⟨b, 0, none⟩), .int .i64 a, .slice A xs.length c] w fun e w' => e = .returned (.bool (inB P.length a xs.length)) ∧ TrM w' b bB bT bP (stD P.length D a xs) (stT P.length T a xs.length) P ∧ Turns [bB, bT, bP] w w' := by
  cases hi : inB P.length a xs.length with
  | false =>
    rw [stD, stT, hi, if_neg (by decide), if_neg (by decide)]
    exact (tr_store_no b bB bT bP D T P a A xs.length c w h ha (by omega) hi).mono fun e w' ⟨he, hb⟩ => ⟨he, by subst hb; exact h, by subst hb; exact Turns.refl _ _⟩
  | true =>
    rw [stD, stT, hi, if_pos rfl, if_pos rfl]
    obtain ⟨i, rfl, hle⟩ := inB_split hi
    rw [Int.toNat_natCast]
    exact tr_store b bB bT bP D T P i A c xs w h hr hx hle hA

theorem tm_storecapU (mb bP : Nat) (D : List Int) (T P : List Bool) (at_ : Int) (t : Bool) (b p a q y : Int) (w : World) (h : TmM w mb bP D T P) (ha : inI at_) (hq : inI q) :
    Calls Try.prog 49 #[.pointer (some ⟨mb, 0, none⟩), .int .i64 at_, .agg #[.bool (t), .int .i64 (b), .int .i64 (p), .int .i64 (a), .int .i64 (q), .int .i64 (y)]] w fun e w' => e = .returned (.bool (scB P.length at_ t b p a q y)) ∧
      TmM w' mb bP (scD P.length D at_ t b p a q y) (scT P.length T at_ t b p a q y) (scP P at_ t b p a q y) ∧ Turns [bP] w w' := by
  cases hs : scB P.length at_ t b p a q y with
  | false =>
    rw [scD, scT, scP, hs, if_neg (by decide), if_neg (by decide), Bool.false_and, if_neg (by decide)]
    exact (tm_storecap_no mb bP D T P at_ t b p a q y w h ha hq hs).mono fun e w' ⟨he, hb⟩ => ⟨he, h.grow hb, Turns.below hb⟩
  | true =>
    rw [scD, scT, scP, hs, if_pos rfl, if_pos rfl, Bool.true_and]
    rw [scB, Bool.and_eq_true] at hs
    obtain ⟨i, k, hi, hk, rfl⟩ := pl_split hs.1
    rw [(pl_div i k).1, (pl_div i k).2.1 hk, (pl_div i k).2.2]
    exact tm_storecap mb bP D T P i k t b p a q y w h hi hk hq hs.2

theorem tr_storecapU (mb bB bT bP : Nat) (D : List Int) (T P : List Bool) (at_ : Int) (t : Bool) (b p a q y : Int) (w : World) (h : TrM w mb bB bT bP D T P) (ha : inI at_) :
    Calls Try.prog 50 #[.pointer (some ⟨mb, 0, none⟩), .int .i64 at_, .agg #[.bool (t), .int .i64 (b), .int .i64 (p), .int .i64 (a), .int .i64 (q), .int .i64 (y)]] w fun e w' => e = .returned (.bool (scB P.length at_ t b p a q y)) ∧
      TrM w' mb bB bT bP (scD P.length D at_ t b p a q y) (scT P.length T at_ t b p a q y) (scP P at_ t b p a q y) ∧ Turns [bB, bT, bP] w w' := by
  cases hs : scB P.length at_ t b p a q y with
  | false =>
    rw [scD, scT, scP, hs, if_neg (by decide), if_neg (by decide), Bool.false_and, if_neg (by decide)]
    exact (tr_storecap_no mb bB bT bP D T P at_ t b p a q y w h ha hs).mono fun e w' ⟨he, hb⟩ => ⟨he, h.grow hb, Turns.below hb⟩
  | true =>
    rw [scD, scT, scP, hs, if_pos rfl, if_pos rfl, Bool.true_and]
    rw [scB, Bool.and_eq_true] at hs
    obtain ⟨i, k, hi, hk, rfl⟩ := pl_split hs.1
    rw [(pl_div i k).1, (pl_div i k).2.1 hk, (pl_div i k).2.2]
    exact tr_storecap mb bB bT bP D T P i k t b p a q y w h hi hk hs.2
/-- A law's scene: the program's memory, what was there, a call's bytes, and the local that holds the call. -/
def Sc (w : World) (b bP lo : Nat) (v : Value) (bs : List Int) (cs : Array Value) (D : List Int) (T P : List Bool) (W : World) : Prop :=
  TmM W b bP D T P ∧ Below w.heap.size w W ∧ RowU W v bs ∧ Blk W lo cs 61
theorem Sc.grow {w : World} {b bP lo : Nat} {v : Value} {bs : List Int} {cs : Array Value} {D : List Int} {T P : List Bool} {W W1 : World} (h : Sc w b bP lo v bs cs D T P W) (hb : Below W.heap.size W W1) : Sc w b bP lo v bs cs D T P W1 :=
  ⟨h.1.grow hb, below_then h.2.1 h.2.1.size hb, h.2.2.1.below hb, h.2.2.2.below hb h.2.2.2.lt⟩
theorem below_turns {w W W1 : World} {bs : List Nat} (h : Below w.heap.size w W) (ht : Turns bs W W1) (hb : ∀ b ∈ bs, w.heap.size ≤ b) : Below w.heap.size w W1 :=
  ⟨ht.os.trans h.os, ht.tape.trans h.tape, ht.output.trans h.output, Nat.le_trans h.size ht.size, fun k hk => (ht.block k (Nat.lt_of_lt_of_le hk h.size) (fun hm => by have := hb k hm; omega)).trans (h.block k hk)⟩
theorem Sc.turns {w : World} {b bP lo : Nat} {A : Option Addr} {n c : Nat} {bs : List Int} {cs : Array Value} {D D1 : List Int} {T P T1 P1 : List Bool} {W W1 : World} (h : Sc w b bP lo (.slice A n c) bs cs D T P W) (h1 : TmM W1 b bP D1 T1 P1) (ht : Turns [bP] W W1)
    (hP : w.heap.size ≤ bP) (hn : lo ≠ bP) (hA : 0 < n → ∀ ad, A = some ad → ad.block ≠ bP) : Sc w b bP lo (.slice A n c) bs cs D1 T1 P1 W1 :=
  ⟨h1, below_turns h.2.1 ht (by simpa using hP), h.2.2.1.turns ht (by simpa using hA), h.2.2.2.turns ht (by simpa using hn)⟩
/-- A call's values. -/
def OpV (o : Op7) : Prop := inI o.what ∧ inI o.at_ ∧ inI o.b ∧ inI o.p ∧ inI o.a ∧ inI o.q ∧ inI o.y ∧ inI o.n ∧ isB o.bs ∧ o.bs.length ≤ maxLen
theorem OpsM.get {w W : World} {A : Option Addr} {n c : Nat} {L : List Op7} (h : OpsM w (.slice A n c) L) (hb : Below w.heap.size w W) {j : Nat} {o : Op7} (hj : L[j]? = some o) : ∃ bo oo Ab cb, A = some ⟨bo, oo, none⟩ ∧ n ≤ c ∧ bo < W.heap.size ∧ OpV o ∧ RowU W (.slice Ab o.bs.length cb) o.bs ∧ (∀ bx, w.heap.size ≤ bx → 0 < o.bs.length → ∀ ad, Ab = some ad → ad.block ≠ bx) ∧
    W.cell? ⟨bo, oo + j * 10, none⟩ = some (.int .i64 o.what) ∧ W.cell? ⟨bo, oo + j * 10 + 1, none⟩ = some (.int .i64 o.at_) ∧ W.cell? ⟨bo, oo + j * 10 + 2, none⟩ = some (.slice Ab o.bs.length cb) ∧ W.cell? ⟨bo, oo + j * 10 + 3, none⟩ = some (.bool o.t) ∧ W.cell? ⟨bo, oo + j * 10 + 4, none⟩ = some (.int .i64 o.b) ∧ W.cell? ⟨bo, oo + j * 10 + 5, none⟩ = some (.int .i64 o.p) ∧
    W.cell? ⟨bo, oo + j * 10 + 6, none⟩ = some (.int .i64 o.a) ∧ W.cell? ⟨bo, oo + j * 10 + 7, none⟩ = some (.int .i64 o.q) ∧ W.cell? ⟨bo, oo + j * 10 + 8, none⟩ = some (.int .i64 o.y) ∧ W.cell? ⟨bo, oo + j * 10 + 9, none⟩ = some (.int .i64 o.n) := by
  obtain ⟨bo, oo, rfl, hq, hat⟩ := h.at hj
  obtain ⟨h1, h2, h3, h4, h5, h6, h7, h8, h9, h10, hg, ⟨v, hr, hc⟩, _⟩ := id hat
  obtain ⟨_, _, _, _, _, _, _, _, _, _, hbo, _, k0, k1, k3, k4, k5, k6, k7, k8, k9⟩ := hat.below hb
  obtain ⟨Ab, cb, rfl, hrd, hle⟩ := id hr
  refine ⟨bo, oo, Ab, cb, rfl, hq, hbo, ⟨h1, h2, h3, h4, h5, h6, h7, h8, h9, h10⟩, hr.below hb, fun bx hx h0 ad e => ?_, k0, k1, (hb.cell (p := ⟨bo, _, none⟩) hg).trans hc, k3, k4, k5, k6, k7, k8, k9⟩
  subst e
  obtain ⟨g, o', c', hv, _, hcc⟩ := hr.cells h0
  cases hv
  have := World.block_lt_of_cell? w _ (hcc 0 h0)
  dsimp only at *
  omega
/-- A call's ten cells. -/
def OpX (W : World) (g x : Nat) (v : Value) (o : Op7) : Prop := g < W.heap.size ∧
    W.cell? ⟨g, x, none⟩ = some (.int .i64 o.what) ∧ W.cell? ⟨g, x + 1, none⟩ = some (.int .i64 o.at_) ∧ W.cell? ⟨g, x + 2, none⟩ = some v ∧ W.cell? ⟨g, x + 3, none⟩ = some (.bool o.t) ∧ W.cell? ⟨g, x + 4, none⟩ = some (.int .i64 o.b) ∧ W.cell? ⟨g, x + 5, none⟩ = some (.int .i64 o.p) ∧
    W.cell? ⟨g, x + 6, none⟩ = some (.int .i64 o.a) ∧ W.cell? ⟨g, x + 7, none⟩ = some (.int .i64 o.q) ∧ W.cell? ⟨g, x + 8, none⟩ = some (.int .i64 o.y) ∧ W.cell? ⟨g, x + 9, none⟩ = some (.int .i64 o.n)
theorem OpX.block {W W1 : World} {g x : Nat} {v : Value} {o : Op7} (h : OpX W g x v o) (hs : W.heap.size ≤ W1.heap.size) (hb : W1.heap[g]? = W.heap[g]?) : OpX W1 g x v o := by
  have hc : ∀ y, W1.cell? ⟨g, y, none⟩ = W.cell? ⟨g, y, none⟩ := fun y => by simp only [World.cell?, hb]
  obtain ⟨h0, h1⟩ := h
  refine ⟨Nat.lt_of_lt_of_le h0 hs, ?_⟩
  simp only [hc]
  exact h1
theorem OpX.below {W W1 : World} {g x : Nat} {v : Value} {o : Op7} (h : OpX W g x v o) (hb : Below W.heap.size W W1) : OpX W1 g x v o := h.block hb.size (hb.block g h.1)
theorem OpX.turns {W W1 : World} {g x : Nat} {v : Value} {o : Op7} {bs : List Nat} (h : OpX W g x v o) (ht : Turns bs W W1) (hn : g ∉ bs) : OpX W1 g x v o := h.block ht.size (ht.block g h.1 hn)
theorem OpsM.getX {w W : World} {A : Option Addr} {n c : Nat} {L : List Op7} (h : OpsM w (.slice A n c) L) (hb : Below w.heap.size w W) {j : Nat} {o : Op7} (hj : L[j]? = some o) : ∃ bo oo Ab cb, A = some ⟨bo, oo, none⟩ ∧ n ≤ c ∧ OpV o ∧ RowU W (.slice Ab o.bs.length cb) o.bs ∧ (∀ bx, w.heap.size ≤ bx → 0 < o.bs.length → ∀ ad, Ab = some ad → ad.block ≠ bx) ∧
    (∀ bx, w.heap.size ≤ bx → bo ≠ bx) ∧ OpX W bo (oo + j * 10) (.slice Ab o.bs.length cb) o := by
  obtain ⟨bo, oo, Ab, cb, e, h1, h2, h3, h4, h5, h6⟩ := h.get hb hj
  obtain ⟨bo', oo', e', _, hat⟩ := h.at hj
  subst e
  cases e'
  exact ⟨bo, oo, Ab, cb, rfl, h1, h3, h4, h5, fun bx hx e => by have := hat.2.2.2.2.2.2.2.2.2.2.1; omega, h2, h6⟩
theorem TmM.turnsM {w w1 : World} {b bP bX : Nat} {D : List Int} {T P : List Bool} (h : TmM w b bP D T P) (ht : Turns [bX] w w1) (h1 : b ≠ bX) (h2 : bP ≠ bX) : TmM w1 b bP D T P := h.turns ht (by simpa using h1) (by simpa using h2)
theorem RowU.apart {w : World} {A : Option Addr} {c : Nat} {xs : List Int} (h : RowU w (.slice A xs.length c) xs) (bx : Nat) (hx : w.heap.size ≤ bx) : 0 < xs.length → ∀ ad, A = some ad → ad.block ≠ bx := fun h0 ad e => by
  subst e
  obtain ⟨g, o', c', hv, _, hcc⟩ := h.cells h0
  cases hv
  have := World.block_lt_of_cell? w _ (hcc 0 h0)
  dsimp only at *
  omega
/-- Where a slice's rest begins. -/
def subA (A : Option Addr) (c l : Nat) : Option Addr := if c = l then A else A.map (·.add l)
theorem RowU.sub {w : World} {A : Option Addr} {n c : Nat} {xs : List Int} (h : RowU w (.slice A n c) xs) (l : Nat) (hl : l ≤ n) : RowU w (.slice (subA A c l) (n - l) (c - l)) (xs.drop l) := by
  obtain ⟨A', c', hv, hr, hc⟩ := h
  cases hv
  refine ⟨subA A c l, c - l, by rw [List.length_drop], fun j u hu => ?_, by rw [List.length_drop]; omega⟩
  rw [u8s, List.map_drop, List.getElem?_drop] at hu
  obtain ⟨ad, rfl, hcell⟩ := hr _ _ hu
  unfold subA
  split
  · rename_i e
    have := (List.getElem?_eq_some_iff.1 hu).1
    simp at this
    omega
  · exact ⟨_, rfl, by rw [Go.Deep.add_add]; exact hcell⟩
theorem subA_block {A : Option Addr} {c l bx : Nat} (h : ∀ ad, A = some ad → ad.block ≠ bx) : ∀ ad, subA A c l = some ad → ad.block ≠ bx := fun ad e => by
  unfold subA at e
  split at e
  · exact h ad e
  · cases A with
    | none => cases e
    | some x =>
      simp only [Option.map_some, Option.some.injEq] at e
      subst e
      have := h x rfl
      unfold Addr.add
      split
      · exact this
      · exact this
end Go.Proofs.Ytjimkkkiilcpoaa
