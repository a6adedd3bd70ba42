/- Instructions, and slices of them: as arguments, and as rows that are owned. Same; the document's. -/
import Derived.Test.YtnmjglnllokklaaDoorAsI
import Derived.Test.YtnmjglnllokklaaDoorAsJ
set_option linter.unusedVariables false
set_option linter.unusedSimpArgs false
namespace Go.Proofs.YtnmjglnllokklaaDoor
open Go.ChangeShapes Go.WideShapes Go.ChangeAt Go.RowKit Go.Deep

def InI (c : I4) : Prop := inI c.1 ∧ inI c.2.1 ∧ inI c.2.2.1 ∧ inI c.2.2.2
/-- What an instruction's four cells hold. -/
def InAt (w : World) (g x : Nat) (c : I4) : Prop :=
  InI c ∧ g < w.heap.size ∧ w.cell? ⟨g, x, none⟩ = some (.int .i64 c.1) ∧ w.cell? ⟨g, x + 1, none⟩ = some (.int .i64 c.2.1) ∧ w.cell? ⟨g, x + 2, none⟩ = some (.int .i64 c.2.2.1) ∧ w.cell? ⟨g, x + 3, none⟩ = some (.int .i64 c.2.2.2)
/-- A slice of instructions that reads so. -/
def InsM (w : World) (v : Value) (L : List I4) : Prop :=
  L.length ≤ maxLen ∧ ((∃ A c, v = .slice A 0 c ∧ L = []) ∨ ∃ b o c, v = .slice (some ⟨b, o, none⟩) L.length c ∧ L.length ≤ c ∧ ∀ j q, L[j]? = some q → InAt w b (o + j * 4) q)

theorem InAt.below {w w1 : World} {g x : Nat} {c : I4} (h : InAt w g x c) (hb : Below w.heap.size w w1) : InAt w1 g x c := by
  obtain ⟨h0, hg, k0, k1, k2, k3⟩ := h
  have e : ∀ o, w1.cell? ⟨g, o, none⟩ = w.cell? ⟨g, o, none⟩ := fun o => hb.cell (p := ⟨g, o, none⟩) hg
  have := hb.size
  exact ⟨h0, by omega, (e _).trans k0, (e _).trans k1, (e _).trans k2, (e _).trans k3⟩
theorem InsM.below {w w1 : World} {v : Value} {L : List I4} (h : InsM w v L) (hb : Below w.heap.size w w1) : InsM w1 v L := by
  obtain ⟨hm, h⟩ := h
  refine ⟨hm, ?_⟩
  rcases h with h | ⟨b, o, c, e, hc, h⟩
  · exact .inl h
  · exact .inr ⟨b, o, c, e, hc, fun j op hj => (h j op hj).below hb⟩
theorem InsM.form {w : World} {v : Value} {L : List I4} (h : InsM w v L) : ∃ A c, v = .slice A L.length c := by
  rcases h.2 with ⟨A, c, rfl, rfl⟩ | ⟨b, o, c, rfl, _⟩
  · exact ⟨A, c, rfl⟩
  · exact ⟨_, _, rfl⟩
theorem InsM.at {w : World} {A : Option Addr} {n c : Nat} {L : List I4} (h : InsM w (.slice A n c) L) {j : Nat} {q : I4} (hj : L[j]? = some q) : ∃ b o, A = some ⟨b, o, none⟩ ∧ n ≤ c ∧ InAt w b (o + j * 4) q := by
  rcases h.2 with ⟨A', c', hv, rfl⟩ | ⟨b, o, c', hv, hc, h'⟩
  · simp at hj
  · cases hv
    exact ⟨b, o, rfl, hc, h' j q hj⟩
theorem InsM.all {w : World} {v : Value} {L : List I4} (h : InsM w v L) : ∀ c ∈ L, InI c := by
  intro c hc
  obtain ⟨j, hj⟩ := List.getElem?_of_mem hc
  rcases h.2 with ⟨A', c', hv, rfl⟩ | ⟨b, o, c', hv, hc, h'⟩
  · simp at hj
  · exact (h' j c hj).1
theorem i4s_len : ∀ L : List I4, (i4s L).length = L.length * 4
  | [] => rfl
  | c :: L => by
    show (i4c c ++ i4s L).length = _
    rw [List.length_append, i4s_len L, List.length_cons]
    show 4 + _ = _
    omega
theorem i4s_get : ∀ (L : List I4) (j : Nat) (c : I4), L[j]? = some c → ∀ i, i < 4 → (i4s L)[j * 4 + i]? = (i4c c)[i]?
  | [], j, c, h, _, _ => by simp at h
  | x :: L, 0, c, h, i, hi => by
    simp at h
    subst h
    show (i4c x ++ i4s L)[0 * 4 + i]? = _
    rw [Nat.zero_mul, Nat.zero_add, List.getElem?_append_left (by show i < 4; exact hi)]
  | x :: L, j + 1, c, h, i, hi => by
    show (i4c x ++ i4s L)[(j + 1) * 4 + i]? = _
    rw [List.getElem?_append_right (by show 4 ≤ _; omega)]
    have : (j + 1) * 4 + i - (i4c x).length = j * 4 + i := by show (j + 1) * 4 + i - 4 = _; omega
    rw [this]
    exact i4s_get L j c (by simpa using h) i hi
/-- A row that is owned reads so. -/
theorem InsM.own {w : World} {base : Nat} {v : Value} {L : List I4} (h : w.ownsRow base 23 4 v L.length (i4s L)) (hI : ∀ c ∈ L, InI c) (hm : L.length ≤ maxLen) : InsM w v L := by
  refine ⟨hm, ?_⟩
  obtain ⟨A, c, rfl⟩ := own_form h
  have hR := RdL.own h
  rcases h.2 with ⟨hv, hn⟩ | ⟨g, cap, cur, hv, hb, hg, hnc, _⟩
  · have : L = [] := List.eq_nil_of_length_eq_zero hn
    subst this
    cases hv
    exact .inl ⟨none, 0, rfl, rfl⟩
  · cases hv
    refine .inr ⟨g, 0, _, rfl, hnc, fun j q hj => ?_⟩
    have hc : ∀ i, i < 4 → ∀ u, (i4c q)[i]? = some u → w.cell? ⟨g, 0 + j * 4 + i, none⟩ = some u := fun i hi u hu => by
      obtain ⟨ad, e, hcc⟩ := hR (j * 4 + i) u (by rw [i4s_get L j q hj i hi]; exact hu)
      cases e
      rw [add_plain] at hcc
      rw [Nat.add_assoc]
      exact hcc
    refine ⟨hI q (List.mem_of_getElem? hj), (Array.getElem?_eq_some_iff.1 hg).1, hc 0 (by decide) _ rfl, hc 1 (by decide) _ rfl, hc 2 (by decide) _ rfl, hc 3 (by decide) _ rfl⟩

section
variable {H : Type} {enc : TypeId × Value → H} {w : World} {base : Nat} {spare : Nat → Bool} {held : Bool}
set_option maxRecDepth 100000 in
theorem trod_ins {fuel : Nat} {cs : List Value} {x : DataW H × List MemPlace} (h : DataW.trod enc Tryd.prog w base spare held fuel 23 cs = some x) (hl : cs.length = 4) :
    ∃ q : I4, cs = i4c q ∧ InI q := by
  have c3 : Tryd.prog.cellsOf 3 = 1 := by kernel_rfl
  obtain ⟨xs, k, hk, hxy, _, hxl, hfs⟩ := DataW.trod_struct Tryd.underlying23 h
  match xs, hxl, cs, hl with
  | [y0, y1, y2, y3], _, [v0, v1, v2, v3], _ =>
    have f0 := hfs 0 _ rfl
    have f1 := hfs 1 _ rfl
    have f2 := hfs 2 _ rfl
    have f3 := hfs 3 _ rfl
    simp [c3] at f0 f1 f2 f3
    obtain ⟨t, g0, _, w0⟩ := DataW.trod_int Tryd.underlying3 f0
    obtain ⟨b, g1, _, w1⟩ := DataW.trod_int Tryd.underlying3 f1
    obtain ⟨p, g2, _, w2⟩ := DataW.trod_int Tryd.underlying3 f2
    obtain ⟨a, g3, _, w3⟩ := DataW.trod_int Tryd.underlying3 f3
    cases g0
    cases g1
    cases g2
    cases g3
    exact ⟨(t, b, p, a), rfl, inI_of_wf w0, inI_of_wf w1, inI_of_wf w2, inI_of_wf w3⟩

set_option maxRecDepth 100000 in
theorem open_ins {r : Reach} {b0 : Nat} {v : Value} {d : DataW H} {p : List MemPlace} (hv : Value.okWide Tryd.prog w r b0 23 v) (h : DataW.Trod enc Tryd.prog w base spare held 23 v d p) :
    ∃ (o a b c : Int), v = .agg #[.int .i64 (o), .int .i64 (a), .int .i64 (b), .int .i64 (c)] ∧ inI o ∧ inI a ∧ inI b ∧ inI c := by
  have hC : Tryd.prog.cellsOf 23 = 4 := by kernel_rfl
  obtain ⟨cs, rfl, hsz⟩ := okWide_struct Tryd.underlying23 hv
  obtain ⟨fuel, hf⟩ := h
  rw [hC] at hsz
  obtain ⟨⟨o, a, b, c⟩, h1, h2⟩ := trod_ins hf (by simpa [Value.cells] using hsz)
  refine ⟨o, a, b, c, ?_, h2.1, h2.2.1, h2.2.2.1, h2.2.2.2⟩
  have h3 : cs.toList = i4c (o, a, b, c) := by simpa [Value.cells] using h1
  obtain ⟨l⟩ := cs
  cases h3
  rfl
set_option maxRecDepth 100000 in
set_option maxHeartbeats 800000 in
theorem open_inss {r : Reach} {b0 : Nat} {v : Value} {d : DataW H} {p : List MemPlace} (hv : Value.okWide Tryd.prog w r b0 34 v) (h : DataW.Trod enc Tryd.prog w base spare held 34 v d p) :
    ∃ L : List I4, InsM w v L := by
  have hC : Tryd.prog.cellsOf 23 = 4 := by kernel_rfl
  obtain ⟨a0, len0, cap0, rfl⟩ := okWide_slice Tryd.underlying34 hv
  obtain ⟨fuel, hf⟩ := h
  rcases open_slice Tryd.underlying34 hf with ⟨hcs, _⟩ | ⟨a, len, cap, m, n, D, Pl, hcs, _, hl, hm, hmm, _, hx⟩
  · simp [Value.cells] at hcs
    obtain ⟨rfl, rfl, rfl⟩ := hcs
    exact ⟨[], Nat.zero_le _, .inl ⟨none, 0, rfl, rfl⟩⟩
  · simp [Value.cells] at hcs
    obtain ⟨rfl, rfl, rfl⟩ := hcs
    have hlm : len0 ≤ m := by rw [hmm]; split <;> omega
    have each : ∀ i, i < len0 → ∃ q : I4, (w.cell? (a.add (i * 4)) = some (.int .i64 q.1)) ∧ ∀ g o, a = ⟨g, o, none⟩ → InAt w g (o + i * 4) q := by
      intro i hi
      obtain ⟨cs', h1, h2⟩ := hx i (by omega)
      rw [hC] at h1
      obtain ⟨_, hlen, hcell⟩ := World.cells?_some h1
      obtain ⟨⟨t, b, p, a'⟩, e3, hI⟩ := trod_ins h2 hlen
      subst e3
      have k0 := hcell 0 (by decide)
      have k1 := hcell 1 (by decide)
      have k2 := hcell 2 (by decide)
      have k3 := hcell 3 (by decide)
      rw [add_add] at k0 k1 k2 k3
      refine ⟨(t, b, p, a'), by simpa [i4c] using k0, fun g o e => ?_⟩
      subst e
      rw [add_plain] at k0 k1 k2 k3
      simp only [← Nat.add_assoc] at k0 k1 k2 k3
      exact ⟨hI, World.block_lt_of_cell? w _ k0, by simpa [i4c] using k0, by simpa [i4c] using k1, by simpa [i4c] using k2, by simpa [i4c] using k3⟩
    obtain ⟨q, hq⟩ := choose_lt each
    refine ⟨(List.range len0).map q, by rw [List.length_map, List.length_range]; exact Nat.le_trans hl hm, ?_⟩
    rcases Nat.eq_zero_or_pos len0 with h0 | hpos
    · subst h0
      exact .inl ⟨some a, cap0, rfl, rfl⟩
    · obtain ⟨b, o, s⟩ := a
      have hsp := spot_of_cell (hq 0 hpos).1
      have hs : s = none := by simpa [Addr.add] using hsp
      subst hs
      refine .inr ⟨b, o, cap0, by simp, by simpa using hl, fun j op hj => ?_⟩
      have hj' : j < len0 := by have := (List.getElem?_eq_some_iff.1 hj).1; simpa using this
      have e : q j = op := by simpa [List.getElem?_eq_getElem, hj'] using hj
      rw [← e]
      exact (hq j hj').2 b o rfl
end

theorem InsM.drewN {w : World} {v : Value} {L : List I4} (h : InsM w v L) (n : Nat) : InsM (w.drewN n) v L := h.below (below_drewN (Below.refl _ _) n)
theorem ins_cases (x y : I4) : (x = y) ∨ (¬ x = y ∧ (¬ x.1 = y.1 ∨ (x.1 = y.1 ∧ ¬ x.2.1 = y.2.1) ∨ (x.1 = y.1 ∧ x.2.1 = y.2.1 ∧ ¬ x.2.2.1 = y.2.2.1) ∨ (x.1 = y.1 ∧ x.2.1 = y.2.1 ∧ x.2.2.1 = y.2.2.1 ∧ ¬ x.2.2.2 = y.2.2.2))) := by
  obtain ⟨x0, x1, x2, x3⟩ := x
  obtain ⟨y0, y1, y2, y3⟩ := y
  simp only [Prod.mk.injEq]
  by_cases h0 : x0 = y0 <;> by_cases h1 : x1 = y1 <;> by_cases h2 : x2 = y2 <;> by_cases h3 : x3 = y3 <;> simp [h0, h1, h2, h3]

set_option maxRecDepth 100000 in
set_option maxHeartbeats 1600000 in
theorem rsame_any (v1 v2 : Value) (R S : List I4) (w : World) (h1 : InsM w v1 R) (h2 : InsM w v2 S) (hR : R.length ≤ 1048576) :
    Calls Tryd.prog 21 #[v1, v2] w fun e w' => e = .returned (.bool (decide (R = S))) ∧ ∃ n, w' = w.drewN n := by
  obtain ⟨A1, c1, rfl⟩ := h1.form
  obtain ⟨A2, c2, rfl⟩ := h2.form
  have H1 := Lib.hid h1
  have H2 := Lib.hid h2
  clear h1 h2
  by_cases hl : R.length = S.length
  · have HL := Lib.hid hl
    rw [← hl] at H2 ⊢
    clear hl
    generalize hn : R.length = n at *
    have Hn := Lib.hid hn
    have hR' : (n : Int) ≤ 1048576 := by omega
    clear hn hR
    go_enter Tryd.func21, Tryd.ntmps21
    go_wp2
    go_loopg [5] n (fun k i wr => ∃ j : Nat, j + k = n ∧ i = .int .i64 j ∧ R.take j = S.take j ∧ ∃ d, wr = w.drewN d)
    case atStart => exact ⟨0, by omega, rfl, by rw [List.take_zero, List.take_zero], 0, rfl⟩
    case round =>
      obtain ⟨j, hjk, rfl, ht, d, rfl⟩ := hrel
      have Hjk := Lib.hid hjk
      have Ht := Lib.hid ht
      clear hjk ht
      rcases Nat.lt_or_ge j n with hlt | hge
      · have i1 : (j : Int) < n := by omega
        have hx := List.getElem?_eq_getElem (l := R) (i := j) (by rw [Hn.out]; exact hlt)
        have hy := List.getElem?_eq_getElem (l := S) (i := j) (by rw [← HL.out]; exact hlt)
        generalize R[j]'(by rw [Hn.out]; exact hlt) = x at *
        generalize S[j]'(by rw [← HL.out]; exact hlt) = y at *
        have Hr := Lib.hid (show R.take (j + 1) = R.take j ++ [x] by rw [List.take_add_one, hx]; rfl)
        have Hs := Lib.hid (show S.take (j + 1) = S.take j ++ [y] by rw [List.take_add_one, hy]; rfl)
        have Hne : Hid (¬ x = y → ¬ R = S) := Lib.hid fun h e => h (by rw [e, hy] at hx; exact (Option.some.inj hx).symm)
        obtain ⟨g1, o1, rfl, hc1, _, gl1, c10, c11, c12, c13⟩ := H1.out.at hx
        obtain ⟨g2, o2, rfl, hc2, _, gl2, c20, c21, c22, c23⟩ := H2.out.at hy
        obtain ⟨x0, x1, x2, x3⟩ := x
        obtain ⟨y0, y1, y2, y3⟩ := y
        dsimp only at c10 c11 c12 c13 c20 c21 c22 c23
        have Hlt := Lib.hid hlt
        clear hlt hc1 hc2 hx hy
        rcases ins_cases (x0, x1, x2, x3) (y0, y1, y2, y3) with he | ⟨he, hd⟩
        · cases he
          go_upto_region 6 with fail
          go_quiet (fail)
          go_wp2
          go_roundg (gk - 1)
          case measure => have := Hjk.out; have := Hlt.out; omega
          case rel => exact ⟨j + 1, by have := Hjk.out; have := Hlt.out; omega, by go_num, by rw [Hr.out, Hs.out, Ht.out], _, rfl⟩
        · have hne := Lib.hid (Hne.out he)
          clear he
          dsimp only at hd
          rcases hd with hd | ⟨e1, hd⟩ | ⟨e1, e2, hd⟩ | ⟨e1, e2, e3, hd⟩
          all_goals (go_upto_region 6 with fail)
          all_goals (go_quiet (fail))
          all_goals (go_wp2)
          all_goals (go_ret)
          all_goals exact ⟨by rw [decide_eq_false hne.out]; rfl, _, World.drewN_drewN ..⟩
      · have i1 : ¬ (j : Int) < n := by omega
        have he : R = S := by
          have h := Ht.out
          rwa [List.take_of_length_le (by rw [Hn.out]; omega), List.take_of_length_le (by rw [← HL.out]; omega)] at h
        have He := Lib.hid he
        clear he hge
        go_wp2
        go_ret
        exact ⟨by rw [decide_eq_true He.out]; rfl, d, rfl⟩
  · have hne : ¬ R = S := fun e => hl (by rw [e])
    rw [decide_eq_false hne]
    have h0 : ¬ (R.length : Int) = S.length := by omega
    generalize R.length = n at *
    generalize S.length = m at *
    have hR' : (n : Int) ≤ 1048576 := by omega
    clear hne hl H1 H2
    go_enter Tryd.func21, Tryd.ntmps21
    go_wp2
    go_ret
    exact ⟨rfl, 0, rfl⟩
end Go.Proofs.YtnmjglnllokklaaDoor
