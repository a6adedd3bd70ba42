/- Lines; the document's, and the program's. -/
import Derived.Test.YtnmjglnllokklaaDoorAsQ
import Derived.Test.YtnmjglnllokklaaDoorAsU
import Derived.Test.YtnmjglnllokklaaDoorAsK
import Derived.Test.YtnmjglnllokklaaDoorAsShelf
set_option linter.unusedVariables false
set_option linter.unusedSimpArgs false
namespace Go.Proofs.YtnmjglnllokklaaDoor
open Go.RowKit

theorem text4_nil {x : I4} : right4 x = false → tx4 x = [] := fun h => text_none h
theorem text4_some {x : I4} (h : right4 x = true) : tx4 x ≠ [] := text_some h
/-- What a text that is or is none answers to "". -/
theorem text_empty (x : I4) : (right4 x = true ∧ ¬ (textS x.1 x.2.1 x.2.2.1 x.2.2.2).toList = [] ∧ (textS x.1 x.2.1 x.2.2.1 x.2.2.2).toList.isEmpty = false) ∨ (right4 x = false ∧ textS x.1 x.2.1 x.2.2.1 x.2.2.2 = ⟨#[]⟩) := by
  cases h : right4 x with
  | false => exact .inr ⟨rfl, by unfold textS; rw [show textL x.1 x.2.1 x.2.2.1 x.2.2.2 = [] from text_none h]⟩
  | true =>
    have hn : ¬ (textS x.1 x.2.1 x.2.2.1 x.2.2.2).toList = [] := fun e => by
      have h1 : textS x.1 x.2.1 x.2.2.1 x.2.2.2 = ⟨#[]⟩ := (Lib.bytes_beq_iff _ _).1 (by rw [e]; decide +kernel)
      have h2 : tx4 x = [] := by
        have := congrArg (fun b : ByteArray => b.data.toList) h1
        simpa [textS, tx4] using this
      exact text4_some h h2
    refine .inl ⟨rfl, hn, ?_⟩
    cases hh : (textS x.1 x.2.1 x.2.2.1 x.2.2.2).toList.isEmpty with
    | false => rfl
    | true => exact absurd (List.isEmpty_iff.1 hh) hn
theorem lnS_take_succ {L : List I4} {j : Nat} {q : I4} (h : L[j]? = some q) : lnS (L.take (j + 1)) = lnS (L.take j) ++ lnX q := by
  rw [List.take_add_one, h]
  exact lnS_snoc _ _
theorem lnS_take_len {L : List I4} (h : ∀ x ∈ L, InI x) (hl : L.length ≤ 200) (j : Nat) : (lnS (L.take j)).length ≤ 40200 := by
  have h1 := lnS_len (L.take j) (fun x hx => h x (List.mem_of_mem_take hx))
  rw [List.length_take] at h1
  omega

set_option maxRecDepth 100000 in
set_option maxHeartbeats 1600000 in
theorem rlines_any (v : Value) (L : List I4) (w : World) (h : Env w) (hL : InsM w v L) (hl : L.length ≤ 200) :
    Calls Tryd.prog 20 #[v] w fun e w' => e = .returned (.string ⟨(lnS L).toArray⟩) ∧ Below w.heap.size w w' := by
  obtain ⟨A, c, rfl⟩ := hL.form
  have HE := Lib.hid h
  have HL := Lib.hid hL
  have HI := Lib.hid hL.all
  have HN := Lib.hid hl
  have HLN := Lib.hid (lnS_take_len hL.all hl)
  clear h hL hl
  obtain ⟨n, hn⟩ : ∃ n, L.length = n := ⟨_, rfl⟩
  rw [hn] at HL HN ⊢
  have Hn := Lib.hid hn
  have hn2 : (n : Int) ≤ 200 := by have := HN.out; omega
  clear hn
  go_enter Tryd.func20, Tryd.ntmps20
  go_wp2_with fail
  go_loopg [3, 4, 5] n (fun k v3 v4 v5 wr => ∃ j : Nat, j + k = n ∧ v4 = .int .i64 j ∧ (∃ t : ByteArray, v3 = .string t ∧ t = ⟨(lnS (L.take j)).toArray⟩) ∧ Below w.heap.size w wr)
  case atStart => exact ⟨0, by omega, rfl, ⟨_, rfl, rfl⟩, Below.refl _ _⟩
  case round =>
    obtain ⟨j, hjk, rfl, ⟨t, rfl, ht⟩, hb⟩ := hrel
    have HJ := Lib.hid hjk
    have HT := Lib.hid ht
    have HB := Lib.hid hb
    have ht2 : t.size ≤ 40200 := by rw [ht]; show (List.toArray _).size ≤ _; rw [List.size_toArray]; exact HLN.out j
    clear hjk ht hb
    rcases Nat.lt_or_ge j n with hlt | hge
    · have i1 : (j : Int) < n := by omega
      have hx := List.getElem?_eq_getElem (l := L) (i := j) (by rw [Hn.out]; exact hlt)
      generalize L[j]'(by rw [Hn.out]; exact hlt) = x at *
      have HX := Lib.hid (lnS_take_succ hx)
      obtain ⟨g1, o1, rfl, hc1, hi, gl1, c10, c11, c12, c13⟩ := ((HL.out.below HB.out).at hx)
      have GT := Lib.hid (fun W hW => rtext_any x.1 x.2.1 x.2.2.1 x.2.2.2 W hW hi.1 hi.2.1 hi.2.2.1 hi.2.2.2)
      have hcase := text_empty x
      have hts : (textS x.1 x.2.1 x.2.2.1 x.2.2.2).size ≤ 200 := by show (List.toArray _).size ≤ _; rw [List.size_toArray]; exact text4_len x hi.2.1 hi.2.2.1 hi.2.2.2
      have HTX := Lib.hid (show textS x.1 x.2.1 x.2.2.1 x.2.2.2 = ⟨(tx4 x).toArray⟩ from rfl)
      generalize textS x.1 x.2.1 x.2.2.1 x.2.2.2 = tx at *
      have HLT := Lib.hid hlt
      have hc2 : (n : Int) ≤ c := by omega
      clear hlt hx hi hc1
      go_wp2_with fail
      refine (GT.out _ (HE.out.grow HB.out)).mono ?_
      rintro e w5 ⟨rfl, b5⟩
      have HB5 := Lib.hid (below_then HB.out HB.out.size b5)
      clear b5 c10 c11 c12 c13 gl1 HB
      rcases hcase with ⟨hr, h1, h2⟩ | ⟨hr, h1⟩
      · have HR := Lib.hid (show lnX x = tx4 x ++ [10] by unfold lnX; rw [hr, if_pos rfl])
        clear hr
        go_wp2
        go_roundg (gk - 1)
        case measure => have := HJ.out; have := HLT.out; omega
        case rel =>
          refine ⟨j + 1, by have := HJ.out; have := HLT.out; omega, by go_num, ⟨_, rfl, ?_⟩, HB5.out⟩
          rw [HX.out, HR.out, HT.out, HTX.out, show (⟨#[10]⟩ : ByteArray) = ⟨[10].toArray⟩ from rfl, ba_app, ba_app, List.append_assoc]
      · have HR := Lib.hid (show lnX x = [] by unfold lnX; rw [hr, if_neg (by decide)])
        subst h1
        clear hr
        go_wp2
        go_roundg (gk - 1)
        case measure => have := HJ.out; have := HLT.out; omega
        case rel =>
          refine ⟨j + 1, by have := HJ.out; have := HLT.out; omega, by go_num, ⟨_, rfl, ?_⟩, HB5.out⟩
          rw [HX.out, HR.out, HT.out, List.append_nil]
    · have i1 : ¬ (j : Int) < n := by omega
      have HZ := Lib.hid (show L.take j = L from List.take_of_length_le (by rw [Hn.out]; exact hge))
      clear hge
      go_wp2
      go_ret
      exact ⟨by rw [HT.out, HZ.out]; rfl, HB.out⟩

/-- A builder of the call's own. -/
theorem isB_below {T e : TypeId} {B b : Nat} {bs : List Value} {w w1 : World} (h : Lib.IsBuilder T e B b bs w) (hb : Below w.heap.size w w1) : Lib.IsBuilder T e B b bs w1 := by
  have step : ∀ p, Lib.BuilderAt T e B b p bs w → Lib.BuilderAt T e B b p bs w1 := fun p ⟨h1, v, h2, h3, h4⟩ =>
    ⟨h1, v, (hb.block b (Array.getElem?_eq_some_iff.1 h2).1).trans h2, own_below h3 hb, h4⟩
  rcases h with h | h
  · exact .inl (step _ h)
  · exact .inr (step _ h)
theorem write_string (B b : Nat) (bs : List Value) (s : ByteArray) (w : World) (h : Lib.IsBuilder 64 5 B b bs w) (hlen : bs.length + s.size ≤ 140737488355328) (hBw : B ≤ w.heap.size) :
    Calls Tryd.prog 37 #[.pointer (some ⟨b, 0, none⟩), .string s] w fun e w' => e = .returned (.tuple #[.int .i64 s.size, .nilIface]) ∧ (Lib.BuilderAt 64 5 B b (.pointer (some ⟨b, 0, none⟩)) (bs ++ Lib.strCells s) w' ∧ Below B w w') :=
  Any.Builder_WriteString { Tryd.lays156 with } { Tryd.Builder_Extra_156 with } B b bs s w h hlen hBw

set_option maxRecDepth 100000 in
set_option maxHeartbeats 1600000 in
theorem lines_any (v : Value) (L : List I4) (w : World) (h : Env w) (hL : InsM w v L) (hl : L.length ≤ 200) :
    Calls Tryd.prog 19 #[v] w fun e w' => e = .returned (.string ⟨(lnS L).toArray⟩) ∧ Below w.heap.size w w' := by
  obtain ⟨A, c, rfl⟩ := hL.form
  have HE := Lib.hid h
  have HL := Lib.hid hL
  have HN := Lib.hid hl
  have HLN := Lib.hid (lnS_take_len hL.all hl)
  clear h hL hl
  obtain ⟨n, hn⟩ : ∃ n, L.length = n := ⟨_, rfl⟩
  rw [hn] at HL HN ⊢
  have Hn := Lib.hid hn
  have hn2 : (n : Int) ≤ 200 := by have := HN.out; omega
  clear hn
  go_enter Tryd.func19, Tryd.ntmps19
  go_wp2_with fail
  obtain ⟨W1, hW1⟩ : ∃ W1, w.alloc (.cells #[.pointer none, .slice none 0 0] 64) = W1 := ⟨_, rfl⟩
  have B1 := Lib.hid (show Below w.heap.size w W1 by rw [← hW1]; go_grown)
  have K1 := Lib.hid (show Lib.IsBuilder 64 5 w.heap.size w.heap.size (Lib.byteCells []) W1 from .inl ⟨Nat.le_refl _, .slice none 0 0, by rw [← hW1]; exact Blk.new w _ _, World.ownsRow_nil _ _ _ _, by simp [Value.ownBlock]⟩)
  rw [hW1]
  obtain ⟨kb, hkb⟩ : ∃ kb, w.heap.size = kb := ⟨_, rfl⟩
  have HKB := Lib.hid hkb
  rw [hkb] at K1 B1 ⊢
  clear hW1 hkb
  go_loopg [5, 6, 9] n (fun k v5 v6 v9 wr => ∃ j : Nat, j + k = n ∧ v9 = .int .i64 j ∧ Lib.IsBuilder 64 5 kb kb (Lib.byteCells (lnS (L.take j))) wr ∧ Below kb w wr)
  case atStart => exact ⟨0, by omega, rfl, K1.out, B1.out⟩
  case round =>
    obtain ⟨j, hjk, rfl, hk, hb⟩ := hrel
    have HJ := Lib.hid hjk
    have HK := Lib.hid hk
    have HB := Lib.hid hb
    clear hjk hk hb
    rcases Nat.lt_or_ge j n with hlt | hge
    · have i1 : (j : Int) < n := by omega
      have hx := List.getElem?_eq_getElem (l := L) (i := j) (by rw [Hn.out]; exact hlt)
      generalize L[j]'(by rw [Hn.out]; exact hlt) = x at *
      have HX := Lib.hid (lnS_take_succ hx)
      obtain ⟨g1, o1, rfl, hc1, hi, gl1, c10, c11, c12, c13⟩ := ((HL.out.below (HKB.out ▸ HB.out)).at hx)
      have GT := Lib.hid (fun W hW => text_any x.1 x.2.1 x.2.2.1 x.2.2.2 W hW hi.1 hi.2.1 hi.2.2.1 hi.2.2.2)
      have hcase := text_empty x
      have hts : (textS x.1 x.2.1 x.2.2.1 x.2.2.2).size ≤ 200 := by show (List.toArray _).size ≤ _; rw [List.size_toArray]; exact text4_len x hi.2.1 hi.2.2.1 hi.2.2.2
      have HTX := Lib.hid (show textS x.1 x.2.1 x.2.2.1 x.2.2.2 = ⟨(tx4 x).toArray⟩ from rfl)
      generalize textS x.1 x.2.1 x.2.2.1 x.2.2.2 = tx at *
      obtain ⟨x0, x1, x2, x3⟩ := x
      dsimp only at c10 c11 c12 c13 GT
      have HLT := Lib.hid hlt
      have hc2 : (n : Int) ≤ c := by omega
      clear hlt hx hi hc1
      go_wp2_with fail
      obtain ⟨W2, hW2⟩ : ∃ W2, wr.alloc (.cells #[.int .i64 (x0), .int .i64 (x1), .int .i64 (x2), .int .i64 (x3)] 23) = W2 := ⟨_, rfl⟩
      have b2 : Below wr.heap.size wr W2 := by rw [← hW2]; go_grown
      have HB2 := Lib.hid (below_then HB.out (HKB.out ▸ HB.out.size) b2)
      have HK2 := Lib.hid (isB_below HK.out b2)
      rw [hW2]
      clear hW2 b2 c10 c11 c12 c13 gl1 HB HK
      refine (GT.out _ (HE.out.grow (HKB.out ▸ HB2.out))).mono ?_
      rintro e w5 ⟨rfl, b5⟩
      have HB5 := Lib.hid (below_then HB2.out (HKB.out ▸ HB2.out.size) b5)
      have HK5 := Lib.hid (isB_below HK2.out b5)
      clear b5 HB2 HK2
      rcases hcase with ⟨hr, h1, h2⟩ | ⟨hr, h1⟩
      · have HR := Lib.hid (show lnX (x0, x1, x2, x3) = tx4 (x0, x1, x2, x3) ++ [10] by unfold lnX; rw [hr, if_pos rfl])
        clear hr
        go_wp2_with fail
        have hkl := HLN.out j
        have g := write_string kb kb _ (tx ++ ⟨#[10]⟩) w5 HK5.out (by
          rw [Lib.byteCells_length]
          have : (tx ++ (⟨#[10]⟩ : ByteArray)).size = tx.size + 1 := by rw [ByteArray.size_append]; rfl
          omega) (by have := HB5.out.size; have := HKB.out; omega)
        refine g.mono ?_
        clear g hkl
        rintro e w7 ⟨rfl, k7, b7⟩
        have HK7 := Lib.hid (show Lib.IsBuilder 64 5 kb kb _ w7 from .inr k7)
        have HB7 := Lib.hid (HB5.out.trans b7)
        clear k7 b7 HK5 HB5
        go_wp2
        go_roundg (gk - 1)
        case measure => have := HJ.out; have := HLT.out; omega
        case rel =>
          refine ⟨j + 1, by have := HJ.out; have := HLT.out; omega, by go_num, ?_, HB7.out⟩
          rw [HX.out, HR.out, Lib.byteCells_append]
          have := HK7.out
          rw [HTX.out, show (⟨#[10]⟩ : ByteArray) = ⟨[10].toArray⟩ from rfl, ba_app, Lib.strCells_toArray] at this
          exact this
      · have HR := Lib.hid (show lnX (x0, x1, x2, x3) = [] by unfold lnX; rw [hr, if_neg (by decide)])
        subst h1
        clear hr
        go_wp2
        go_roundg (gk - 1)
        case measure => have := HJ.out; have := HLT.out; omega
        case rel =>
          refine ⟨j + 1, by have := HJ.out; have := HLT.out; omega, by go_num, ?_, HB5.out⟩
          rw [HX.out, HR.out, List.append_nil]
          exact HK5.out
    · have i1 : ¬ (j : Int) < n := by omega
      have HZ := Lib.hid (show L.take j = L from List.take_of_length_le (by rw [Hn.out]; exact hge))
      clear hge
      rw [HZ.out] at HK
      go_wp2_with fail
      refine (Tryd.Builder_String_any kb kb _ wr HK.out (by have := HB.out.size; have := HKB.out; omega)).mono ?_
      rintro e w9 ⟨rfl, b9⟩
      have HB9 := Lib.hid (HB.out.trans b9)
      clear b9
      go_wp2
      go_ret
      first | exact ⟨rfl, HB9.out⟩ | exact ⟨rfl, by rw [HKB.out]; exact HB9.out⟩
end Go.Proofs.YtnmjglnllokklaaDoor
