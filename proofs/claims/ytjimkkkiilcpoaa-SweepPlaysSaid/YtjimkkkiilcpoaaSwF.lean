/- What is stored and painted at first: `filled` of layer 10's law. -/
import Derived.Test.YtjimkkkiilcpoaaSwA
import Derived.Test.YtjimkkkiilcpoaaShL
set_option linter.unusedVariables false
set_option linter.unusedSimpArgs false
namespace Go.Proofs.Ytjimkkkiilcpoaa
open Go.RowKit

/-- Bytes, tags, dirty pages behind a call. -/
def fl1 (S : List Int × List Bool × List Bool) (o : Op7) : List Int × List Bool × List Bool :=
  if o.what < 2 then (stD S.2.2.length S.1 o.at_ o.bs, stT S.2.2.length S.2.1 o.at_ o.bs.length, S.2.2)
  else (scD S.2.2.length S.1 o.at_ o.t o.b o.p o.a o.q o.y, scT S.2.2.length S.2.1 o.at_ o.t o.b o.p o.a o.q o.y, scP S.2.2 o.at_ o.t o.b o.p o.a o.q o.y)
def flM (S : List Int × List Bool × List Bool) (L : List Op7) : List Int × List Bool × List Bool := L.foldl fl1 S
def flQ (Q : List Bool) (L : List Pnt) : List Bool := L.foldl (fun Q x => paintL Q x.1 x.2.1 x.2.2) Q
theorem flM_snoc (S : List Int × List Bool × List Bool) (L : List Op7) (o : Op7) : flM S (L ++ [o]) = fl1 (flM S L) o := by simp [flM]
theorem flQ_snoc (Q : List Bool) (L : List Pnt) (x : Pnt) : flQ Q (L ++ [x]) = paintL (flQ Q L) x.1 x.2.1 x.2.2 := by simp [flQ]
theorem take_snoc_at {α : Type} (l : List α) (j : Nat) (x : α) (h : l[j]? = some x) : l.take (j + 1) = l.take j ++ [x] := by rw [List.take_add_one, h]; rfl
/-- A memory and what is painted, behind a base. -/
def Fl (w0 : World) (b bP pm pW : Nat) (S : List Int × List Bool × List Bool) (Q : List Bool) (W0 W : World) : Prop :=
  TmM W b bP S.1 S.2.1 S.2.2 ∧ ShM W pm pW Q ∧ Below w0.heap.size w0 W ∧ Turns [bP, pW] W0 W
def ApF (w0 : World) (b bP pm pW : Nat) : Prop := w0.heap.size ≤ bP ∧ w0.heap.size ≤ pW ∧ bP ≠ pm ∧ bP ≠ pW ∧ b ≠ pW ∧ pm ≠ pW
theorem Fl.grow {w0 : World} {b bP pm pW : Nat} {S : List Int × List Bool × List Bool} {Q : List Bool} {W0 W W1 : World} (h : Fl w0 b bP pm pW S Q W0 W) (hb : Below W.heap.size W W1) : Fl w0 b bP pm pW S Q W0 W1 :=
  ⟨h.1.grow hb, h.2.1.grow hb, below_then h.2.2.1 h.2.2.1.size hb, h.2.2.2.trans (Turns.below hb)⟩
theorem Fl.one {w0 : World} {b bP pm pW : Nat} {S S1 : List Int × List Bool × List Bool} {Q : List Bool} {W0 W W1 : World} (h : Fl w0 b bP pm pW S Q W0 W) (ha : ApF w0 b bP pm pW) (h1 : TmM W1 b bP S1.1 S1.2.1 S1.2.2) (ht : Turns [bP] W W1) : Fl w0 b bP pm pW S1 Q W0 W1 :=
  ⟨h1, h.2.1.turns ht (by simpa using Ne.symm ha.2.2.1) (by simpa using Ne.symm ha.2.2.2.1), below_turns h.2.2.1 ht (by simpa using ha.1), h.2.2.2.trans (ht.sub (by simp))⟩
theorem Fl.two {w0 : World} {b bP pm pW : Nat} {S : List Int × List Bool × List Bool} {Q Q1 : List Bool} {W0 W W1 : World} (h : Fl w0 b bP pm pW S Q W0 W) (ha : ApF w0 b bP pm pW) (h1 : ShM W1 pm pW Q1) (ht : Turns [pW] W W1) : Fl w0 b bP pm pW S Q1 W0 W1 :=
  ⟨h.1.turns ht (by simpa using ha.2.2.2.2.1) (by simpa using ha.2.2.2.1), h1, below_turns h.2.2.1 ht (by simpa using ha.2.1), h.2.2.2.trans (ht.sub (by simp))⟩

set_option maxRecDepth 100000 in
set_option maxHeartbeats 3200000 in
theorem fill_any (w0 : World) (b bP pm pW : Nat) (S : List Int × List Bool × List Bool) (Q : List Bool) (v : Value) (L : List Op7) (vp : Value) (LP : List Pnt) (w : World) (ho : OpsM w0 v L) (hp : OpsR w0 vp LP)
    (hF : Fl w0 b bP pm pW S Q w w) (ha : ApF w0 b bP pm pW) (hl : L.length ≤ 200) (hbs : ∀ o ∈ L, o.bs.length < 9000) (hlp : LP.length ≤ 200) :
    Calls Try.prog 86 #[.pointer (some ⟨b, 0, none⟩), .pointer (some ⟨pm, 0, none⟩), v, vp] w fun e w' => (∃ v, e = .returned v) ∧ Fl w0 b bP pm pW (flM S L) (flQ Q LP) w w' := by
  obtain ⟨A, c, rfl⟩ : ∃ A c, v = .slice A L.length c := ho.form
  obtain ⟨Ap, cp', rfl⟩ : ∃ A c, vp = .slice A LP.length c := hp.form
  have HO := Lib.hid ho
  have HPO := Lib.hid hp
  have HF := Lib.hid hF
  have AP := Lib.hid ha
  have HBS := Lib.hid hbs
  clear ho hp hF ha hbs
  generalize hn : L.length = n at *
  have Hn := Lib.hid hn
  clear hn
  generalize hnp : LP.length = np at *
  have Hnp := Lib.hid hnp
  clear hnp
  have hn2 : (n : Int) ≤ 200 := by omega
  have hnp2 : (np : Int) ≤ 200 := by omega
  clear hl hlp
  go_enter Try.func86, Try.ntmps86
  go_wp2
  go_loopg [8] n (fun gk v8 wr => ∃ j : Nat, j + gk = n ∧ v8 = .int .i64 j ∧ Fl w0 b bP pm pW (flM S (L.take j)) Q w wr)
  case atStart => exact ⟨0, by omega, rfl, HF.out⟩
  case round =>
    obtain ⟨j, hjk, rfl, hS⟩ := hrel
    have HJ := Lib.hid hjk
    have HS2 := Lib.hid hS
    clear hjk hS
    rcases Nat.lt_or_ge j n with hlt | hge
    · have i1 : (j : Int) < n := by omega
      obtain ⟨op, hop⟩ : ∃ op, L[j]? = some op := ⟨_, List.getElem?_eq_getElem (by rw [Hn.out]; exact hlt)⟩
      have hb9 := HBS.out op (List.mem_of_getElem? hop)
      have HTK := Lib.hid (take_snoc_at L j op hop)
      obtain ⟨bo, oo, Ao, co, rfl, hq, hopv, hro, hna, hnb, hx⟩ := HO.out.getX HS2.out.2.2.1 hop
      have HV := Lib.hid hopv
      have HR0 := Lib.hid hro
      have HNA := Lib.hid (hna bP AP.out.1)
      have HX := Lib.hid hx
      have HLT := Lib.hid hlt
      generalize hSS : flM S (L.take j) = SS at *
      have HSS := Lib.hid hSS
      clear hSS
      obtain ⟨wh, ad_, os, t, cb', cp, ca, cq, cy, cn⟩ := op
      dsimp only at *
      obtain ⟨hbo, k0, _⟩ := id hx
      clear hlt hop hopv hnb hx hro hna
      rcases (show wh < 2 ∨ 2 ≤ wh by omega) with hw | hw
      · have HE := Lib.hid (show flM S (L.take (j + 1)) = (stD SS.2.2.length SS.1 ad_ os, stT SS.2.2.length SS.2.1 ad_ os.length, SS.2.2) by rw [HTK.out, flM_snoc, HSS.out, fl1, if_pos hw])
        go_upto_region 4 with fail
        refine wp_flow_lit 11 (fun w' => OpX w' bo (oo + j * 10) (.slice Ao os.length co) ⟨wh, ad_, os, t, cb', cp, ca, cq, cy, cn⟩ ∧ Fl w0 b bP pm pW SS Q w w' ∧ RowU w' (.slice Ao os.length co) os) [none, none, none, none, none, none, none, none, none, none, none]
          (by kernel_rfl) (by kernel_rfl) ⟨HX.out.below (Below.drew (Below.refl _ _)), HS2.out.grow (Below.drew (Below.refl _ _)), HR0.out.below (Below.drew (Below.refl _ _))⟩ (fun w1 w2 h hb => ⟨h.1.below hb, h.2.1.grow hb, h.2.2.below hb⟩) trivial ?_
        clear k0 hbo
        try simp (config := { maxSteps := 10000000 }) only [specV, addF, Act.put, List.setIfInBounds_toArray, List.set_cons_zero, List.set_cons_succ, List.take_succ_cons, List.take_zero, List.drop_succ_cons, List.drop_zero]
        (apply Exists.intro; refine ⟨fun vs w1 hS hB hf => ?_, ?_⟩; (focus (obtain ⟨hbo, k0, k1, k2, k3, k4, k5, k6, k7, k8, k9⟩ := hS.1; clear hS hB hf; go_simp; first | exact ⟨Below.refl _ _, rfl⟩ | exact rfl)); try simp (config := { maxSteps := 10000000 }) only [specV, addF, Act.put, List.setIfInBounds_toArray, List.set_cons_zero, List.set_cons_succ, List.take_succ_cons, List.take_zero, List.drop_succ_cons, List.drop_zero]); (apply Exists.intro; refine ⟨fun vs w1 hS hB hf => ?_, ?_⟩; (focus (obtain ⟨hbo, k0, k1, k2, k3, k4, k5, k6, k7, k8, k9⟩ := hS.1; clear hS hB hf; go_simp; first | exact ⟨Below.refl _ _, rfl⟩ | exact rfl)); try simp (config := { maxSteps := 10000000 }) only [specV, addF, Act.put, List.setIfInBounds_toArray, List.set_cons_zero, List.set_cons_succ, List.take_succ_cons, List.take_zero, List.drop_succ_cons, List.drop_zero]); (apply Exists.intro; refine ⟨fun vs w1 hS hB hf => ?_, ?_⟩; (focus (obtain ⟨hbo, k0, k1, k2, k3, k4, k5, k6, k7, k8, k9⟩ := hS.1; clear hS hB hf; go_simp; first | exact ⟨Below.refl _ _, rfl⟩ | exact rfl)); try simp (config := { maxSteps := 10000000 }) only [specV, addF, Act.put, List.setIfInBounds_toArray, List.set_cons_zero, List.set_cons_succ, List.take_succ_cons, List.take_zero, List.drop_succ_cons, List.drop_zero]); (apply Exists.intro; refine ⟨fun vs w1 hS hB hf => ?_, ?_⟩; (focus (obtain ⟨hbo, k0, k1, k2, k3, k4, k5, k6, k7, k8, k9⟩ := hS.1; clear hS hB hf; go_simp; first | exact ⟨Below.refl _ _, rfl⟩ | exact rfl)); try simp (config := { maxSteps := 10000000 }) only [specV, addF, Act.put, List.setIfInBounds_toArray, List.set_cons_zero, List.set_cons_succ, List.take_succ_cons, List.take_zero, List.drop_succ_cons, List.drop_zero]); (apply Exists.intro; refine ⟨fun vs w1 hS hB hf => ?_, ?_⟩; (focus (obtain ⟨hbo, k0, k1, k2, k3, k4, k5, k6, k7, k8, k9⟩ := hS.1; clear hS hB hf; go_simp; first | exact ⟨Below.refl _ _, rfl⟩ | exact rfl)); try simp (config := { maxSteps := 10000000 }) only [specV, addF, Act.put, List.setIfInBounds_toArray, List.set_cons_zero, List.set_cons_succ, List.take_succ_cons, List.take_zero, List.drop_succ_cons, List.drop_zero]); (apply Exists.intro; refine ⟨fun vs w1 hS hB hf => ?_, ?_⟩; (focus (obtain ⟨hbo, k0, k1, k2, k3, k4, k5, k6, k7, k8, k9⟩ := hS.1; clear hS hB hf; go_simp; first | exact ⟨Below.refl _ _, rfl⟩ | exact rfl)); try simp (config := { maxSteps := 10000000 }) only [specV, addF, Act.put, List.setIfInBounds_toArray, List.set_cons_zero, List.set_cons_succ, List.take_succ_cons, List.take_zero, List.drop_succ_cons, List.drop_zero]); (apply Exists.intro; refine ⟨fun vs w1 hS hB hf => ?_, ?_⟩; (focus (obtain ⟨hbo, k0, k1, k2, k3, k4, k5, k6, k7, k8, k9⟩ := hS.1; clear hS hB hf; go_simp; first | exact ⟨Below.refl _ _, rfl⟩ | exact rfl)); try simp (config := { maxSteps := 10000000 }) only [specV, addF, Act.put, List.setIfInBounds_toArray, List.set_cons_zero, List.set_cons_succ, List.take_succ_cons, List.take_zero, List.drop_succ_cons, List.drop_zero]); (apply Exists.intro; refine ⟨fun vs w1 hS hB hf => ?_, ?_⟩; (focus (obtain ⟨hbo, k0, k1, k2, k3, k4, k5, k6, k7, k8, k9⟩ := hS.1; clear hS hB hf; go_simp; first | exact ⟨Below.refl _ _, rfl⟩ | exact rfl)); try simp (config := { maxSteps := 10000000 }) only [specV, addF, Act.put, List.setIfInBounds_toArray, List.set_cons_zero, List.set_cons_succ, List.take_succ_cons, List.take_zero, List.drop_succ_cons, List.drop_zero]); (apply Exists.intro; refine ⟨fun vs w1 hS hB hf => ?_, ?_⟩; (focus (obtain ⟨hbo, k0, k1, k2, k3, k4, k5, k6, k7, k8, k9⟩ := hS.1; clear hS hB hf; go_simp; first | exact ⟨Below.refl _ _, rfl⟩ | exact rfl)); try simp (config := { maxSteps := 10000000 }) only [specV, addF, Act.put, List.setIfInBounds_toArray, List.set_cons_zero, List.set_cons_succ, List.take_succ_cons, List.take_zero, List.drop_succ_cons, List.drop_zero]); (apply Exists.intro; refine ⟨fun vs w1 hS hB hf => ?_, ?_⟩; (focus (obtain ⟨hbo, k0, k1, k2, k3, k4, k5, k6, k7, k8, k9⟩ := hS.1; clear hS hB hf; go_simp; first | exact ⟨Below.refl _ _, rfl⟩ | exact rfl)); try simp (config := { maxSteps := 10000000 }) only [specV, addF, Act.put, List.setIfInBounds_toArray, List.set_cons_zero, List.set_cons_succ, List.take_succ_cons, List.take_zero, List.drop_succ_cons, List.drop_zero]); (apply Exists.intro; refine ⟨fun vs w1 hS hB hf => ?_, ?_⟩; (focus (obtain ⟨hbo, k0, k1, k2, k3, k4, k5, k6, k7, k8, k9⟩ := hS.1; clear hS hB hf; go_simp; first | exact ⟨Below.refl _ _, rfl⟩ | exact rfl)); try simp (config := { maxSteps := 10000000 }) only [specV, addF, Act.put, List.setIfInBounds_toArray, List.set_cons_zero, List.set_cons_succ, List.take_succ_cons, List.take_zero, List.drop_succ_cons, List.drop_zero])
        intro vs w5 hS hB5 _
        have S5 := Lib.hid hS.2.1
        have R5 := Lib.hid hS.2.2
        clear hS hB5
        dsimp only
        go_wp2_with fail
        refine (tm_storeU b bP SS.1 SS.2.1 SS.2.2 ad_ Ao co os _ S5.out.1 HV.out.2.1 R5.out HV.out.2.2.2.2.2.2.2.2.1 (by omega) HNA.out).mono ?_
        rintro e w6 ⟨rfl, m6, t6⟩
        have S6 := Lib.hid (S5.out.one AP.out (S1 := (stD SS.2.2.length SS.1 ad_ os, stT SS.2.2.length SS.2.1 ad_ os.length, SS.2.2)) m6 t6)
        clear S5 m6 t6 R5
        go_wp2
        go_roundg (gk - 1)
        case measure => have := HJ.out; have := HLT.out; omega
        case rel => exact ⟨j + 1, by have := HJ.out; have := HLT.out; omega, by go_num, by rw [HE.out]; exact S6.out⟩
      · have hw' : ¬ wh < 2 := by omega
        have HE := Lib.hid (show flM S (L.take (j + 1)) = (scD SS.2.2.length SS.1 ad_ t cb' cp ca cq cy, scT SS.2.2.length SS.2.1 ad_ t cb' cp ca cq cy, scP SS.2.2 ad_ t cb' cp ca cq cy) by rw [HTK.out, flM_snoc, HSS.out, fl1, if_neg hw'])
        go_upto_region 5 with fail
        refine wp_flow_lit 11 (fun w' => OpX w' bo (oo + j * 10) (.slice Ao os.length co) ⟨wh, ad_, os, t, cb', cp, ca, cq, cy, cn⟩ ∧ Fl w0 b bP pm pW SS Q w w') [none, none, none, none, none, none, none, none, none, none, none]
          (by kernel_rfl) (by kernel_rfl) ⟨HX.out.below (Below.drew (Below.refl _ _)), HS2.out.grow (Below.drew (Below.refl _ _))⟩ (fun w1 w2 h hb => ⟨h.1.below hb, h.2.grow hb⟩) trivial ?_
        clear k0 hbo
        try simp (config := { maxSteps := 10000000 }) only [specV, addF, Act.put, List.setIfInBounds_toArray, List.set_cons_zero, List.set_cons_succ, List.take_succ_cons, List.take_zero, List.drop_succ_cons, List.drop_zero]
        (apply Exists.intro; refine ⟨fun vs w1 hS hB hf => ?_, ?_⟩; (focus (obtain ⟨hbo, k0, k1, k2, k3, k4, k5, k6, k7, k8, k9⟩ := hS.1; clear hS hB hf; go_simp; first | exact ⟨Below.refl _ _, rfl⟩ | exact rfl)); try simp (config := { maxSteps := 10000000 }) only [specV, addF, Act.put, List.setIfInBounds_toArray, List.set_cons_zero, List.set_cons_succ, List.take_succ_cons, List.take_zero, List.drop_succ_cons, List.drop_zero]); (apply Exists.intro; refine ⟨fun vs w1 hS hB hf => ?_, ?_⟩; (focus (obtain ⟨hbo, k0, k1, k2, k3, k4, k5, k6, k7, k8, k9⟩ := hS.1; clear hS hB hf; go_simp; first | exact ⟨Below.refl _ _, rfl⟩ | exact rfl)); try simp (config := { maxSteps := 10000000 }) only [specV, addF, Act.put, List.setIfInBounds_toArray, List.set_cons_zero, List.set_cons_succ, List.take_succ_cons, List.take_zero, List.drop_succ_cons, List.drop_zero]); (apply Exists.intro; refine ⟨fun vs w1 hS hB hf => ?_, ?_⟩; (focus (obtain ⟨hbo, k0, k1, k2, k3, k4, k5, k6, k7, k8, k9⟩ := hS.1; clear hS hB hf; go_simp; first | exact ⟨Below.refl _ _, rfl⟩ | exact rfl)); try simp (config := { maxSteps := 10000000 }) only [specV, addF, Act.put, List.setIfInBounds_toArray, List.set_cons_zero, List.set_cons_succ, List.take_succ_cons, List.take_zero, List.drop_succ_cons, List.drop_zero]); (apply Exists.intro; refine ⟨fun vs w1 hS hB hf => ?_, ?_⟩; (focus (obtain ⟨hbo, k0, k1, k2, k3, k4, k5, k6, k7, k8, k9⟩ := hS.1; clear hS hB hf; go_simp; first | exact ⟨Below.refl _ _, rfl⟩ | exact rfl)); try simp (config := { maxSteps := 10000000 }) only [specV, addF, Act.put, List.setIfInBounds_toArray, List.set_cons_zero, List.set_cons_succ, List.take_succ_cons, List.take_zero, List.drop_succ_cons, List.drop_zero]); (apply Exists.intro; refine ⟨fun vs w1 hS hB hf => ?_, ?_⟩; (focus (obtain ⟨hbo, k0, k1, k2, k3, k4, k5, k6, k7, k8, k9⟩ := hS.1; clear hS hB hf; go_simp; first | exact ⟨Below.refl _ _, rfl⟩ | exact rfl)); try simp (config := { maxSteps := 10000000 }) only [specV, addF, Act.put, List.setIfInBounds_toArray, List.set_cons_zero, List.set_cons_succ, List.take_succ_cons, List.take_zero, List.drop_succ_cons, List.drop_zero]); (apply Exists.intro; refine ⟨fun vs w1 hS hB hf => ?_, ?_⟩; (focus (obtain ⟨hbo, k0, k1, k2, k3, k4, k5, k6, k7, k8, k9⟩ := hS.1; clear hS hB hf; go_simp; first | exact ⟨Below.refl _ _, rfl⟩ | exact rfl)); try simp (config := { maxSteps := 10000000 }) only [specV, addF, Act.put, List.setIfInBounds_toArray, List.set_cons_zero, List.set_cons_succ, List.take_succ_cons, List.take_zero, List.drop_succ_cons, List.drop_zero]); (apply Exists.intro; refine ⟨fun vs w1 hS hB hf => ?_, ?_⟩; (focus (obtain ⟨hbo, k0, k1, k2, k3, k4, k5, k6, k7, k8, k9⟩ := hS.1; clear hS hB hf; go_simp; first | exact ⟨Below.refl _ _, rfl⟩ | exact rfl)); try simp (config := { maxSteps := 10000000 }) only [specV, addF, Act.put, List.setIfInBounds_toArray, List.set_cons_zero, List.set_cons_succ, List.take_succ_cons, List.take_zero, List.drop_succ_cons, List.drop_zero]); (apply Exists.intro; refine ⟨fun vs w1 hS hB hf => ?_, ?_⟩; (focus (obtain ⟨hbo, k0, k1, k2, k3, k4, k5, k6, k7, k8, k9⟩ := hS.1; clear hS hB hf; go_simp; first | exact ⟨Below.refl _ _, rfl⟩ | exact rfl)); try simp (config := { maxSteps := 10000000 }) only [specV, addF, Act.put, List.setIfInBounds_toArray, List.set_cons_zero, List.set_cons_succ, List.take_succ_cons, List.take_zero, List.drop_succ_cons, List.drop_zero]); (apply Exists.intro; refine ⟨fun vs w1 hS hB hf => ?_, ?_⟩; (focus (obtain ⟨hbo, k0, k1, k2, k3, k4, k5, k6, k7, k8, k9⟩ := hS.1; clear hS hB hf; go_simp; first | exact ⟨Below.refl _ _, rfl⟩ | exact rfl)); try simp (config := { maxSteps := 10000000 }) only [specV, addF, Act.put, List.setIfInBounds_toArray, List.set_cons_zero, List.set_cons_succ, List.take_succ_cons, List.take_zero, List.drop_succ_cons, List.drop_zero]); (apply Exists.intro; refine ⟨fun vs w1 hS hB hf => ?_, ?_⟩; (focus (obtain ⟨hbo, k0, k1, k2, k3, k4, k5, k6, k7, k8, k9⟩ := hS.1; clear hS hB hf; go_simp; first | exact ⟨Below.refl _ _, rfl⟩ | exact rfl)); try simp (config := { maxSteps := 10000000 }) only [specV, addF, Act.put, List.setIfInBounds_toArray, List.set_cons_zero, List.set_cons_succ, List.take_succ_cons, List.take_zero, List.drop_succ_cons, List.drop_zero]); (apply Exists.intro; refine ⟨fun vs w1 hS hB hf => ?_, ?_⟩; (focus (obtain ⟨hbo, k0, k1, k2, k3, k4, k5, k6, k7, k8, k9⟩ := hS.1; clear hS hB hf; go_simp; first | exact ⟨Below.refl _ _, rfl⟩ | exact rfl)); try simp (config := { maxSteps := 10000000 }) only [specV, addF, Act.put, List.setIfInBounds_toArray, List.set_cons_zero, List.set_cons_succ, List.take_succ_cons, List.take_zero, List.drop_succ_cons, List.drop_zero])
        intro vs w5 hS hB5 _
        have S5 := Lib.hid hS.2
        clear hS hB5
        dsimp only
        go_wp2_with fail
        refine (tm_storecapU b bP SS.1 SS.2.1 SS.2.2 ad_ t cb' cp ca cq cy _ S5.out.1 HV.out.2.1 HV.out.2.2.2.2.2.1).mono ?_
        rintro e w6 ⟨rfl, m6, t6⟩
        have S6 := Lib.hid (S5.out.one AP.out (S1 := (scD SS.2.2.length SS.1 ad_ t cb' cp ca cq cy, scT SS.2.2.length SS.2.1 ad_ t cb' cp ca cq cy, scP SS.2.2 ad_ t cb' cp ca cq cy)) m6 t6)
        clear S5 m6 t6
        go_wp2
        go_roundg (gk - 1)
        case measure => have := HJ.out; have := HLT.out; omega
        case rel => exact ⟨j + 1, by have := HJ.out; have := HLT.out; omega, by go_num, by rw [HE.out]; exact S6.out⟩
    · have i1 : ¬ (j : Int) < n := by omega
      have HS3 := HS2.out
      rw [List.take_of_length_le (by rw [Hn.out]; exact hge)] at HS3
      replace HS3 := Lib.hid HS3
      obtain ⟨SF, hSF⟩ : ∃ SF, flM S L = SF := ⟨_, rfl⟩
      rw [hSF] at HS3
      have HSF := Lib.hid hSF
      clear hSF
      clear hge HS2 HF
      go_wp2
      go_loopg [9] np (fun gk v9 wr => ∃ j : Nat, j + gk = np ∧ v9 = .int .i64 j ∧ Fl w0 b bP pm pW SF (flQ Q (LP.take j)) w wr)
      case atStart => exact ⟨0, by omega, rfl, HS3.out⟩
      case round =>
        clear HS3
        obtain ⟨j, hjk, rfl, hS⟩ := hrel
        have HJ := Lib.hid hjk
        have HS2 := Lib.hid hS
        have HPO2 := Lib.hid (HPO.out.below hS.2.2.1)
        clear hjk hS
        rcases Nat.lt_or_ge j np with hlt | hge
        · have i2 : (j : Int) < np := by omega
          obtain ⟨bo, oo, f, t, is, rfl, hLj, hf, ht, hpx⟩ := HPO2.out.pnt j (by rw [Hnp.out]; exact hlt)
          have HTK := Lib.hid (show flQ Q (LP.take (j + 1)) = paintL (flQ Q (LP.take j)) f t is by rw [take_snoc_at LP j _ hLj, flQ_snoc])
          have HLT := Lib.hid hlt
          generalize flQ Q (LP.take j) = QQ at *
          clear hlt hLj
          go_upto_region 9 with fail
          refine wp_flow_lit 16 (fun w' => PntAt w' bo oo j f t is ∧ Fl w0 b bP pm pW SF QQ w w') [none, none, none, none, none, none, none, none, none, none, none, none, none, none, none, none]
            (by kernel_rfl) (by kernel_rfl) ⟨hpx.below (Below.drew (Below.refl _ _)), HS2.out.grow (Below.drew (Below.refl _ _))⟩ (fun w1 w2 h hb => ⟨h.1.below hb, h.2.grow hb⟩) trivial ?_
          try simp (config := { maxSteps := 10000000 }) only [specV, addF, Act.put, List.setIfInBounds_toArray, List.set_cons_zero, List.set_cons_succ, List.take_succ_cons, List.take_zero, List.drop_succ_cons, List.drop_zero]
          (apply Exists.intro; refine ⟨fun vs w1 hS hB hf => ?_, ?_⟩; (focus (obtain ⟨_, c0, c1, c2⟩ := hS.1; clear hS hB hf; go_simp; first | exact ⟨Below.refl _ _, rfl⟩ | exact rfl)); try simp (config := { maxSteps := 10000000 }) only [specV, addF, Act.put, List.setIfInBounds_toArray, List.set_cons_zero, List.set_cons_succ, List.take_succ_cons, List.take_zero, List.drop_succ_cons, List.drop_zero]); (apply Exists.intro; refine ⟨fun vs w1 hS hB hf => ?_, ?_⟩; (focus (obtain ⟨_, c0, c1, c2⟩ := hS.1; clear hS hB hf; go_simp; first | exact ⟨Below.refl _ _, rfl⟩ | exact rfl)); try simp (config := { maxSteps := 10000000 }) only [specV, addF, Act.put, List.setIfInBounds_toArray, List.set_cons_zero, List.set_cons_succ, List.take_succ_cons, List.take_zero, List.drop_succ_cons, List.drop_zero]); (apply Exists.intro; refine ⟨fun vs w1 hS hB hf => ?_, ?_⟩; (focus (obtain ⟨_, c0, c1, c2⟩ := hS.1; clear hS hB hf; go_simp; first | exact ⟨Below.refl _ _, rfl⟩ | exact rfl)); try simp (config := { maxSteps := 10000000 }) only [specV, addF, Act.put, List.setIfInBounds_toArray, List.set_cons_zero, List.set_cons_succ, List.take_succ_cons, List.take_zero, List.drop_succ_cons, List.drop_zero]); (apply Exists.intro; refine ⟨fun vs w1 hS hB hf => ?_, ?_⟩; (focus (obtain ⟨_, c0, c1, c2⟩ := hS.1; clear hS hB hf; go_simp; first | exact ⟨Below.refl _ _, rfl⟩ | exact rfl)); try simp (config := { maxSteps := 10000000 }) only [specV, addF, Act.put, List.setIfInBounds_toArray, List.set_cons_zero, List.set_cons_succ, List.take_succ_cons, List.take_zero, List.drop_succ_cons, List.drop_zero]); (apply Exists.intro; refine ⟨fun vs w1 hS hB hf => ?_, ?_⟩; (focus (obtain ⟨_, c0, c1, c2⟩ := hS.1; clear hS hB hf; go_simp; first | exact ⟨Below.refl _ _, rfl⟩ | exact rfl)); try simp (config := { maxSteps := 10000000 }) only [specV, addF, Act.put, List.setIfInBounds_toArray, List.set_cons_zero, List.set_cons_succ, List.take_succ_cons, List.take_zero, List.drop_succ_cons, List.drop_zero]); (apply Exists.intro; refine ⟨fun vs w1 hS hB hf => ?_, ?_⟩; (focus (obtain ⟨_, c0, c1, c2⟩ := hS.1; clear hS hB hf; go_simp; first | exact ⟨Below.refl _ _, rfl⟩ | exact rfl)); try simp (config := { maxSteps := 10000000 }) only [specV, addF, Act.put, List.setIfInBounds_toArray, List.set_cons_zero, List.set_cons_succ, List.take_succ_cons, List.take_zero, List.drop_succ_cons, List.drop_zero]); (apply Exists.intro; refine ⟨fun vs w1 hS hB hf => ?_, ?_⟩; (focus (obtain ⟨_, c0, c1, c2⟩ := hS.1; clear hS hB hf; go_simp; first | exact ⟨Below.refl _ _, rfl⟩ | exact rfl)); try simp (config := { maxSteps := 10000000 }) only [specV, addF, Act.put, List.setIfInBounds_toArray, List.set_cons_zero, List.set_cons_succ, List.take_succ_cons, List.take_zero, List.drop_succ_cons, List.drop_zero]); (apply Exists.intro; refine ⟨fun vs w1 hS hB hf => ?_, ?_⟩; (focus (obtain ⟨_, c0, c1, c2⟩ := hS.1; clear hS hB hf; go_simp; first | exact ⟨Below.refl _ _, rfl⟩ | exact rfl)); try simp (config := { maxSteps := 10000000 }) only [specV, addF, Act.put, List.setIfInBounds_toArray, List.set_cons_zero, List.set_cons_succ, List.take_succ_cons, List.take_zero, List.drop_succ_cons, List.drop_zero]); (apply Exists.intro; refine ⟨fun vs w1 hS hB hf => ?_, ?_⟩; (focus (obtain ⟨_, c0, c1, c2⟩ := hS.1; clear hS hB hf; go_simp; first | exact ⟨Below.refl _ _, rfl⟩ | exact rfl)); try simp (config := { maxSteps := 10000000 }) only [specV, addF, Act.put, List.setIfInBounds_toArray, List.set_cons_zero, List.set_cons_succ, List.take_succ_cons, List.take_zero, List.drop_succ_cons, List.drop_zero]); (apply Exists.intro; refine ⟨fun vs w1 hS hB hf => ?_, ?_⟩; (focus (obtain ⟨_, c0, c1, c2⟩ := hS.1; clear hS hB hf; go_simp; first | exact ⟨Below.refl _ _, rfl⟩ | exact rfl)); try simp (config := { maxSteps := 10000000 }) only [specV, addF, Act.put, List.setIfInBounds_toArray, List.set_cons_zero, List.set_cons_succ, List.take_succ_cons, List.take_zero, List.drop_succ_cons, List.drop_zero]); (apply Exists.intro; refine ⟨fun vs w1 hS hB hf => ?_, ?_⟩; (focus (obtain ⟨_, c0, c1, c2⟩ := hS.1; clear hS hB hf; go_simp; first | exact ⟨Below.refl _ _, rfl⟩ | exact rfl)); try simp (config := { maxSteps := 10000000 }) only [specV, addF, Act.put, List.setIfInBounds_toArray, List.set_cons_zero, List.set_cons_succ, List.take_succ_cons, List.take_zero, List.drop_succ_cons, List.drop_zero]); (apply Exists.intro; refine ⟨fun vs w1 hS hB hf => ?_, ?_⟩; (focus (obtain ⟨_, c0, c1, c2⟩ := hS.1; clear hS hB hf; go_simp; first | exact ⟨Below.refl _ _, rfl⟩ | exact rfl)); try simp (config := { maxSteps := 10000000 }) only [specV, addF, Act.put, List.setIfInBounds_toArray, List.set_cons_zero, List.set_cons_succ, List.take_succ_cons, List.take_zero, List.drop_succ_cons, List.drop_zero]); (apply Exists.intro; refine ⟨fun vs w1 hS hB hf => ?_, ?_⟩; (focus (obtain ⟨_, c0, c1, c2⟩ := hS.1; clear hS hB hf; go_simp; first | exact ⟨Below.refl _ _, rfl⟩ | exact rfl)); try simp (config := { maxSteps := 10000000 }) only [specV, addF, Act.put, List.setIfInBounds_toArray, List.set_cons_zero, List.set_cons_succ, List.take_succ_cons, List.take_zero, List.drop_succ_cons, List.drop_zero]); (apply Exists.intro; refine ⟨fun vs w1 hS hB hf => ?_, ?_⟩; (focus (obtain ⟨_, c0, c1, c2⟩ := hS.1; clear hS hB hf; go_simp; first | exact ⟨Below.refl _ _, rfl⟩ | exact rfl)); try simp (config := { maxSteps := 10000000 }) only [specV, addF, Act.put, List.setIfInBounds_toArray, List.set_cons_zero, List.set_cons_succ, List.take_succ_cons, List.take_zero, List.drop_succ_cons, List.drop_zero]); (apply Exists.intro; refine ⟨fun vs w1 hS hB hf => ?_, ?_⟩; (focus (obtain ⟨_, c0, c1, c2⟩ := hS.1; clear hS hB hf; go_simp; first | exact ⟨Below.refl _ _, rfl⟩ | exact rfl)); try simp (config := { maxSteps := 10000000 }) only [specV, addF, Act.put, List.setIfInBounds_toArray, List.set_cons_zero, List.set_cons_succ, List.take_succ_cons, List.take_zero, List.drop_succ_cons, List.drop_zero]); (apply Exists.intro; refine ⟨fun vs w1 hS hB hf => ?_, ?_⟩; (focus (obtain ⟨_, c0, c1, c2⟩ := hS.1; clear hS hB hf; go_simp; first | exact ⟨Below.refl _ _, rfl⟩ | exact rfl)); try simp (config := { maxSteps := 10000000 }) only [specV, addF, Act.put, List.setIfInBounds_toArray, List.set_cons_zero, List.set_cons_succ, List.take_succ_cons, List.take_zero, List.drop_succ_cons, List.drop_zero])
          intro vs w5 hS hB5 _
          have S5 := Lib.hid hS.2
          clear hS hB5 hpx
          dsimp only
          go_wp2_with fail
          refine (paint_all pm pW QQ f t is _ hf ht S5.out.2.1 AP.out.2.2.2.2.2).mono ?_
          rintro e w6 ⟨rfl, m6, t6⟩
          have S6 := Lib.hid (S5.out.two AP.out m6 (Turns.grown t6))
          clear S5 m6 t6
          go_wp2
          go_roundg (gk - 1)
          case measure => have := HJ.out; have := HLT.out; omega
          case rel => exact ⟨j + 1, by have := HJ.out; have := HLT.out; omega, by go_num, by rw [HTK.out]; exact S6.out⟩
        · have i2 : ¬ (j : Int) < np := by omega
          have HS4 := HS2.out
          rw [List.take_of_length_le (by rw [Hnp.out]; exact hge)] at HS4
          replace HS4 := Lib.hid HS4
          clear hge HS2
          go_wp2
          exact bodyPost_end (results_none rfl _ _ _) rfl ⟨⟨_, rfl⟩, by rw [HSF.out]; exact HS4.out⟩
end Go.Proofs.Ytjimkkkiilcpoaa
