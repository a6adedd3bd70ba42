/- Memory with tags, the document's: Clean, Tags, Dirty; numbers alike. -/
import Derived.Test.YtjimkkkiilcpoaaTmE
set_option linter.unusedVariables false
set_option linter.unusedSimpArgs false
namespace Go.Proofs.Ytjimkkkiilcpoaa
open Go.RowKit

set_option maxRecDepth 100000 in
set_option maxHeartbeats 800000 in
theorem tr_clean (b bB bT bP : Nat) (D : List Int) (T P : List Bool) (i : Int) (w : World) (h : TrM w b bB bT bP D T P) (hin : inI i) :
    Calls Try.prog 54 #[.pointer (some ⟨b, 0, none⟩), .int .i64 i] w fun e w' => e = .returned (.bool (cleanB T P i)) ∧ TrM w' b bB bT bP D T (if cleanB T P i then P.set i.toNat false else P) ∧ Turns [bB, bT, bP] w w' := by
  obtain ⟨i0, i1⟩ := hin
  by_cases hp : 0 ≤ i ∧ i < P.length
  · obtain ⟨hp0, hp1⟩ := hp
    obtain ⟨j, rfl⟩ := Int.eq_ofNat_of_zero_le hp0
    have hj : j < P.length := by omega
    have hlen : (pageT T j).length = 16 := by have := h.1.2.1; simp [pageT]; omega
    have L := h.2.2.1.cell
    have hlt := h.lt.1
    have hltT := h.lt.2.2.1
    have hltP := h.lt.2.2.2
    obtain ⟨c1, c2⟩ := h.dirty hj
    have hle := h.1.2.2.1
    have hlT := h.1.2.1
    have HT := Lib.hid (fun q (hq : q < 16) => (h.tag (k := j * 16 + q) (by omega)).1)
    have H := Lib.hid (h.setDirty j false)
    have H0 := Lib.hid h
    have e : cleanB T P j = !(pageT T j).any id := by rw [cleanB, decide_eq_true ⟨hp0, hp1⟩, Bool.true_and, Int.toNat_natCast]
    rw [e, Int.toNat_natCast]
    have hfl : (∀ q, q < 16 → T.getD (j * 16 + q) false = false) → (pageT T j).any id = false := fun hall => by
      have := any_take (pageT T j) 16 fun q hq => by rw [pageT_getD T j q hq]; exact hall q hq
      rwa [List.take_of_length_le (by omega)] at this
    have htr : ∀ q, q < 16 → T.getD (j * 16 + q) false = true → (pageT T j).any id = true := fun q hq hv => by
      rw [List.any_eq_true]
      refine ⟨true, ?_, rfl⟩
      rw [← pageT_getD T j q hq, List.getD_eq_getElem?_getD, List.getElem?_eq_getElem (by omega)] at hv
      simp only [Option.getD_some] at hv
      rw [← hv]
      exact List.getElem_mem _
    have HF := Lib.hid hfl
    have HR := Lib.hid htr
    generalize (pageT T j).any id = z at *
    generalize P.getD j false = dd at *
    rw [hlT] at L
    generalize hn : P.length = n at *
    clear h e hlen i0 i1 hp0 hj hn hfl htr hlT
    have k1 : (16 : Int) * j = (j : Int) * 16 := Int.mul_comm _ _
    go_enter Try.func54, Try.ntmps54
    go_wp2
    go_loopg [5] 16 (fun k v wr => ∃ q : Nat, q + k = 16 ∧ v = .int .i64 ((j * 16 + q : Nat) : Int) ∧ (∀ q', q' < q → T.getD (j * 16 + q') false = false) ∧ w = wr)
    case atStart => exact ⟨0, rfl, by congr 1, fun q hq => by omega, rfl⟩
    case round =>
      obtain ⟨q, hqk, rfl, hall, rfl⟩ := hrel
      have HQ := Lib.hid hqk
      have HA := Lib.hid hall
      clear hqk hall
      rcases Nat.lt_or_ge q 16 with h1 | h1
      · have c := HT.out q h1
        have H1 := Lib.hid h1
        have hx3 : ((j * 16 + q : Nat) : Int) < ((n * 16 : Nat) : Int) := by omega
        have hx1 : ((j * 16 + q : Nat) : Int) < (j : Int) * 16 + 16 := by omega
        rw [Nat.mul_comm n 16] at hx3
        have hx4 : ((j * 16 + q : Nat) : Int) ≤ 1048576 := by omega
        clear h1
        cases hv : T.getD (j * 16 + q) false with
        | true =>
          have ez := HR.out q H1.out hv
          subst ez
          rw [hv] at c
          clear hv
          generalize hy : j * 16 + q = y at *
          clear hy
          go_wp2
          go_ret
          exact ⟨rfl, H0.out, Turns.refl _ _⟩
        | false =>
          rw [hv] at c
          have HV := Lib.hid hv
          clear hv
          generalize hy : j * 16 + q = y at *
          have HY := Lib.hid hy
          clear hy
          go_wp2
          go_roundg (gk - 1)
          case measure => have := HQ.out; have := H1.out; omega
          case rel =>
            refine ⟨q + 1, by have := HQ.out; have := H1.out; omega, by have := HY.out; congr 1; omega, fun q' hq' => ?_, rfl⟩
            rcases Nat.lt_or_ge q' q with h | h
            · exact HA.out q' h
            · rw [show q' = q by omega, HY.out]; exact HV.out
      · have ez := HF.out (fun q' hq' => HA.out q' (by omega))
        subst ez
        have hx1 : ¬ ((j * 16 + q : Nat) : Int) < (j : Int) * 16 + 16 := by omega
        have hx4 : ((j * 16 + q : Nat) : Int) ≤ 1048576 := by have := HQ.out; omega
        generalize hy : j * 16 + q = y at *
        clear hy h1
        go_wp2
        go_ret
        exact ⟨rfl, H.out, Turns.set _ (by simp) _ _⟩
  · have e : cleanB T P i = false := by rw [cleanB, decide_eq_false hp]; rfl
    rw [e]
    have L := h.2.2.1.cell
    have hlt := h.lt.1
    have hle := h.1.2.2.1
    have H0 := Lib.hid h
    generalize hn : P.length = n at *
    clear h e hn
    rcases (show i < 0 ∨ (¬ i < 0 ∧ (n : Int) ≤ i) by omega) with h1 | ⟨h1, h2⟩
    · clear hp
      go_enter Try.func54, Try.ntmps54
      go_wp2
      go_ret
      exact ⟨rfl, H0.out, Turns.refl _ _⟩
    · clear hp
      obtain ⟨j, rfl⟩ := Int.eq_ofNat_of_zero_le (show 0 ≤ i by omega)
      go_enter Try.func54, Try.ntmps54
      go_wp2
      go_ret
      exact ⟨rfl, H0.out, Turns.refl _ _⟩

set_option maxRecDepth 100000 in
set_option maxHeartbeats 800000 in
theorem tr_tags (b bB bT bP : Nat) (D : List Int) (T P : List Bool) (w : World) (h : TrM w b bB bT bP D T P) :
    Calls Try.prog 63 #[.pointer (some ⟨b, 0, none⟩)] w fun e w' => ∃ v, e = .returned v ∧ w'.ownsRow w.heap.size 3 1 v (tagsL T).length (i64s (tagsL T)) ∧ Below w.heap.size w w' := by
  have H := Lib.hid h
  have hle : T.length ≤ 1048576 := by have := h.1.2.2.1; have := h.1.2.1; omega
  have hrl : tagsL T = posL 16 T T.length := rfl
  generalize tagsL T = RL at *
  generalize hg : T.length = n at *
  have Hg := Lib.hid hg
  have Hrl := Lib.hid hrl
  clear h hg hrl
  go_enter Try.func63, Try.ntmps63
  go_wp2
  go_loopg [3, 4] n (fun k v i wr => ∃ j : Nat, j + k = n ∧ i = .int .i64 j ∧ wr.ownsRow w.heap.size 3 1 v (posL 16 T j).length (i64s (posL 16 T j)) ∧ Below w.heap.size w wr)
  case atStart => exact ⟨0, by omega, rfl, World.ownsRow_nil _ _ _ _, Below.refl _ _⟩
  case round =>
    obtain ⟨j, hjk, rfl, hown, hb⟩ := hrel
    have h2 := H.out.below hb H.out.lt.1 H.out.lt.2.1 H.out.lt.2.2.1 H.out.lt.2.2.2
    have L := h2.2.2.1.cell
    have hlt0 := h2.lt.1
    have hlt1 := h2.lt.2.2.1
    have hlt2 := h2.lt.2.2.2
    rw [Hg.out] at L
    have Hjk := Lib.hid hjk
    have Hb := Lib.hid hb
    have Hown := Lib.hid hown
    have Hsz := hb.size
    have hpl := posL_len 16 T j
    rcases Nat.lt_or_ge j n with h1 | h1
    · have i1 : (j : Int) < (n : Int) := by omega
      obtain ⟨c1, _⟩ := h2.tag (k := j) (by rw [Hg.out]; exact h1)
      have H1 := Lib.hid h1
      have hl2 : (posL 16 T j).length ≤ 1048576 := by omega
      clear hjk hb hown h2 h1 hpl
      have hs := posL_succ 16 T j
      cases hv : T.getD j false with
      | false =>
        rw [hv] at c1 hs
        have HS := Lib.hid hs
        clear hv hs
        go_wp2
        go_roundg (gk - 1)
        case measure => have := Hjk.out; have := H1.out; omega
        case rel => exact ⟨j + 1, by have := Hjk.out; have := H1.out; omega, by go_num, by rw [HS.out, if_neg (by decide), List.append_nil]; exact Hown.out, Hb.out⟩
      | true =>
        have e16 : ((j * 16 : Nat) : Int) = 16 * (j : Int) := by omega
        rw [hv, e16] at hs
        clear e16
        rw [hv] at c1
        have HS := Lib.hid hs
        clear hv hs
        have i2 : (j : Int) * 16 ≤ 16777216 := by omega
        go_wp2_with (first
          | (at_builtin; refine app (w0 := w) (W := wr.alloc _) w.heap.size rfl _ _ 68 3 (.int .i64 0) 1 8 rfl Try.underlying68 infoInt rfl (by decide) (by decide) _ _ _ (i64s [16 * (j : Int)]) (some ⟨wr.heap.size, 0, none⟩) 1 1 rfl rfl rfl (by intro u hu; simp [i64s] at hu; subst hu; rfl) (Hown.out.alloc _) (RdL.new wr _ _) (Hb.out.alloc Hsz _) (by first | omega | (simp only [World.size_alloc, World.size_drew, World.size_setCell]; omega) | (simp; done) | (simp; omega)) (by omega) ?_; intro v1 w3 hown1 hb2 _))
        go_roundg (gk - 1)
        case measure => have := Hjk.out; have := H1.out; omega
        case rel => exact ⟨j + 1, by have := Hjk.out; have := H1.out; omega, by go_num, by rw [HS.out, if_pos trivial, List.length_append, i64s_append]; exact hown1, hb2⟩
    · have i1 : ¬ (j : Int) < (n : Int) := by omega
      have e1 : posL 16 T j = RL := by rw [Hrl.out]; congr 1; omega
      rw [e1] at hown
      have Hown := Lib.hid hown
      clear hjk hb hown h2 h1 hpl
      go_wp2
      go_ret
      exact ⟨_, rfl, Hown.out, Hb.out⟩

set_option maxRecDepth 100000 in
set_option maxHeartbeats 800000 in
theorem tr_dirty (b bB bT bP : Nat) (D : List Int) (T P : List Bool) (w : World) (h : TrM w b bB bT bP D T P) :
    Calls Try.prog 65 #[.pointer (some ⟨b, 0, none⟩)] w fun e w' => ∃ v, e = .returned v ∧ w'.ownsRow w.heap.size 3 1 v (dirtyL P).length (i64s (dirtyL P)) ∧ Below w.heap.size w w' := by
  have H := Lib.hid h
  have hle : P.length ≤ 1048576 := by have := h.1.2.2.1; have := h.1.2.1; omega
  have hrl : dirtyL P = posL 1 P P.length := rfl
  generalize dirtyL P = RL at *
  generalize hg : P.length = n at *
  have Hg := Lib.hid hg
  have Hrl := Lib.hid hrl
  clear h hg hrl
  go_enter Try.func65, Try.ntmps65
  go_wp2
  go_loopg [3, 4] n (fun k v i wr => ∃ j : Nat, j + k = n ∧ i = .int .i64 j ∧ wr.ownsRow w.heap.size 3 1 v (posL 1 P j).length (i64s (posL 1 P j)) ∧ Below w.heap.size w wr)
  case atStart => exact ⟨0, by omega, rfl, World.ownsRow_nil _ _ _ _, Below.refl _ _⟩
  case round =>
    obtain ⟨j, hjk, rfl, hown, hb⟩ := hrel
    have h2 := H.out.below hb H.out.lt.1 H.out.lt.2.1 H.out.lt.2.2.1 H.out.lt.2.2.2
    have L := h2.2.2.1.cell
    have hlt0 := h2.lt.1
    have hlt1 := h2.lt.2.2.1
    have hlt2 := h2.lt.2.2.2
    rw [Hg.out] at L
    have Hjk := Lib.hid hjk
    have Hb := Lib.hid hb
    have Hown := Lib.hid hown
    have Hsz := hb.size
    have hpl := posL_len 1 P j
    rcases Nat.lt_or_ge j n with h1 | h1
    · have i1 : (j : Int) < (n : Int) := by omega
      obtain ⟨c1, _⟩ := h2.dirty (k := j) (by rw [Hg.out]; exact h1)
      have H1 := Lib.hid h1
      have hl2 : (posL 1 P j).length ≤ 1048576 := by omega
      clear hjk hb hown h2 h1 hpl
      have hs := posL_succ 1 P j
      cases hv : P.getD j false with
      | false =>
        rw [hv] at c1 hs
        have HS := Lib.hid hs
        clear hv hs
        go_wp2
        go_roundg (gk - 1)
        case measure => have := Hjk.out; have := H1.out; omega
        case rel => exact ⟨j + 1, by have := Hjk.out; have := H1.out; omega, by go_num, by rw [HS.out, if_neg (by decide), List.append_nil]; exact Hown.out, Hb.out⟩
      | true =>
        rw [hv, Nat.mul_one] at hs
        rw [hv] at c1
        have HS := Lib.hid hs
        clear hv hs
        have i2 : (j : Int) * 16 ≤ 16777216 := by omega
        go_wp2_with (first
          | (at_builtin; refine app (w0 := w) (W := wr.alloc _) w.heap.size rfl _ _ 68 3 (.int .i64 0) 1 8 rfl Try.underlying68 infoInt rfl (by decide) (by decide) _ _ _ (i64s [(j : Int)]) (some ⟨wr.heap.size, 0, none⟩) 1 1 rfl rfl rfl (by intro u hu; simp [i64s] at hu; subst hu; rfl) (Hown.out.alloc _) (RdL.new wr _ _) (Hb.out.alloc Hsz _) (by first | omega | (simp only [World.size_alloc, World.size_drew, World.size_setCell]; omega) | (simp; done) | (simp; omega)) (by omega) ?_; intro v1 w3 hown1 hb2 _))
        go_roundg (gk - 1)
        case measure => have := Hjk.out; have := H1.out; omega
        case rel => exact ⟨j + 1, by have := Hjk.out; have := H1.out; omega, by go_num, by rw [HS.out, if_pos trivial, List.length_append, i64s_append]; exact hown1, hb2⟩
    · have i1 : ¬ (j : Int) < (n : Int) := by omega
      have e1 : posL 1 P j = RL := by rw [Hrl.out]; congr 1; omega
      rw [e1] at hown
      have Hown := Lib.hid hown
      clear hjk hb hown h2 h1 hpl
      go_wp2
      go_ret
      exact ⟨_, rfl, Hown.out, Hb.out⟩

end Go.Proofs.Ytjimkkkiilcpoaa
