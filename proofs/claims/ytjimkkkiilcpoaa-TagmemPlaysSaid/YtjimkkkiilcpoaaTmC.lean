/- Memory with tags: Clean, Tags, Dirty of the program's; numbers alike. -/
import Derived.Test.YtjimkkkiilcpoaaTmB
set_option linter.unusedVariables false
set_option linter.unusedSimpArgs false
namespace Go.Proofs.Ytjimkkkiilcpoaa
open Go.RowKit

theorem any_take (l : List Bool) (k : Nat) (h : ∀ j, j < k → l.getD j false = false) : (l.take k).any id = false := by
  rw [List.any_eq_false]
  intro x hx
  obtain ⟨j, hj, rfl⟩ := List.mem_iff_getElem.1 hx
  rw [List.length_take] at hj
  have := h j (by omega)
  rw [List.getD_eq_getElem?_getD, List.getElem?_eq_getElem (by omega)] at this
  simpa using this

set_option maxRecDepth 100000 in
set_option maxHeartbeats 800000 in
theorem idx_bool (b o c m : Nat) (l : List Bool) (w : World) (hl : l.length = m) (hm : (m : Int) ≤ 1000) (hc : ∀ k, k < m → w.cell? ⟨b, o + k, none⟩ = some (.bool (l.getD k false))) (hlt : b < w.heap.size) :
    Calls Try.prog 110 #[.slice (some ⟨b, o, none⟩) m c, .bool true] w fun e w' => (∃ z : Int, e = .returned (.int .i64 z) ∧ decide (0 ≤ z) = l.any id) ∧ w = w' := by
  have HC := Lib.hid hc
  have HL := Lib.hid hl
  clear hc hl
  go_enter Try.func110, Try.ntmps110
  go_wp2
  go_loopg [5, 8] m (fun k u i wr => ∃ j : Nat, j + k = m ∧ i = .int .i64 j ∧ (∀ q, q < j → l.getD q false = false) ∧ w = wr)
  case atStart => exact ⟨0, by omega, rfl, fun q hq => by omega, rfl⟩
  case round =>
    obtain ⟨j, hjk, rfl, hall, rfl⟩ := hrel
    have HA := Lib.hid hall
    have HJ := Lib.hid hjk
    clear hall hjk
    rcases Nat.lt_or_ge j m with h1 | h1
    · have i1 : (j : Int) < m := by omega
      have c1 := HC.out j h1
      have H1 := Lib.hid h1
      clear h1
      cases hv : l.getD j false with
      | false =>
        rw [hv] at c1
        have HV := Lib.hid hv
        clear hv
        go_wp2
        go_roundg (gk - 1)
        case measure => have := HJ.out; have := H1.out; omega
        case rel =>
          refine ⟨j + 1, by have := HJ.out; have := H1.out; omega, by go_num, fun q hq => ?_, rfl⟩
          rcases Nat.lt_or_ge q j with h | h
          · exact HA.out q h
          · rw [show q = j by omega]; exact HV.out
      | true =>
        rw [hv] at c1
        have hany : l.any id = true := by
          rw [List.any_eq_true]
          refine ⟨true, ?_, rfl⟩
          rw [List.getD_eq_getElem?_getD, List.getElem?_eq_getElem (by rw [HL.out]; exact H1.out)] at hv
          simp only [Option.getD_some] at hv
          rw [← hv]
          exact List.getElem_mem _
        have HV := Lib.hid hany
        clear hv hany
        go_wp2
        go_ret
        exact ⟨⟨_, rfl, by rw [HV.out]; simp⟩, rfl⟩
    · have i1 : ¬ (j : Int) < m := by omega
      have hany : l.any id = false := by
        have := any_take l m fun q hq => HA.out q (by omega)
        rwa [List.take_of_length_le (by rw [HL.out]; exact Nat.le_refl _)] at this
      have HV := Lib.hid hany
      clear h1 hany
      go_wp2
      go_ret
      exact ⟨⟨_, rfl, by rw [HV.out]; rfl⟩, rfl⟩

set_option maxRecDepth 100000 in
theorem has_bool (b o c m : Nat) (l : List Bool) (w : World) (hl : l.length = m) (hm : (m : Int) ≤ 1000) (hc : ∀ k, k < m → w.cell? ⟨b, o + k, none⟩ = some (.bool (l.getD k false))) (hlt : b < w.heap.size) :
    Calls Try.prog 101 #[.slice (some ⟨b, o, none⟩) m c, .bool true] w fun e w' => e = .returned (.bool (l.any id)) ∧ w = w' := by
  have g := idx_bool b o c m l w hl hm hc hlt
  clear hc hl
  go_enter Try.func101, Try.ntmps101
  go_wp2_with fail
  refine g.mono ?_
  rintro e w1 ⟨⟨z, rfl, hz⟩, rfl⟩
  clear g
  go_wp2
  go_ret
  exact ⟨by rw [← hz]; rfl, rfl⟩

/-- The tags of a page; may it be cleaned? -/
def pageT (T : List Bool) (i : Nat) : List Bool := (T.drop (i * 16)).take 16
theorem pageT_getD (T : List Bool) (i k : Nat) (hk : k < 16) : (pageT T i).getD k false = T.getD (i * 16 + k) false := by
  simp only [pageT, List.getD_eq_getElem?_getD, List.getElem?_take, if_pos hk, List.getElem?_drop]
def cleanB (T P : List Bool) (i : Int) : Bool := decide (0 ≤ i ∧ i < P.length) && !(pageT T i.toNat).any id

set_option maxRecDepth 100000 in
set_option maxHeartbeats 800000 in
theorem tm_clean (b bP : Nat) (D : List Int) (T P : List Bool) (i : Int) (w : World) (h : TmM w b bP D T P) (hin : inI i) :
    Calls Try.prog 53 #[.pointer (some ⟨b, 0, none⟩), .int .i64 i] w fun e w' => e = .returned (.bool (cleanB T P i)) ∧ TmM w' b bP D T (if cleanB T P i then P.set i.toNat false else P) ∧ Turns [bP] w w' := by
  obtain ⟨i0, i1⟩ := hin
  by_cases hp : 0 ≤ i ∧ i < P.length
  · obtain ⟨hp0, hp1⟩ := hp
    obtain ⟨j, rfl⟩ := Int.eq_ofNat_of_zero_le hp0
    have hj : j < P.length := by omega
    have hlen : (pageT T j).length = 16 := by have := h.1.2.1; simp [pageT]; omega
    have g := has_bool bP (j * 273 + 256) 16 16 (pageT T j) w hlen (by decide) (fun k hk => by rw [pageT_getD T j k hk]; exact (h.tag hj hk).1) h.lt.2
    have L := h.2.2.1.cell
    have hlt := h.lt.1
    obtain ⟨c1, c2⟩ := h.dirty hj
    have hlt2 := h.lt.2
    have hle := h.1.2.2.1
    have H := Lib.hid (h.setDirty hj false)
    have H0 := Lib.hid h
    have e : cleanB T P j = !(pageT T j).any id := by rw [cleanB, decide_eq_true ⟨hp0, hp1⟩, Bool.true_and, Int.toNat_natCast]
    rw [e, Int.toNat_natCast]
    generalize (pageT T j).any id = z at *
    generalize P.getD j false = dd at *
    generalize hn : P.length = n at *
    clear h e hlen i0 i1 hp0 hj hn
    have hx : (16 : Int) ≤ 16 := by decide
    cases z with
    | true =>
      go_enter Try.func53, Try.ntmps53
      go_wp2_with fail
      refine g.mono ?_
      rintro e w1 ⟨rfl, rfl⟩
      clear g
      go_wp2
      go_ret
      exact ⟨rfl, H0.out, Turns.refl _ _⟩
    | false =>
      go_enter Try.func53, Try.ntmps53
      go_wp2_with fail
      refine g.mono ?_
      rintro e w1 ⟨rfl, rfl⟩
      clear g
      go_wp2
      go_ret
      exact ⟨rfl, H.out, Turns.set _ (List.mem_singleton.2 rfl) _ _⟩
  · have e : cleanB T P i = false := by rw [cleanB, decide_eq_false hp]; rfl
    rw [e]
    have L := h.2.2.1.cell
    have hlt := h.lt.1
    have hle := h.1.2.2.1
    have H0 := Lib.hid h
    generalize hn : P.length = n at *
    clear h e hn
    rcases (show i < 0 ∨ (¬ i < 0 ∧ (n : Int) ≤ i) by omega) with h1 | ⟨h1, h2⟩
    · clear hp
      go_enter Try.func53, Try.ntmps53
      go_wp2
      go_ret
      exact ⟨rfl, H0.out, Turns.refl _ _⟩
    · clear hp
      obtain ⟨j, rfl⟩ := Int.eq_ofNat_of_zero_le (show 0 ≤ i by omega)
      go_enter Try.func53, Try.ntmps53
      go_wp2
      go_ret
      exact ⟨rfl, H0.out, Turns.refl _ _⟩

/-- Where those are that are so, of the first j. -/
def posL (f : Nat) (B : List Bool) (j : Nat) : List Int := ((List.range j).filter fun i => B.getD i false).map fun i => ((i * f : Nat) : Int)
theorem posL_succ (f : Nat) (B : List Bool) (j : Nat) : posL f B (j + 1) = posL f B j ++ (if B.getD j false then [((j * f : Nat) : Int)] else []) := by
  simp only [posL, List.range_succ, List.filter_append, List.map_append, List.filter_cons, List.filter_nil]
  split <;> simp
theorem posL_len (f : Nat) (B : List Bool) (j : Nat) : (posL f B j).length ≤ j := by
  simp only [posL, List.length_map]
  exact Nat.le_trans (List.length_filter_le _ _) (by simp)
def i64s (l : List Int) : List Value := l.map (Value.int .i64)
theorem i64s_append (xs ys : List Int) : i64s (xs ++ ys) = i64s xs ++ i64s ys := by simp [i64s]
/-- All tags' places; all dirty pages. -/
def tagsL (T : List Bool) : List Int := posL 16 T T.length
def dirtyL (P : List Bool) : List Int := posL 1 P P.length
theorem infoInt : (Try.prog.info? 3).map (fun i => (i.zero, i.size, i.bytes)) = some (some (.int .i64 0), 1, 8) := by kernel_rfl

set_option maxRecDepth 100000 in
set_option maxHeartbeats 800000 in
theorem tm_size (b bP : Nat) (D : List Int) (T P : List Bool) (w : World) (h : TmM w b bP D T P) :
    Calls Try.prog 68 #[.pointer (some ⟨b, 0, none⟩)] w fun e w' => e = .returned (.int .i64 ((P.length : Int) * 256)) ∧ w = w' := by
  have L := h.2.2.1.cell
  have hlt := h.lt.1
  have hle := h.1.2.2.1
  generalize P.length = n at *
  clear h
  go_enter Try.func68, Try.ntmps68
  go_wp2
  go_ret
  exact ⟨rfl, rfl⟩

set_option maxRecDepth 100000 in
set_option maxHeartbeats 800000 in
theorem tm_tags (b bP : Nat) (D : List Int) (T P : List Bool) (w : World) (h : TmM w b bP D T P) :
    Calls Try.prog 62 #[.pointer (some ⟨b, 0, none⟩)] w fun e w' => ∃ v, e = .returned v ∧ w'.ownsRow w.heap.size 3 1 v (tagsL T).length (i64s (tagsL T)) ∧ Below w.heap.size w w' := by
  have H := Lib.hid h
  have hle := h.1.2.2.1
  have hT := h.1.2.1
  have hrl : tagsL T = posL 16 T T.length := rfl
  generalize tagsL T = RL at *
  generalize hg : P.length = n at *
  have Hg := Lib.hid hg
  have Hrl := Lib.hid hrl
  have HT := Lib.hid hT
  clear h hg hrl hT
  go_enter Try.func62, Try.ntmps62
  go_wp2
  go_loopg [3, 4] (16 * n) (fun k v i wr => ∃ j : Nat, j + k = 16 * n ∧ i = .int .i64 ((j * 16 : Nat) : Int) ∧ wr.ownsRow w.heap.size 3 1 v (posL 16 T j).length (i64s (posL 16 T j)) ∧ Below w.heap.size w wr)
  case atStart => exact ⟨0, by omega, rfl, World.ownsRow_nil _ _ _ _, Below.refl _ _⟩
  case round =>
    obtain ⟨j, hjk, rfl, hown, hb⟩ := hrel
    have h2 := H.out.below hb H.out.lt.1 H.out.lt.2
    have L := h2.2.2.1.cell
    have hlt0 := h2.lt.1
    rw [Hg.out] at L
    have Hjk := Lib.hid hjk
    have Hb := Lib.hid hb
    have Hown := Lib.hid hown
    have Hsz := hb.size
    have hpl := posL_len 16 T j
    rcases Nat.lt_or_ge j (16 * n) with h1 | h1
    · have i1 : ((j * 16 : Nat) : Int) < (n : Int) * 256 := by omega
      have g := tm_tag b bP D T P ((j * 16 : Nat) : Int) wr h2 ⟨by omega, by omega⟩
      have g0 := tm_size b bP D T P wr h2
      rw [Hg.out] at g0
      have e1 : plB P.length ((j * 16 : Nat) : Int) = true := by simp only [plB, decide_eq_true_eq, Hg.out]; omega
      have e2 : tagL T ((j * 16 : Nat) : Int) = T.getD j false := by unfold tagL; congr 1; omega
      rw [e1, Bool.true_and, e2] at g
      have i2 : (j : Int) * 16 ≤ 16777216 := by omega
      have H1 := Lib.hid h1
      have hl2 : (posL 16 T j).length ≤ 1048576 := by omega
      clear hjk hb hown h2 e1 e2 h1 hpl
      have hs := posL_succ 16 T j
      cases hv : T.getD j false with
      | false =>
        rw [hv] at g hs
        have HS := Lib.hid hs
        clear hv hs
        generalize hx : ((j * 16 : Nat) : Int) = x at *
        have HX := Lib.hid hx
        clear hx
        have i3 : x ≤ 16777216 := by have := HX.out; omega
        have i4 : 0 ≤ x := by have := HX.out; omega
        go_wp2_with fail
        refine g0.mono ?_
        rintro e w1 ⟨rfl, rfl⟩
        clear g0
        go_wp2_with fail
        refine g.mono ?_
        rintro e w1 ⟨rfl, rfl⟩
        clear g
        go_wp2
        go_roundg (gk - 1)
        case measure => have := Hjk.out; have := H1.out; omega
        case rel => exact ⟨j + 1, by have := Hjk.out; have := H1.out; omega, by have := HX.out; congr 1; omega, by rw [HS.out, if_neg (by decide), List.append_nil]; exact Hown.out, Hb.out⟩
      | true =>
        rw [hv] at g hs
        have HS := Lib.hid hs
        clear hv hs
        generalize hx : ((j * 16 : Nat) : Int) = x at *
        have HX := Lib.hid hx
        clear hx
        have i3 : x ≤ 16777216 := by have := HX.out; omega
        have i4 : 0 ≤ x := by have := HX.out; omega
        go_wp2_with fail
        refine g0.mono ?_
        rintro e w1 ⟨rfl, rfl⟩
        clear g0
        go_wp2_with fail
        refine g.mono ?_
        rintro e w1 ⟨rfl, rfl⟩
        clear g
        go_wp2_with (first
          | (at_builtin; refine app (w0 := w) (W := wr.alloc _) w.heap.size rfl _ _ 68 3 (.int .i64 0) 1 8 rfl Try.underlying68 infoInt rfl (by decide) (by decide) _ _ _ (i64s [x]) (some ⟨wr.heap.size, 0, none⟩) 1 1 rfl rfl rfl (by intro u hu; simp [i64s] at hu; subst hu; rfl) (Hown.out.alloc _) (RdL.new wr _ _) (Hb.out.alloc Hsz _) (by first | omega | (simp only [World.size_alloc, World.size_drew, World.size_setCell]; omega) | (simp; done) | (simp; omega)) (by omega) ?_; intro v1 w3 hown1 hb2 _))
        go_roundg (gk - 1)
        case measure => have := Hjk.out; have := H1.out; omega
        case rel => exact ⟨j + 1, by have := Hjk.out; have := H1.out; omega, by have := HX.out; congr 1; omega, by rw [HS.out, if_pos trivial, List.length_append, i64s_append]; exact hown1, hb2⟩
    · have i1 : ¬ ((j * 16 : Nat) : Int) < (n : Int) * 256 := by omega
      have e1 : posL 16 T j = RL := by rw [Hrl.out, HT.out]; congr 1; omega
      rw [e1] at hown
      have Hown := Lib.hid hown
      have i2 : ((j * 16 : Nat) : Int) ≤ 16777216 := by omega
      clear hjk hb hown h2 h1 hpl
      go_wp2
      go_ret
      exact ⟨_, rfl, Hown.out, Hb.out⟩

set_option maxRecDepth 100000 in
set_option maxHeartbeats 800000 in
theorem tm_dirty (b bP : Nat) (D : List Int) (T P : List Bool) (w : World) (h : TmM w b bP D T P) :
    Calls Try.prog 64 #[.pointer (some ⟨b, 0, none⟩)] w fun e w' => ∃ v, e = .returned v ∧ w'.ownsRow w.heap.size 3 1 v (dirtyL P).length (i64s (dirtyL P)) ∧ Below w.heap.size w w' := by
  have H := Lib.hid h
  have L0 := h.2.2.1.cell
  have hlt := h.lt.1
  have hle := h.1.2.2.1
  have hrl : dirtyL P = posL 1 P P.length := rfl
  generalize dirtyL P = RL at *
  generalize hg : P.length = n at *
  have Hg := Lib.hid hg
  have Hrl := Lib.hid hrl
  clear h hg hrl
  go_enter Try.func64, Try.ntmps64
  go_wp2
  clear L0
  go_loopg [3, 4, 10] n (fun k v u i wr => ∃ j : Nat, j + k = n ∧ i = .int .i64 j ∧ wr.ownsRow w.heap.size 3 1 v (posL 1 P j).length (i64s (posL 1 P j)) ∧ Below w.heap.size w wr)
  case atStart => exact ⟨0, by omega, rfl, World.ownsRow_nil _ _ _ _, Below.refl _ _⟩
  case round =>
    obtain ⟨j, hjk, rfl, hown, hb⟩ := hrel
    have h2 := H.out.below hb H.out.lt.1 H.out.lt.2
    have L := h2.2.2.1.cell
    have hlt0 := h2.lt.1
    have hlt1 := h2.lt.2
    rw [Hg.out] at L
    have Hjk := Lib.hid hjk
    have Hb := Lib.hid hb
    have Hown := Lib.hid hown
    have Hsz := hb.size
    have hpl := posL_len 1 P j
    rcases Nat.lt_or_ge j n with h1 | h1
    · have i1 : (j : Int) < (n : Int) := by omega
      obtain ⟨c1, _⟩ := h2.dirty (i := j) (by rw [Hg.out]; exact h1)
      have H1 := Lib.hid h1
      have hl2 : (posL 1 P j).length ≤ 65536 := by omega
      clear hjk hb hown h2 h1 hpl
      have hs := posL_succ 1 P j
      cases hv : P.getD j false with
      | false =>
        rw [hv] at c1 hs
        have HS := Lib.hid hs
        clear hv hs
        go_wp2
        go_roundg (gk - 1)
        case measure => have := Hjk.out; have := H1.out; omega
        case rel => exact ⟨j + 1, by have := Hjk.out; have := H1.out; omega, by go_num, by rw [HS.out, if_neg (by decide), List.append_nil]; exact Hown.out, Hb.out⟩
      | true =>
        rw [hv, Nat.mul_one] at hs
        rw [hv] at c1
        have HS := Lib.hid hs
        clear hv hs
        go_wp2_with (first
          | (at_builtin; refine app (w0 := w) (W := wr.alloc _) w.heap.size rfl _ _ 68 3 (.int .i64 0) 1 8 rfl Try.underlying68 infoInt rfl (by decide) (by decide) _ _ _ (i64s [(j : Int)]) (some ⟨wr.heap.size, 0, none⟩) 1 1 rfl rfl rfl (by intro u hu; simp [i64s] at hu; subst hu; rfl) (Hown.out.alloc _) (RdL.new wr _ _) (Hb.out.alloc Hsz _) (by first | omega | (simp only [World.size_alloc, World.size_drew, World.size_setCell]; omega) | (simp; done) | (simp; omega)) (by omega) ?_; intro v1 w3 hown1 hb2 _))
        go_roundg (gk - 1)
        case measure => have := Hjk.out; have := H1.out; omega
        case rel => exact ⟨j + 1, by have := Hjk.out; have := H1.out; omega, by go_num, by rw [HS.out, if_pos trivial, List.length_append, i64s_append]; exact hown1, hb2⟩
    · have i1 : ¬ (j : Int) < (n : Int) := by omega
      have e1 : posL 1 P j = RL := by rw [Hrl.out]; congr 1; omega
      rw [e1] at hown
      have Hown := Lib.hid hown
      clear hjk hb hown h2 h1 hpl
      go_wp2
      go_ret
      exact ⟨_, rfl, Hown.out, Hb.out⟩
end Go.Proofs.Ytjimkkkiilcpoaa
