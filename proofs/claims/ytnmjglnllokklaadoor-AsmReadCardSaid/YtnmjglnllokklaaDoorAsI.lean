/- Read; the program's. -/
import Derived.Test.YtnmjglnllokklaaDoorAsH
import Derived.RangeFuncBox
import Derived.Maps.AppendAt
import Derived.Maps.OwnIn
set_option linter.unusedVariables false
set_option linter.unusedSimpArgs false
namespace Go.Proofs.YtnmjglnllokklaaDoor
open Go.RowKit Go.Shelf Go.Maps
attribute [local go_sem] Oper.semAt_some

abbrev I4 := Int × Int × Int × Int
def i4c (x : I4) : List Value := [.int .i64 x.1, .int .i64 x.2.1, .int .i64 x.2.2.1, .int .i64 x.2.2.2]
def i4s (l : List I4) : List Value := l.flatMap i4c
theorem i4s_snoc (l : List I4) (x : I4) : i4s (l ++ [x]) = i4s l ++ i4c x := by simp [i4s]
def cutB (x : ByteArray) : ByteArray := ⟨(Lib.trimSuffix x.data.toList [10]).toArray⟩
def wholeB (x : ByteArray) : Bool := Lib.hasSuffix x.data.toList [10]
def goodB (x : ByteArray) : Bool := wholeB x && parseB (cutB x)
def parseT (t : ByteArray) : I4 := (opIx t, pNum t 0, pNum t 1, pNum t 2)
def rdOk (xs : List ByteArray) : Bool := xs.all goodB
def rdN (xs : List ByteArray) : Nat := (xs.takeWhile goodB).length
def rdT (xs : List ByteArray) : List I4 := if rdOk xs then xs.map fun x => parseT (cutB x) else []
theorem parseV_of {t : ByteArray} (h : parseB t = true) : parseV t = .agg (i4c (parseT t)).toArray := by unfold parseV; rw [h, if_pos rfl]; rfl
theorem cutB_size (x : ByteArray) : (cutB x).size ≤ x.size := by
  have : (Lib.trimSuffix x.data.toList [10]).length ≤ x.data.toList.length := by
    unfold Lib.trimSuffix
    split
    · exact List.length_take_le' _ _
    · exact Nat.le_refl _
  show (List.toArray _).size ≤ _
  rw [List.size_toArray]
  rw [Array.length_toList] at this
  exact this
theorem linesL_len : ∀ (l : List UInt8), (linesL l).length ≤ l.length
  | [] => Nat.le_refl _
  | c :: r => by
    have := linesL_len r
    rw [linesL]
    split
    · simp; omega
    · split
      · simp
      · rename_i h; rw [h] at this; simp at this ⊢; omega
theorem linesL_size : ∀ (l : List UInt8), ∀ x ∈ linesL l, x.length ≤ l.length
  | [], x, hx => by cases hx
  | c :: r, x, hx => by
    have := linesL_size r
    rw [linesL] at hx
    split at hx
    · rcases List.mem_cons.1 hx with h | h
      · subst h; simp
      · have := this x h; simp; omega
    · split at hx
      · rcases List.mem_cons.1 hx with h | h
        · subst h; simp
        · cases h
      · rename_i y ys h
        rw [h] at this
        rcases List.mem_cons.1 hx with h | h
        · subst h; have := this y (by simp); simp; omega
        · have := this x (by simp [h]); simp; omega
theorem linesB_len (s : ByteArray) : (linesB s).length ≤ s.size := by
  unfold linesB
  rw [List.length_map]
  exact Nat.le_trans (linesL_len _) (by rw [Array.length_toList]; exact Nat.le_refl _)
theorem linesB_size (s : ByteArray) : ∀ x ∈ linesB s, x.size ≤ s.size := fun x hx => by
  obtain ⟨l, hl, rfl⟩ := List.mem_map.1 hx
  have := linesL_size _ l hl
  rw [Array.length_toList] at this
  show (List.toArray _).size ≤ _
  rw [List.size_toArray]
  exact this
theorem takeWhile_all {α : Type} {p : α → Bool} {xs : List α} (h : xs.all p = true) : xs.takeWhile p = xs := by
  induction xs with
  | nil => rfl
  | cons x xs ih =>
    rw [List.all_cons, Bool.and_eq_true] at h
    rw [List.takeWhile_cons, if_pos h.1, ih h.2]
theorem rd_stop {xs : List ByteArray} {k : Nat} {x : ByteArray} (h : (xs.take k).all goodB = true) (hx : xs[k]? = some x) (hb : goodB x = false) : rdOk xs = false ∧ rdN xs = k := by
  have hk := (List.getElem?_eq_some_iff.1 hx).1
  have e : xs = xs.take k ++ x :: xs.drop (k + 1) := by
    have h2 : xs[k] = x := (List.getElem?_eq_some_iff.1 hx).2
    rw [← h2, ← List.drop_eq_getElem_cons hk, List.take_append_drop]
  have h1 : rdOk xs = false := by unfold rdOk; rw [e, List.all_append, List.all_cons, hb]; simp
  refine ⟨h1, ?_⟩
  unfold rdN
  rw [e, List.takeWhile_append_of_pos (by simpa using List.all_eq_true.1 h), List.takeWhile_cons, hb, if_neg (by decide), List.append_nil, List.length_take]
  omega
theorem infoIns : (Tryd.prog.info? 23).map (fun i => (i.zero, i.size, i.bytes)) = some (some (.agg #[.int .i64 (0), .int .i64 (0), .int .i64 (0), .int .i64 (0)]), 4, 32) := by kernel_rfl

theorem KpL.refl (bx : Nat) (W : World) : KpL bx W W := rfl
theorem Blk.putObj {W : World} {b l : Nat} {cs : Array Value} {e : TypeId} {o : Obj} (h : Blk W b cs e) (hn : b ≠ l) : Blk (W.putObj l o) b cs e := (World.putObj_heap_other hn).trans h
theorem Blk.turns {w w1 : World} {b : Nat} {cs : Array Value} {e : TypeId} {bs : List Nat} (h : Blk w b cs e) (ht : Turns bs w w1) (hn : b ∉ bs) : Blk w1 b cs e := (ht.block b h.lt hn).trans h
theorem Blk.own {W W' : World} {row : Option Nat} {b : Nat} {cs : Array Value} {e : TypeId} (h : Blk W b cs e) (hg : W.grownBy W' row) (hr : ∀ r, row = some r → ∃ o : Obj, W.heap[r]? = some o ∧ o.isCells = false) : Blk W' b cs e :=
  h.grown hg fun e' => by
    obtain ⟨o, ho, hc⟩ := hr b e'.symm
    unfold Blk at h
    rw [h] at ho
    cases ho
    cases hc
theorem KeepsOthers.turns {A B : World} {bs : List Nat} (h : Turns bs A B) (hb : ∀ b ∈ bs, ∃ cs e, Blk A b cs e) : KeepsOthers A B :=
  ⟨h.size, fun k o hk ho => (h.block k (Array.getElem?_eq_some_iff.1 hk).1 (fun hm => by
    obtain ⟨cs, e, hB⟩ := hb k hm
    unfold Blk at hB
    rw [hB] at hk
    cases hk
    cases ho)).trans hk⟩
theorem own_own {W W' : World} {row : Option Nat} {base : Nat} {e : TypeId} {size : Nat} {v : Value} {k : Nat} {xs : List Value} (h : W.ownsRow base e size v k xs) (hg : W.grownBy W' row) (hr : ∀ r, row = some r → ∃ o : Obj, W.heap[r]? = some o ∧ o.isCells = false) : W'.ownsRow base e size v k xs := by
  refine h.kept hg ?_
  cases hv : v.ownBlock with
  | none => exact .inl rfl
  | some g =>
    refine .inr fun e1 => ?_
    obtain ⟨c, hc⟩ := own_kind h _ hv
    obtain ⟨o, ho, hk⟩ := hr g e1.symm
    rw [hc] at ho
    cases ho
    cases hk
theorem below_own {B : Nat} {w W W' : World} {row : Option Nat} (h : Below B w W) (hg : W.grownBy W' row) (hr : ∀ r, row = some r → B ≤ r) (hB : B ≤ W.heap.size) : Below B w W' :=
  ⟨hg.os.trans h.os, hg.tape.trans h.tape, hg.output.trans h.output, Nat.le_trans h.size hg.size, fun k hk => (hg.block k (by omega) (fun e => by have := hr k e.symm; omega)).trans (h.block k hk)⟩
theorem below_turns {B : Nat} {w W W' : World} {bs : List Nat} (h : Below B w W) (ht : Turns bs W W') (hb : ∀ b ∈ bs, B ≤ b) (hB : B ≤ W.heap.size) : Below B w W' :=
  ⟨ht.os.trans h.os, ht.tape.trans h.tape, ht.output.trans h.output, Nat.le_trans h.size ht.size, fun k hk => (ht.block k (by omega) (fun e => by have := hb k e; omega)).trans (h.block k hk)⟩
theorem parseV_form (t : ByteArray) : ∃ y : I4, parseV t = .agg #[.int .i64 (y.1), .int .i64 (y.2.1), .int .i64 (y.2.2.1), .int .i64 (y.2.2.2)] ∧ (parseB t = true → y = parseT t) := by
  cases h : parseB t with
  | true => exact ⟨parseT t, by unfold parseV; rw [h, if_pos rfl]; rfl, fun _ => rfl⟩
  | false => exact ⟨(0, 0, 0, 0), by unfold parseV; rw [h, if_neg (by decide)], fun h => (by cases h)⟩
theorem results_cells3 {P : Program} {fn : Func} {t u v : Nat} {T U V : TypeId} {tmps : Array Value} {w : World} {b c d : Nat} {x y z : Value} {e1 e2 e3 : TypeId} (h : fn.results = #[.cell t T, .cell u U, .cell v V]) (hB : Blk w b #[x] e1) (hC : Blk w c #[y] e2) (hD : Blk w d #[z] e3)
    (h1 : (loadVar T ⟨b, 0, none⟩).run P w = .ok x w) (h2 : (loadVar U ⟨c, 0, none⟩).run P w = .ok y w) (h3 : (loadVar V ⟨d, 0, none⟩).run P w = .ok z w)
    (hp : tmps.getD t undef = .pointer (some ⟨b, 0, none⟩)) (hq : tmps.getD u undef = .pointer (some ⟨c, 0, none⟩)) (hr : tmps.getD v undef = .pointer (some ⟨d, 0, none⟩)) : (results fn tmps).run P w = .ok (.tuple #[x, y, z]) w := by
  rw [Array.getD_eq_getD_getElem?] at hp hq hr
  simp [results, h, hp, hq, hr, h1, h2, h3, asAddr]

set_option maxRecDepth 100000 in
set_option maxHeartbeats 3200000 in
theorem read_any (s : ByteArray) (w : World) (h : Env w) (hs : s.size ≤ 90000) :
    Calls Tryd.prog 17 #[.string s] w fun e w' => ∃ v, e = .returned (.tuple #[v, .int .i64 (rdN (linesB s)), .bool (rdOk (linesB s))]) ∧ w'.ownsRow w.heap.size 23 4 v (rdT (linesB s)).length (i4s (rdT (linesB s))) ∧ Below w.heap.size w w' := by
  have HE := Lib.hid h
  have HS := Lib.hid hs
  clear h hs
  refine (callsIn_wide (n := 9)).1 ?_
  refine callsIn_of_wp_marks Tryd.func17 rfl trivial ?_ rfl
  simp only [Tryd.ntmps17, List.size_toArray, List.length_cons, List.length_nil, Nat.reduceAdd, Nat.reduceSub, Array.replicate_succ, Array.replicate_zero, List.push_toArray, List.append_toArray, List.nil_append, List.cons_append]
  gi_wp2_with fail
  refine ⟨trivial, ?_⟩
  refine CallsIn.mono (callsIn_wide.2 (lines_new _ _)) ?_
  rintro e w2 ⟨rfl, rfl⟩
  gi_wp2_with fail
  obtain ⟨B0, hB0⟩ : ∃ B0, w.heap.size = B0 := ⟨_, rfl⟩
  have HB0 := Lib.hid hB0
  obtain ⟨W0, hW0⟩ : ∃ W0, ((((w.alloc (.cells #[.slice none 0 0] 34)).alloc (.cells #[.int .i64 0] 3)).alloc (.cells #[.bool false] 4)).alloc (.cells #[.slice none 0 0] 34)).alloc (.cells #[.string s] 9) = W0 := ⟨_, rfl⟩
  have z0 : Blk W0 w.heap.size #[.slice none 0 0] 34 := by rw [← hW0]; exact ((((Blk.new w _ _).alloc _).alloc _).alloc _).alloc _
  have z1 : Blk W0 (w.heap.size + 1) #[.int .i64 0] 3 := by
    rw [← hW0]
    have := ((Blk.new (w.alloc (.cells #[.slice none 0 0] 34)) #[.int .i64 0] 3).alloc (.cells #[.bool false] 4)).alloc (.cells #[.slice none 0 0] 34)
    rw [World.size_alloc] at this
    exact this.alloc _
  have z2 : Blk W0 (w.heap.size + 1 + 1) #[.bool false] 4 := by
    rw [← hW0]
    have := (Blk.new ((w.alloc (.cells #[.slice none 0 0] 34)).alloc (.cells #[.int .i64 0] 3)) #[.bool false] 4).alloc (.cells #[.slice none 0 0] 34)
    rw [World.size_alloc, World.size_alloc] at this
    exact this.alloc _
  have z3 : Blk W0 (w.heap.size + 1 + 1 + 1) #[.slice none 0 0] 34 := by
    rw [← hW0]
    have := Blk.new (((w.alloc (.cells #[.slice none 0 0] 34)).alloc (.cells #[.int .i64 0] 3)).alloc (.cells #[.bool false] 4)) #[.slice none 0 0] 34
    rw [World.size_alloc, World.size_alloc, World.size_alloc] at this
    exact this.alloc _
  have z4 : Blk W0 (w.heap.size + 1 + 1 + 1 + 1) #[.string s] 9 := by
    rw [← hW0]
    have := Blk.new ((((w.alloc (.cells #[.slice none 0 0] 34)).alloc (.cells #[.int .i64 0] 3)).alloc (.cells #[.bool false] 4)).alloc (.cells #[.slice none 0 0] 34)) #[.string s] 9
    rw [World.size_alloc, World.size_alloc, World.size_alloc, World.size_alloc] at this
    exact this
  have hb0 : Below w.heap.size w W0 := by rw [← hW0]; go_grown
  have hs0 : W0.heap.size = w.heap.size + 5 := by rw [← hW0]; simp
  rw [hW0, hB0]
  rw [hB0] at z0 z1 z2 z3 z4 hs0 hb0
  clear hW0
  obtain ⟨B1, hB1⟩ : ∃ B1, B0 + 1 = B1 := ⟨_, rfl⟩
  rw [hB1] at z1 z2 z3 z4 ⊢
  obtain ⟨B2, hB2⟩ : ∃ B2, B1 + 1 = B2 := ⟨_, rfl⟩
  rw [hB2] at z2 z3 z4 ⊢
  obtain ⟨B3, hB3⟩ : ∃ B3, B2 + 1 = B3 := ⟨_, rfl⟩
  rw [hB3] at z3 z4 ⊢
  obtain ⟨B4, hB4⟩ : ∃ B4, B3 + 1 = B4 := ⟨_, rfl⟩
  rw [hB4] at z4 ⊢
  have HBS := Lib.hid (show B0 + 1 = B1 ∧ B1 + 1 = B2 ∧ B2 + 1 = B3 ∧ B3 + 1 = B4 ∧ W0.heap.size = B4 + 1 by omega)
  have HIT := lines_iter (9 - 1) B4 s W0 z4 (by have := HS.out; omega)
  have HXL := Lib.hid (Nat.le_trans (linesB_len s) HS.out)
  have HXZ := Lib.hid (fun x hx => Nat.le_trans (linesB_size s x hx) HS.out)
  have HE0 := Lib.hid (fun W (hb : Below B0 w W) => HE.out.grow (show Below w.heap.size w W by rw [HB0.out]; exact hb))
  obtain ⟨XS, hXS⟩ : ∃ XS, linesB s = XS := ⟨_, rfl⟩
  rw [hXS] at HIT HXL HXZ
  have HXS := Lib.hid hXS
  clear hXS
  clear hB0 hB1 hB2 hB3 hB4
  refine RL.wpIn_range Wide.wide rfl rfl (enters_of Tryd.func50 (by kernel_rfl) rfl) HIT (Below.refl _ _) (by intro x hx; simp at hx; subst hx; exact z4.lt)
    (fun h1 h2 => h2.trans h1)
    (fun W l o hl => World.putObj_heap_other (by have := HBS.out; omega)) (fun x => rfl)
    (fun q W => Blk W B0 #[.slice none 0 0] 34 ∧ Blk W B1 #[.int .i64 0] 3 ∧ Blk W B2 #[.bool false] 4 ∧ (∃ v, Blk W B3 #[v] 34 ∧ W.ownsRow B0 23 4 v q (i4s ((XS.take q).map fun x => parseT (cutB x))) ∧ v.ownBlock ≠ some B4) ∧ (XS.take q).all goodB = true ∧ Below B0 w W ∧ W0.heap.size ≤ W.heap.size)
    (fun W => Blk W B0 #[.slice none 0 0] 34 ∧ Blk W B1 #[.int .i64 (rdN XS)] 3 ∧ Blk W B2 #[.bool false] 4 ∧ rdOk XS = false ∧ Below B0 w W ∧ W0.heap.size ≤ W.heap.size)
    (fun _ X Y row ⟨i1, i2, i3, i4, i5, i6⟩ hg hr => ⟨i1.own hg fun r e => (hr r e).2, i2.own hg fun r e => (hr r e).2, i3.own hg fun r e => (hr r e).2, i4, below_own i5 hg (fun r e => by have := (hr r e).1; have := HBS.out; omega) (by have := HBS.out; omega), Nat.le_trans i6 hg.size⟩)
    (fun q X Y row ⟨i1, i2, i3, ⟨v, i4, i5, hn4⟩, i6, i7, i8⟩ hg hr => ⟨i1.own hg fun r e => (hr r e).2, i2.own hg fun r e => (hr r e).2, i3.own hg fun r e => (hr r e).2, ⟨v, i4.own hg fun r e => (hr r e).2, own_own i5 hg (fun r e => (hr r e).2), hn4⟩, i6, below_own i7 hg (fun r e => by have := (hr r e).1; have := HBS.out; omega) (by have := HBS.out; omega), Nat.le_trans i8 hg.size⟩)
    (fun q X Y ⟨i1, i2, i3, ⟨v, i4, i5, hn4⟩, i6, i7, i8⟩ ht => ⟨i1.turns ht (by have := HBS.out; simp; omega), i2.turns ht (by have := HBS.out; simp; omega), i3.turns ht (by have := HBS.out; simp; omega), ⟨v, i4.turns ht (by have := HBS.out; simp; omega), i5.kept (row := some B4) ⟨ht.os, ht.tape, ht.output, ht.size, fun k hk hn => ht.block k hk (by simpa using fun e => hn (by rw [e]))⟩ (.inr hn4), hn4⟩, i6, below_turns i7 ht (by have := HBS.out; simp; omega) (by have := HBS.out; omega), Nat.le_trans i8 ht.size⟩)
    ⟨z0, z1, z2, ⟨_, z3, World.ownsRow_nil _ _ _ _, by simp [Value.ownBlock]⟩, rfl, hb0, Nat.le_refl _⟩
    (fun q x a' W => a' = { tmps := #[.string s, undef, .pointer (some ⟨B0, 0, none⟩), .pointer (some ⟨B1, 0, none⟩), .pointer (some ⟨B2, 0, none⟩), .pointer (some ⟨B3, 0, none⟩), .string x, undef, undef, undef, undef,
        .string s, .func (.func 50) #[] #[.pointer (some ⟨B4, 0, none⟩)], .string x,
        undef, undef, undef, undef, undef, undef, undef, undef, undef, undef, undef, undef, undef, undef, undef, undef, undef, undef, undef, undef, undef, undef, undef, undef, undef], defers := [] })
    (fun q x a' _ X Y row h hg hr => h) ?assign ?body ?done ?stop
  case assign =>
    intro l q x W K hx hi hK
    have HK := Lib.hid hK
    have HI := Lib.hid hi
    clear hK HIT hi z0 z1 z2 z3 z4
    gi_wp2
    exact HK.out _ _ (KeepsFrom.refl _ _) (KpL.refl _ _) HI.out rfl
  case body =>
    intro l q x a' W hlB hlW hx ⟨i1, i2, i3, ⟨v, i4, i5, hn4⟩, i6, i7, i8⟩ j3
    subst j3
    have hxz := HXZ.out x (List.mem_of_getElem? hx)
    obtain ⟨y, hy1, hy2⟩ := parseV_form (cutB x)
    have gcs := Tryd.strings_CutSuffix x ⟨#[10]⟩ W (by omega)
    rw [show (⟨(Lib.trimSuffix x.data.toList (⟨#[10]⟩ : ByteArray).data.toList).toArray⟩ : ByteArray) = cutB x from rfl, show Lib.hasSuffix x.data.toList (⟨#[10]⟩ : ByteArray).data.toList = wholeB x from rfl] at gcs
    have gpa := parse_any (cutB x) W (HE0.out W i7) (by have := cutB_size x; omega)
    have HGD := Lib.hid (show goodB x = (wholeB x && parseB (cutB x)) from rfl)
    rw [hy1] at gpa
    obtain ⟨A, c, rfl⟩ := own_form i5
    have HI := Lib.hid (And.intro i1 (And.intro i2 (And.intro i3 (And.intro i4 (And.intro i5 (And.intro hn4 (And.intro i6 (And.intro i7 i8))))))))
    have HX := Lib.hid hx
    have HY2 := Lib.hid hy2
    have GCS := Lib.hid gcs
    have GPA := Lib.hid gpa
    obtain ⟨tx, htx⟩ : ∃ tx, cutB x = tx := ⟨_, rfl⟩
    rw [htx] at HY2 GCS GPA HGD
    have HTX := Lib.hid htx
    obtain ⟨y0, y1, y2, y3⟩ := y
    dsimp only at GPA
    generalize parseB tx = pb at *
    generalize wholeB x = wb at *
    clear hs0 hxz hy1 hy2 gcs gpa i1 i2 i3 i4 i5 hn4 i6 i7 i8 hx htx HIT z0 z1 z2 z3 z4 hb0
    gi_wp2_with fail
    refine ⟨trivial, ?_⟩
    refine CallsIn.mono (CallsIn.inRound l (callsIn_wide.2 GCS.out)) ?_
    rintro e W1 ⟨rfl, rfl⟩
    gi_wp2_with fail
    refine ⟨trivial, ?_⟩
    refine CallsIn.mono (CallsIn.inRound l (callsIn_wide.2 GPA.out)) ?_
    rintro e W2 ⟨rfl, b2⟩
    have J1 := Lib.hid (HI.out.1.below b2 HI.out.1.lt)
    have J2 := Lib.hid (HI.out.2.1.below b2 HI.out.2.1.lt)
    have J3 := Lib.hid (HI.out.2.2.1.below b2 HI.out.2.2.1.lt)
    have J4 := Lib.hid (HI.out.2.2.2.1.below b2 HI.out.2.2.2.1.lt)
    have J5 := Lib.hid (own_below HI.out.2.2.2.2.1 b2)
    have J7 := Lib.hid (below_then HI.out.2.2.2.2.2.2.2.1 (by have := HI.out.2.2.2.2.2.2.2.2; have := HBS.out; omega) b2)
    have JB := Lib.hid b2
    have J8 := Lib.hid (Nat.le_trans HI.out.2.2.2.2.2.2.2.2 b2.size)
    clear b2 GCS GPA
    cases wb with
    | false => (gi_wp2_with fail; obtain ⟨W3, hW3⟩ : ∃ W3, W2.alloc (.cells #[.int .i64 (y0), .int .i64 (y1), .int .i64 (y2), .int .i64 (y3)] 23) = W3 := ⟨_, rfl⟩; have b3 : Below W2.heap.size W2 W3 := (by rw [← hW3]; go_grown); have L1 := Lib.hid (J1.out.below b3 J1.out.lt); have L2 := Lib.hid (J2.out.below b3 J2.out.lt); have L3 := Lib.hid (J3.out.below b3 J3.out.lt); have L4 := Lib.hid (J4.out.below b3 J4.out.lt); have LB := Lib.hid (below_then JB.out JB.out.size b3); rw [hW3]; clear hW3 b3; refine wpIn_flow_lit (Wide.round l) 3 (fun w' => Blk w' B0 #[.slice none 0 0] 34 ∧ Blk w' B3 #[.slice A q c] 34) [none, none, none] (by kernel_rfl) (by kernel_rfl) (by kernel_rfl) ⟨L1.out.drew, L4.out.drew⟩ (fun w1 w2 h hb => ⟨h.1.below hb h.1.lt, h.2.below hb h.2.lt⟩) trivial ?_; (try simp (config := { maxSteps := 10000000 }) only [specV, addF, Act.put, List.setIfInBounds_toArray, List.set_cons_zero, List.set_cons_succ, List.take_succ_cons, List.take_zero, List.drop_succ_cons, List.drop_zero]); (apply Exists.intro; refine ⟨fun vs w1 hS hB hf => ?_, ?_⟩; (focus (have M1 := hS.2.cell; have m1 := hS.2.lt; clear hS hB hf; go_simp; first | exact ⟨Below.refl _ _, rfl⟩ | exact rfl)); (try simp (config := { maxSteps := 10000000 }) only [specV, addF, Act.put, List.setIfInBounds_toArray, List.set_cons_zero, List.set_cons_succ, List.take_succ_cons, List.take_zero, List.drop_succ_cons, List.drop_zero])); (apply Exists.intro; refine ⟨fun vs w1 hS hB hf => ?_, ?_⟩; (focus (clear hS hB hf; go_simp; first | exact ⟨Below.refl _ _, rfl⟩ | exact rfl)); (try simp (config := { maxSteps := 10000000 }) only [specV, addF, Act.put, List.setIfInBounds_toArray, List.set_cons_zero, List.set_cons_succ, List.take_succ_cons, List.take_zero, List.drop_succ_cons, List.drop_zero])); (apply Exists.intro; refine ⟨fun vs w1 hS hB hf => ?_, ?_⟩; (focus (have hz := below_same hS.1 0 (.slice none 0 0) rfl; have M1 := hS.1.cell; have m1 := hS.1.lt; have f1 := hS.1.frozen; clear hS hB hf; go_simp; first | exact rfl | exact ⟨hz.1, rfl⟩)); (try simp (config := { maxSteps := 10000000 }) only [specV, addF, Act.put, List.setIfInBounds_toArray, List.set_cons_zero, List.set_cons_succ, List.take_succ_cons, List.take_zero, List.drop_succ_cons, List.drop_zero])); intro vs W4 hS hB5 _; dsimp only; have N1 := Lib.hid hS.1; have hB5' : Below W3.heap.size W3 W4 := hB5; have N2 := Lib.hid (L2.out.below hB5' L2.out.lt); have N3 := Lib.hid (L3.out.below hB5' L3.out.lt); have NB := Lib.hid (below_then LB.out LB.out.size hB5'); have c2 := N2.out.cell; have f2 := N2.out.frozen; have l2 := N2.out.lt; have c3 := N3.out.cell; have f3 := N3.out.frozen; have l3 := N3.out.lt; have n23 : ¬ B2 = B1 := (by have := HBS.out; omega); clear hS hB5 hB5' L1 L2 L3 L4 LB; gi_wp2; have hst := rd_stop HI.out.2.2.2.2.2.2.1 HX.out (HGD.out.trans rfl); have hne := HBS.out; have TT : Turns [B1, B2] W1 ((W4.setCell ⟨B1, 0, none⟩ (.int .i64 (q : Int))).setCell ⟨B2, 0, none⟩ (.bool false)) := ((Turns.below NB.out).trans (Turns.set _ (by simp) 0 _)).trans (Turns.set _ (by simp) 0 _); exact ⟨(KeepsOthers.turns TT (by intro z hz; simp at hz; rcases hz with rfl | rfl; exact ⟨_, _, HI.out.2.1⟩; exact ⟨_, _, HI.out.2.2.1⟩)).from _, (N1.out.set_other (by omega) _ _).set_other (by omega) _ _, by rw [hst.2]; exact (N2.out.set 0 _).set_other (by omega) _ _, (N3.out.set_other (by omega) _ _).set 0 _, hst.1, below_turns HI.out.2.2.2.2.2.2.2.1 TT (by simp; omega) (by have := HI.out.2.2.2.2.2.2.2.2; omega), Nat.le_trans HI.out.2.2.2.2.2.2.2.2 TT.size⟩)
    | true => cases pb with
      | false => (gi_wp2_with fail; obtain ⟨W3, hW3⟩ : ∃ W3, W2.alloc (.cells #[.int .i64 (y0), .int .i64 (y1), .int .i64 (y2), .int .i64 (y3)] 23) = W3 := ⟨_, rfl⟩; have b3 : Below W2.heap.size W2 W3 := (by rw [← hW3]; go_grown); have L1 := Lib.hid (J1.out.below b3 J1.out.lt); have L2 := Lib.hid (J2.out.below b3 J2.out.lt); have L3 := Lib.hid (J3.out.below b3 J3.out.lt); have L4 := Lib.hid (J4.out.below b3 J4.out.lt); have LB := Lib.hid (below_then JB.out JB.out.size b3); rw [hW3]; clear hW3 b3; refine wpIn_flow_lit (Wide.round l) 3 (fun w' => Blk w' B0 #[.slice none 0 0] 34 ∧ Blk w' B3 #[.slice A q c] 34) [none, none, none] (by kernel_rfl) (by kernel_rfl) (by kernel_rfl) ⟨L1.out.drew, L4.out.drew⟩ (fun w1 w2 h hb => ⟨h.1.below hb h.1.lt, h.2.below hb h.2.lt⟩) trivial ?_; (try simp (config := { maxSteps := 10000000 }) only [specV, addF, Act.put, List.setIfInBounds_toArray, List.set_cons_zero, List.set_cons_succ, List.take_succ_cons, List.take_zero, List.drop_succ_cons, List.drop_zero]); (apply Exists.intro; refine ⟨fun vs w1 hS hB hf => ?_, ?_⟩; (focus (have M1 := hS.2.cell; have m1 := hS.2.lt; clear hS hB hf; go_simp; first | exact ⟨Below.refl _ _, rfl⟩ | exact rfl)); (try simp (config := { maxSteps := 10000000 }) only [specV, addF, Act.put, List.setIfInBounds_toArray, List.set_cons_zero, List.set_cons_succ, List.take_succ_cons, List.take_zero, List.drop_succ_cons, List.drop_zero])); (apply Exists.intro; refine ⟨fun vs w1 hS hB hf => ?_, ?_⟩; (focus (clear hS hB hf; go_simp; first | exact ⟨Below.refl _ _, rfl⟩ | exact rfl)); (try simp (config := { maxSteps := 10000000 }) only [specV, addF, Act.put, List.setIfInBounds_toArray, List.set_cons_zero, List.set_cons_succ, List.take_succ_cons, List.take_zero, List.drop_succ_cons, List.drop_zero])); (apply Exists.intro; refine ⟨fun vs w1 hS hB hf => ?_, ?_⟩; (focus (have hz := below_same hS.1 0 (.slice none 0 0) rfl; have M1 := hS.1.cell; have m1 := hS.1.lt; have f1 := hS.1.frozen; clear hS hB hf; go_simp; first | exact rfl | exact ⟨hz.1, rfl⟩)); (try simp (config := { maxSteps := 10000000 }) only [specV, addF, Act.put, List.setIfInBounds_toArray, List.set_cons_zero, List.set_cons_succ, List.take_succ_cons, List.take_zero, List.drop_succ_cons, List.drop_zero])); intro vs W4 hS hB5 _; dsimp only; have N1 := Lib.hid hS.1; have hB5' : Below W3.heap.size W3 W4 := hB5; have N2 := Lib.hid (L2.out.below hB5' L2.out.lt); have N3 := Lib.hid (L3.out.below hB5' L3.out.lt); have NB := Lib.hid (below_then LB.out LB.out.size hB5'); have c2 := N2.out.cell; have f2 := N2.out.frozen; have l2 := N2.out.lt; have c3 := N3.out.cell; have f3 := N3.out.frozen; have l3 := N3.out.lt; have n23 : ¬ B2 = B1 := (by have := HBS.out; omega); clear hS hB5 hB5' L1 L2 L3 L4 LB; gi_wp2; have hst := rd_stop HI.out.2.2.2.2.2.2.1 HX.out (HGD.out.trans rfl); have hne := HBS.out; have TT : Turns [B1, B2] W1 ((W4.setCell ⟨B1, 0, none⟩ (.int .i64 (q : Int))).setCell ⟨B2, 0, none⟩ (.bool false)) := ((Turns.below NB.out).trans (Turns.set _ (by simp) 0 _)).trans (Turns.set _ (by simp) 0 _); exact ⟨(KeepsOthers.turns TT (by intro z hz; simp at hz; rcases hz with rfl | rfl; exact ⟨_, _, HI.out.2.1⟩; exact ⟨_, _, HI.out.2.2.1⟩)).from _, (N1.out.set_other (by omega) _ _).set_other (by omega) _ _, by rw [hst.2]; exact (N2.out.set 0 _).set_other (by omega) _ _, (N3.out.set_other (by omega) _ _).set 0 _, hst.1, below_turns HI.out.2.2.2.2.2.2.2.1 TT (by simp; omega) (by have := HI.out.2.2.2.2.2.2.2.2; omega), Nat.le_trans HI.out.2.2.2.2.2.2.2.2 TT.size⟩)
      | true =>
        have bx : Below W2.heap.size W2 (W2.alloc (.cells #[.int .i64 (y0), .int .i64 (y1), .int .i64 (y2), .int .i64 (y3)] 23)) := by go_grown
        have c4 := (J4.out.alloc (.cells #[.int .i64 (y0), .int .i64 (y1), .int .i64 (y2), .int .i64 (y3)] 23)).cell
        have l4 := (J4.out.alloc (.cells #[.int .i64 (y0), .int .i64 (y1), .int .i64 (y2), .int .i64 (y3)] 23)).lt
        have own3 := World.ownsRow.alloc (World.ownsRow.alloc J5.out (.cells #[.int .i64 (y0), .int .i64 (y1), .int .i64 (y2), .int .i64 (y3)] 23)) (.cells #[.int .i64 (y0), .int .i64 (y1), .int .i64 (y2), .int .i64 (y3)] 23)
        have OWN3 := Lib.hid own3
        have rdl := Lib.hid (RdL.new (W2.alloc (.cells #[.int .i64 (y0), .int .i64 (y1), .int .i64 (y2), .int .i64 (y3)] 23)) #[.int .i64 (y0), .int .i64 (y1), .int .i64 (y2), .int .i64 (y3)] 23)
        rw [World.size_alloc] at rdl
        have hql := (List.getElem?_eq_some_iff.1 HX.out).1
        have HQL := Lib.hid (Nat.lt_of_lt_of_le hql HXL.out)
        have hsz2 : B0 ≤ W2.heap.size := by have := J8.out; have := HBS.out; omega
        have HSZ2 := Lib.hid hsz2
        obtain ⟨i0, hi0, hz0, hz1, hz2⟩ := info_parts infoIns
        have HM := Lib.hid (show q + 1 ≤ maxLen ∧ (q + 1) * 32 ≤ 140737488355328 by have := HQL.out; simp only [maxLen]; omega)
        have H5 := Lib.hid (show B0 ≤ ((W2.alloc (.cells #[.int .i64 (y0), .int .i64 (y1), .int .i64 (y2), .int .i64 (y3)] 23)).alloc (.cells #[.int .i64 (y0), .int .i64 (y1), .int .i64 (y2), .int .i64 (y3)] 23)).heap.size by simp; omega)
        clear own3 hql hsz2 bx
        gi_wp2_with (gi_at_builtin; go_loud (refine wpListIn_append_own_at _ rfl _ _ 34 rfl B0 23 i0 (.agg #[.int .i64 (0), .int .i64 (0), .int .i64 (0), .int .i64 (0)]) 4 32 Tryd.underlying34 hi0 hz0 hz1 hz2 rfl (by decide) (.slice A q c) q _ rfl OWN3.out ⟨W2.heap.size + 1, 0, none⟩ 1 1 (i4c (y0, y1, y2, y3)) rfl rfl (fun j u hu => by obtain ⟨ad, e1, h2⟩ := rdl.out j u hu; cases e1; exact h2) (by intro u hu; simp [i4c] at hu; rcases hu with rfl | rfl | rfl | rfl <;> rfl) HM.out.1 HM.out.2 H5.out ?_; intro v1 w3 hown1 hg1 _ hat1); obtain ⟨g1, cap1, rfl⟩ := ownsRow_succ hown1; obtain ⟨hv1, hv2, hr2, hk2, hb2⟩ := Boxed.appended (tmp := .cells #[.int .i64 (y0), .int .i64 (y1), .int .i64 (y2), .int .i64 (y3)] 23) (show Boxed (W2.alloc (.cells #[.int .i64 (y0), .int .i64 (y1), .int .i64 (y2), .int .i64 (y3)] 23)) B3 34 (.slice A q c) from J4.out.alloc _) (by decide) (World.ownsRow.alloc J5.out (.cells #[.int .i64 (y0), .int .i64 (y1), .int .i64 (y2), .int .i64 (y3)] 23)) (by have := HSZ2.out; simp; omega) (by have := HBS.out; omega) hown1 hg1; have hc1 := hv1.cell; have hf1 := hv1.frozen; have hl1 := hv1.lt)
        obtain ⟨W4, hW4⟩ : ∃ W4, W2.alloc (.cells #[.int .i64 (y0), .int .i64 (y1), .int .i64 (y2), .int .i64 (y3)] 23) = W4 := ⟨_, rfl⟩
        have b4 : Below W2.heap.size W2 W4 := by rw [← hW4]; go_grown
        have hb14 := below_then JB.out JB.out.size b4
        have hsz4 : W4.heap.size = W2.heap.size + 1 := by rw [← hW4]; simp
        have own4 : W4.ownsRow B0 23 4 (.slice A q c) q (i4s ((XS.take q).map fun x => parseT (cutB x))) := own_below J5.out b4
        have own5 := World.ownsRow.alloc own4 (.cells #[.int .i64 (y0), .int .i64 (y1), .int .i64 (y2), .int .i64 (y3)] 23)
        rw [hW4] at hg1 hk2 hb2
        have hne := HBS.out
        have hs1 := HI.out.2.2.2.2.2.2.2.2
        have hs2 := JB.out.size
        have kp : KpL B4 W1 (w3.setCell ⟨B3, 0, none⟩ (.slice (some ⟨g1, 0, none⟩) (q + 1) cap1)) := by
          show _ = _
          rw [Below.heap_setCell _ _ _ _ (by show B4 ≠ B3; omega), hg1.block B4 (by simp; omega) (fun e => HI.out.2.2.2.2.2.1 e.symm), Below.heap_alloc _ _ _ (by omega)]
          exact hb14.block B4 (by omega)
        have htk : XS.take (q + 1) = XS.take q ++ [x] := by rw [List.take_add_one, HX.out]; rfl
        refine ⟨((KeepsOthers.turns (bs := []) (Turns.below hb14) (by intro b hb; cases hb)).trans hk2).from _, kp, ?_, ?_, ?_, ⟨_, hv2, ?_, ?_⟩, ?_, (J7.out.trans (b4.mono HSZ2.out)).trans hb2, ?_⟩
        · exact (blk_grown own5 (((J1.out.below b4 J1.out.lt)).alloc _) (by decide) hg1).set_other (by omega) _ _
        · exact (blk_grown own5 (((J2.out.below b4 J2.out.lt)).alloc _) (by decide) hg1).set_other (by omega) _ _
        · exact (blk_grown own5 (((J3.out.below b4 J3.out.lt)).alloc _) (by decide) hg1).set_other (by omega) _ _
        · rw [htk, List.map_append, List.map_singleton, i4s_snoc, HTX.out, ← HY2.out (by trivial)]
          exact hr2
        · rcases hat1 with h1 | h1
          · rw [h1]; exact HI.out.2.2.2.2.2.1
          · rw [h1]; intro e; cases e; simp at hne; omega
        · rw [htk, List.all_append, HI.out.2.2.2.2.2.2.1, Bool.true_and, List.all_cons, HGD.out]; rfl
        · have := hb2.size; omega
  case done =>
    intro D W hD ⟨i1, i2, i3, ⟨v, i4, i5, hn4⟩, i6, i7, i8⟩ hK
    rw [List.take_of_length_le (Nat.le_refl _)] at i5 i6
    obtain ⟨A, c, rfl⟩ := own_form i5
    have c1 := i1.cell
    have f1 := i1.frozen
    have l1 := i1.lt
    have c2 := i2.cell
    have f2 := i2.frozen
    have l2 := i2.lt
    have c3 := i3.cell
    have f3 := i3.frozen
    have l3 := i3.lt
    have c4 := i4.cell
    have l4 := i4.lt
    have hne := HBS.out
    have n1 : ¬ B0 = B1 := by omega
    have n2 : ¬ B0 = B2 := by omega
    have n3 : ¬ B0 = B3 := by omega
    have n4 : ¬ B1 = B2 := by omega
    have n5 : ¬ B1 = B3 := by omega
    have n6 : ¬ B2 = B3 := by omega
    have HI := Lib.hid (And.intro i1 (And.intro i2 (And.intro i3 (And.intro i4 (And.intro i5 (And.intro hn4 (And.intro i6 (And.intro i7 i8))))))))
    have HK := Lib.hid hK
    have HD := Lib.hid hD
    clear i1 i2 i3 i4 i5 hn4 i6 i7 i8 hK HIT z0 z1 z2 z3 z4 hb0 hs0 hne hD
    gi_wp2
    gi_region
    obtain ⟨W5, hW5⟩ : ∃ W5, (((W.setCell ⟨B0, 0, none⟩ (.slice A XS.length c)).setCell ⟨B1, 0, none⟩ (.int .i64 (XS.length : Int))).setCell ⟨B2, 0, none⟩ (.bool true)).drew = W5 := ⟨_, rfl⟩
    have hne := HBS.out
    have hD2 := HD.out
    have TT : Turns [B0, B1, B2] W W5 := by rw [← hW5]; exact (((Turns.set _ (by simp) 0 _).trans (Turns.set _ (by simp) 0 _)).trans (Turns.set _ (by simp) 0 _)).trans (Turns.below (Below.refl _ _).drew)
    have k1 : Blk W5 B0 #[.slice A XS.length c] 34 := by rw [← hW5]; exact (((HI.out.1.set 0 _).set_other (by omega) _ _).set_other (by omega) _ _).drew
    have k2 : Blk W5 B1 #[.int .i64 (XS.length : Int)] 3 := by rw [← hW5]; exact (((HI.out.2.1.set_other (by omega) _ _).set 0 _).set_other (by omega) _ _).drew
    have k3 : Blk W5 B2 #[.bool true] 4 := by rw [← hW5]; exact (((HI.out.2.2.1.set_other (by omega) _ _).set_other (by omega) _ _).set 0 _).drew
    have o5 : W5.ownsRow B0 23 4 (.slice A XS.length c) XS.length (i4s (XS.map fun x => parseT (cutB x))) := by
      rw [← hW5]
      have a1 := HI.out.2.2.2.2.1.kept (grown_set _ B0 0 (.slice A XS.length c)) (row_ne HI.out.2.2.2.2.1 HI.out.1 (by decide))
      have a2 := a1.kept (grown_set _ B1 0 (.int .i64 (XS.length : Int))) (row_ne a1 (HI.out.2.1.set_other (by omega) _ _) (by decide))
      exact (a2.kept (grown_set _ B2 0 (.bool true)) (row_ne a2 ((HI.out.2.2.1.set_other (by omega) _ _).set_other (by omega) _ _) (by decide))).drew
    have hK5 : W5.heap[D]? = some (.deferred (some [])) := (TT.block D (Array.getElem?_eq_some_iff.1 HK.out).1 (by simp; omega)).trans HK.out
    have b5 : Below B0 w W5 := below_turns HI.out.2.2.2.2.2.2.2.1 TT (by simp; omega) (by have := HI.out.2.2.2.2.2.2.2.2; omega)
    have hall := HI.out.2.2.2.2.2.2.1
    have hrd : rdOk XS = true := hall
    have hrn : rdN XS = XS.length := by unfold rdN; rw [takeWhile_all hall]
    have hrt : rdT XS = XS.map fun x => parseT (cutB x) := by unfold rdT; rw [hrd, if_pos rfl]
    have hsz := HI.out.2.2.2.2.2.2.2.2
    have hsz5 := TT.size
    rw [hW5]
    clear hW5 c1 f1 l1 c2 f2 l2 c3 f3 l3 c4 l4
    gi_wp2
    refine ⟨by simp, .inl ⟨_, _, rfl, run_takeDeferred hK5, ?_⟩⟩
    have c1 := (k1.putObj (l := D) (o := .deferred none) (by omega)).cell 0
    have c2 := (k2.putObj (l := D) (o := .deferred none) (by omega)).cell 0
    have c3 := (k3.putObj (l := D) (o := .deferred none) (by omega)).cell 0
    have hg := grownBy_putObj' W5 D (Obj.deferred none)
    refine ⟨.tuple #[.slice A XS.length c, .int .i64 XS.length, .bool true], by simp [results, Tryd.f17, go_sem, c1, c2, c3], .slice A XS.length c, by rw [HXS.out, hrd, hrn], ?_, ?_⟩
    · rw [HXS.out, hrt, HB0.out, List.length_map]
      exact own_own o5 hg (fun r e => by cases e; exact ⟨_, hK5, rfl⟩)
    · rw [HB0.out]
      exact below_own b5 hg (fun r e => by cases e; omega) (by omega)
  case stop =>
    intro D W hD ⟨i1, i2, i3, i4, i5, i6⟩ hK
    refine ⟨by simp, .inl ⟨_, _, rfl, run_takeDeferred hK, ?_⟩⟩
    have hne := HBS.out
    have c1 := (i1.putObj (l := D) (o := .deferred none) (by omega)).cell 0
    have c2 := (i2.putObj (l := D) (o := .deferred none) (by omega)).cell 0
    have c3 := (i3.putObj (l := D) (o := .deferred none) (by omega)).cell 0
    refine ⟨.tuple #[.slice none 0 0, .int .i64 (rdN XS), .bool false], by simp [results, Tryd.f17, go_sem, c1, c2, c3], .slice none 0 0, by rw [HXS.out, i4], ?_, ?_⟩
    · rw [HXS.out, show rdT XS = [] by unfold rdT; rw [i4, if_neg (by decide)]]
      exact World.ownsRow_nil _ _ _ _
    · rw [HB0.out]
      exact below_own i5 (grownBy_putObj' W D (Obj.deferred none)) (fun r e => by cases e; omega) (by omega)
end Go.Proofs.YtnmjglnllokklaaDoor
