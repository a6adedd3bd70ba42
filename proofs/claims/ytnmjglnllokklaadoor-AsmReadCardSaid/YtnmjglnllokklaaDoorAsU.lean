/- Name, Text, number; the document's. -/
import Derived.Test.YtnmjglnllokklaaDoorAsJ
import Derived.Test.YtnmjglnllokklaaDoorAsP
set_option linter.unusedVariables false
set_option linter.unusedSimpArgs false
namespace Go.Proofs.YtnmjglnllokklaaDoor
open Go.RowKit

def namesRL : List UInt8 := [104, 97, 108, 116, 32, 109, 111, 118, 105, 32, 109, 111, 118, 32, 97, 100, 100, 32, 115, 117, 98, 32, 109, 117, 108, 32, 100, 105, 118, 32, 108, 116, 32, 101, 113, 32, 106, 109, 112, 32, 106, 122, 32, 108, 100, 98, 32, 115, 116, 98, 32, 108, 100, 119, 32, 115, 116, 119, 32, 108, 100, 99, 32, 115, 116, 99, 32, 105, 110, 99, 32, 98, 110, 100, 32, 112, 114, 109, 32, 115, 101, 108, 32, 117, 110, 115, 32, 101, 110, 116, 32, 99, 97, 108, 108, 32, 114, 101, 116, 32, 108, 101, 110, 32, 111, 102, 102, 32, 116, 97, 103, 32, 97, 100, 100, 114, 32, 115, 121, 115, 32]
def namesR : ByteArray := ⟨namesRL.toArray⟩
def stR : Nat → Nat × Nat
  | 0 => (0, 0)
  | i + 1 => if namesRL.getD i 0 = 32 then ((stR i).1 + 1, i + 1) else stR i
theorem get_data (s : ByteArray) (j : Nat) (h : j < s.size) : (s[j]'h) = s.data.toList.getD j 0 := by
  show s.data[j]'h = _
  have h' : j < s.data.size := h
  rw [List.getD_eq_getElem?_getD, Array.getElem?_toList, Array.getElem?_eq_getElem h']
  rfl
theorem stR_fact : ∀ i, i < 121 → (namesRL.getD i 0 = 32 → (stR i).2 ≤ i ∧ (⟨((namesRL.drop (stR i).2).take (i - (stR i).2)).toArray⟩ : ByteArray) = nameS ((stR i).1 : Int)) ∧ (stR i).1 ≤ 30 ∧ (stR i).2 ≤ 121 := by decide +kernel

set_option maxRecDepth 100000 in
set_option maxHeartbeats 1600000 in
theorem rname_any (op : Int) (w : World) (ho : inI op) : Calls Tryd.prog 13 #[.int .i64 op] w fun e w' => e = .returned (.string (nameS op)) ∧ w = w' := by
  obtain ⟨o0, o1⟩ := ho
  go_enter Tryd.func13, Tryd.ntmps13
  go_wp2
  go_loopg [3, 4, 5] 121 (fun gk v3 v4 v5 wr => ∃ j : Nat, j + gk = 121 ∧ v5 = .int .i64 j ∧ v3 = .int .i64 (stR j).1 ∧ v4 = .int .i64 (stR j).2 ∧ (op < 0 ∨ ((stR j).1 : Int) ≤ op) ∧ wr = w)
  case atStart => exact ⟨0, by omega, rfl, rfl, rfl, by show op < 0 ∨ (0 : Int) ≤ op; omega, rfl⟩
  case round =>
    obtain ⟨j, hj, rfl, rfl, rfl, hop, rfl⟩ := hrel
    rcases Nat.lt_or_ge j 121 with hlt | hge
    · have i1 : (j : Int) < 121 := by omega
      have hn : j < 121 := hlt
      have HF := Lib.hid (stR_fact j hlt)
      have hst := Lib.hid (show stR (j + 1) = if namesRL.getD j 0 = 32 then ((stR j).1 + 1, j + 1) else stR j from rfl)
      have hget : ∀ h : j < (⟨#[104, 97, 108, 116, 32, 109, 111, 118, 105, 32, 109, 111, 118, 32, 97, 100, 100, 32, 115, 117, 98, 32, 109, 117, 108, 32, 100, 105, 118, 32, 108, 116, 32, 101, 113, 32, 106, 109, 112, 32, 106, 122, 32, 108, 100, 98, 32, 115, 116, 98, 32, 108, 100, 119, 32, 115, 116, 119, 32, 108, 100, 99, 32, 115, 116, 99, 32, 105, 110, 99, 32, 98, 110, 100, 32, 112, 114, 109, 32, 115, 101, 108, 32, 117, 110, 115, 32, 101, 110, 116, 32, 99, 97, 108, 108, 32, 114, 101, 116, 32, 108, 101, 110, 32, 111, 102, 102, 32, 116, 97, 103, 32, 97, 100, 100, 114, 32, 115, 121, 115, 32]⟩ : ByteArray).size, ((⟨#[104, 97, 108, 116, 32, 109, 111, 118, 105, 32, 109, 111, 118, 32, 97, 100, 100, 32, 115, 117, 98, 32, 109, 117, 108, 32, 100, 105, 118, 32, 108, 116, 32, 101, 113, 32, 106, 109, 112, 32, 106, 122, 32, 108, 100, 98, 32, 115, 116, 98, 32, 108, 100, 119, 32, 115, 116, 119, 32, 108, 100, 99, 32, 115, 116, 99, 32, 105, 110, 99, 32, 98, 110, 100, 32, 112, 114, 109, 32, 115, 101, 108, 32, 117, 110, 115, 32, 101, 110, 116, 32, 99, 97, 108, 108, 32, 114, 101, 116, 32, 108, 101, 110, 32, 111, 102, 102, 32, 116, 97, 103, 32, 97, 100, 100, 114, 32, 115, 121, 115, 32]⟩ : ByteArray)[j]'h) = namesRL.getD j 0 := fun h => get_data _ j h
      obtain ⟨bj, hbj⟩ : ∃ bj, namesRL.getD j 0 = bj := ⟨_, rfl⟩
      rw [hbj] at hget HF hst
      clear hbj hlt
      by_cases h32 : bj = 32
      · have e32 : (bj.toNat : Int) = 32 := by rw [h32]; rfl
        have hst2 := hst.out
        rw [if_pos h32] at hst2
        have hst1 := congrArg Prod.fst hst2
        have hst3 := congrArg Prod.snd hst2
        dsimp only at hst1 hst3
        have HS1 := Lib.hid (And.intro hst1 hst3)
        obtain ⟨hf1, hf2, hf3⟩ := HF.out
        obtain ⟨hf4, hf5⟩ := hf1 h32
        have HF5 := Lib.hid hf5
        clear hst2 hst1 hst3 hst hf1 hf5 h32
        generalize (stR j).1 = n at *
        generalize (stR j).2 = f at *
        have hf30 : (n : Int) ≤ 30 := by omega
        have hf121 : (f : Int) ≤ 121 := by omega
        have hfj : (f : Int) ≤ j := by omega
        by_cases hop2 : (n : Int) = op
        · subst hop2
          clear hop
          go_wp2
          go_ret
          exact ⟨by rw [← HF5.out, Lib.extract_eq]; rfl, rfl⟩
        · have hop3 : ¬ op = (n : Int) := fun e => hop2 e.symm
          go_wp2
          go_roundg (gk - 1)
          case measure => omega
          case rel => exact ⟨j + 1, by omega, by go_num, by rw [HS1.out.1]; go_num, by rw [HS1.out.2]; go_num, by rw [HS1.out.1]; omega, rfl⟩
      · have hst2 := hst.out
        rw [if_neg h32] at hst2
        have HS1 := Lib.hid hst2
        have e32 : ¬ (bj.toNat : Int) = 32 := by
          intro e
          apply h32
          have : bj.toNat = (32 : UInt8).toNat := by show _ = 32; omega
          exact UInt8.toNat_inj.1 this
        obtain ⟨hf1, hf2, hf3⟩ := HF.out
        have e32' : ((bj.toNat : Int) == 32) = false := by simpa using e32
        clear hst2 hst hf1 h32
        go_wp2
        go_roundg (gk - 1)
        case measure => omega
        case rel => exact ⟨j + 1, by omega, by go_num, by rw [HS1.out], by rw [HS1.out], by rw [HS1.out]; exact hop, rfl⟩
    · have hj121 : j = 121 := by omega
      subst hj121
      have e30 : (stR 121).1 = 30 := by decide +kernel
      have HN := Lib.hid (show nameS op = ⟨#[]⟩ by
        rw [e30] at hop
        unfold nameS nameN
        rcases hop with h | h
        · rw [if_pos h]
        · rw [if_neg (by omega), List.getD_eq_getElem?_getD, List.getElem?_eq_none (by rw [nameL_len]; omega)]
          rfl)
      clear hop hge
      go_wp2
      go_ret
      exact ⟨by rw [HN.out]; rfl, rfl⟩

theorem ba_app (l r : List UInt8) : (⟨l.toArray⟩ : ByteArray) ++ ⟨r.toArray⟩ = ⟨(l ++ r).toArray⟩ := by
  apply ByteArray.ext
  rw [ByteArray.data_append]
  simp
theorem joinTail_app (sep : List UInt8) (r q : List (List UInt8)) : Lib.joinTail sep (r ++ q) = Lib.joinTail sep r ++ Lib.joinTail sep q := by simp [Lib.joinTail]
/-- A text behind j kinds. -/
def txL (op a b c : Int) (j : Nat) : List UInt8 := nameN op ++ Lib.joinTail [32] (partsT op a b c j)
theorem txL_succ (op a b c : Int) (j : Nat) : txL op a b c (j + 1) = txL op a b c j ++ Lib.joinTail [32] (partK (kc op j) (nm a b c j)) := by unfold txL; rw [partsT_succ, joinTail_app, List.append_assoc]
theorem txL_end {op a b c : Int} (h : rightI op a b c = true) : textS op a b c = ⟨(txL op a b c 3).toArray⟩ := by unfold textS textL txL; rw [if_pos h, Lib.join_cons]
theorem txL_size (op a b c : Int) (hn : ∀ j, inI (nm a b c j)) (j : Nat) (hj : j < 3) : (⟨(txL op a b c j).toArray⟩ : ByteArray).size ≤ 200 := by
  show (List.toArray _).size ≤ _
  have h1 := partsT_len op a b c j
  have h2 := lens_le 30 (partsT op a b c j) (parts_short op a b c hn j)
  have h3 := name_short op
  rw [List.size_toArray, txL, List.length_append, Lib.joinTail_length]
  show _ + (1 * _ + _) ≤ _
  omega
theorem knd_get (op : Int) (j : Nat) (h : j < (kndS op).size) : ((((kndS op)[j]'h).toNat : Nat) : Int) = kc op j := by rw [get_data]; rfl
theorem kc_in {op : Int} (h : 0 ≤ op ∧ op ≤ 29) (j : Nat) (hj : j < 3) : kc op j = 45 ∨ kc op j = 114 ∨ kc op j = 105 ∨ kc op j = 119 ∨ kc op j = 118 := by
  have hl : (kndL op).length = 3 := by rw [knd_len, if_pos h]
  have := knd_all op ((kndL op).getD j 0) (by rw [List.getD_eq_getElem?_getD, List.getElem?_eq_getElem (by omega : j < (kndL op).length)]; exact List.getElem_mem _)
  unfold kc
  rcases this with h | h | h | h | h <;> rw [h] <;> decide

set_option maxRecDepth 100000 in
set_option maxHeartbeats 3200000 in
theorem rtext_any (op a b c : Int) (w : World) (h : Env w) (ho : inI op) (ha : inI a) (hb : inI b) (hc : inI c) :
    Calls Tryd.prog 15 #[.agg #[.int .i64 (op), .int .i64 (a), .int .i64 (b), .int .i64 (c)]] w fun e w' => e = .returned (.string (textS op a b c)) ∧ Below w.heap.size w w' := by
  have HE := Lib.hid h
  have HI := Lib.hid (And.intro ho (And.intro ha (And.intro hb hc)))
  clear h ho ha hb hc
  go_enter Tryd.func15, Tryd.ntmps15
  go_wp2_with fail
  obtain ⟨W1, hW1⟩ : ∃ W1, w.alloc (.cells #[.int .i64 (op), .int .i64 (a), .int .i64 (b), .int .i64 (c)] 23) = W1 := ⟨_, rfl⟩
  have K1 := Lib.hid (show Blk W1 w.heap.size #[.int .i64 (op), .int .i64 (a), .int .i64 (b), .int .i64 (c)] 23 by rw [← hW1]; exact Blk.new _ _ _)
  have B1 := Lib.hid (show Below w.heap.size w W1 by rw [← hW1]; go_grown)
  obtain ⟨kx, hkx⟩ : ∃ kx, w.heap.size = kx := ⟨_, rfl⟩
  rw [hW1]
  rw [hkx] at K1 ⊢
  clear hW1
  have c1 := K1.out.cell
  have l1 := K1.out.lt
  refine (rright_any op a b c W1 HI.out.1 HI.out.2.1 HI.out.2.2.1 HI.out.2.2.2).mono ?_
  rintro e w2 ⟨rfl, b2⟩
  have K2 := Lib.hid (K1.out.below b2 K1.out.lt)
  have B2 := Lib.hid (below_then B1.out B1.out.size b2)
  clear K1 B1 b2 c1 l1
  cases hr : rightI op a b c with
  | false =>
    have HT := Lib.hid (show textS op a b c = ⟨#[]⟩ by unfold textS; rw [text_none hr])
    clear hr
    go_wp2
    go_ret
    first | exact ⟨by rw [HT.out]; rfl, B2.out⟩ | exact ⟨by rw [HT.out]; rfl, by rw [← hkx]; exact B2.out⟩
  | true =>
    have HR := Lib.hid hr
    have HOP := Lib.hid (right_parts hr).1
    clear hr
    have c2 := K2.out.cell
    have l2 := K2.out.lt
    go_wp2_with fail
    refine (rname_any op w2 HI.out.1).mono ?_
    rintro e w3 ⟨rfl, rfl⟩
    go_wp2_with fail
    refine (rkinds_any op w2 HI.out.1).mono ?_
    rintro e w3 ⟨rfl, rfl⟩
    go_wp2_with fail
    obtain ⟨W3, hW3⟩ : ∃ W3, w2.alloc (.cells #[.int .i64 a, .int .i64 b, .int .i64 c] 3) = W3 := ⟨_, rfl⟩
    have N3 := Lib.hid (show Blk W3 w2.heap.size #[.int .i64 a, .int .i64 b, .int .i64 c] 3 by rw [← hW3]; exact Blk.new _ _ _)
    have b3 : Below w2.heap.size w2 W3 := by rw [← hW3]; go_grown
    have B3 := Lib.hid (below_then B2.out B2.out.size b3)
    rw [hW3]
    generalize w2.heap.size = kn at *
    clear hW3 b3 K2 B2 c2 l2
    obtain ⟨t0, ht0⟩ : ∃ t0, nameS op = t0 := ⟨_, rfl⟩
    have HT0 := Lib.hid (show t0 = ⟨(txL op a b c 0).toArray⟩ by rw [← ht0]; unfold txL; rw [show partsT op a b c 0 = [] from rfl, show Lib.joinTail [32] [] = [] from rfl, List.append_nil]; rfl)
    rw [ht0]
    clear ht0
    have hks : (kndS op).size = 3 := by have := knd_len op; rw [if_pos HOP.out] at this; show (List.toArray _).size = 3; rw [List.size_toArray, this]
    have HKS := Lib.hid hks
    clear hks
    go_loopg [3, 6] 3 (fun gk v3 v6 wr => ∃ j : Nat, j + gk = 3 ∧ v6 = .int .i64 j ∧ (∃ t : ByteArray, v3 = .string t ∧ t = ⟨(txL op a b c j).toArray⟩) ∧ Below w.heap.size w wr ∧ Blk wr kn #[.int .i64 a, .int .i64 b, .int .i64 c] 3)
    case atStart => exact ⟨0, rfl, rfl, ⟨t0, rfl, HT0.out⟩, B3.out, N3.out⟩
    case round =>
      obtain ⟨j, hj, rfl, ⟨t, rfl, ht⟩, hb, hN⟩ := hrel
      have HJ := Lib.hid hj
      have HT := Lib.hid ht
      have HB := Lib.hid hb
      have HN := Lib.hid hN
      clear hj ht hb hN
      rcases Nat.lt_or_ge j 3 with hlt | hge
      · have HLT := Lib.hid hlt
        have hget := knd_get op j
        have hkin := kc_in HOP.out j hlt
        have hj1 : j < (kndS op).size := by rw [HKS.out]; exact hlt
        have hj2 : (j : Int) < (kndS op).size := by omega
        have i3 : (j : Int) < 3 := by omega
        have hsz : ((kndS op).size : Int) = 3 := by rw [HKS.out]; rfl
        have hk : wr.cell? ⟨kn, j, none⟩ = some (.int .i64 (nm a b c j)) := by
          rw [HN.out.cell j]
          match j, hlt with
          | 0, _ => rfl
          | 1, _ => rfl
          | 2, _ => rfl
        have lk := HN.out.lt
        have HSU := Lib.hid (txL_succ op a b c j)
        have HNI := Lib.hid (nm_in HI.out.2.1 HI.out.2.2.1 HI.out.2.2.2 j)
        obtain ⟨nj, hnj⟩ : ∃ nj, nm a b c j = nj := ⟨_, rfl⟩
        rw [hnj] at hk HNI HSU
        obtain ⟨ch, hch⟩ : ∃ ch, kc op j = ch := ⟨_, rfl⟩
        rw [hch] at hget hkin HSU
        have GI := Lib.hid (fun W hW => itoa_any nj W hW HNI.out)
        have hS1 : (⟨(Lib.itoa nj).toArray⟩ : ByteArray).size ≤ 21 := by have := Lib.itoa_length_le nj HNI.out.1 HNI.out.2; simpa [ByteArray.size] using this
        have ht2 : t.size ≤ 200 := by rw [HT.out]; exact txL_size op a b c (nm_in HI.out.2.1 HI.out.2.2.1 HI.out.2.2.2) j HLT.out
        obtain ⟨S, hS⟩ : ∃ S : ByteArray, (⟨(Lib.itoa nj).toArray⟩ : ByteArray) = S := ⟨_, rfl⟩
        rw [hS] at GI hS1
        have HSS := Lib.hid hS
        clear hlt hnj hch hS
        rcases (show ch = 114 ∨ ((ch = 105 ∨ ch = 119) ∧ ¬ ch = 114) ∨ (¬ ch = 114 ∧ ¬ ch = 105 ∧ ¬ ch = 119) by omega) with h | ⟨h, h1⟩ | ⟨h1, h2, h3⟩
        · subst h
          clear hkin
          go_wp2_with fail
          refine (GI.out _ (HE.out.grow HB.out)).mono ?_
          rintro e w5 ⟨rfl, b5⟩
          have HB5 := Lib.hid (below_then HB.out HB.out.size b5)
          have HN5 := Lib.hid (HN.out.below b5 HN.out.lt)
          clear b5 hk lk HB HN
          go_wp2
          go_roundg (gk - 1)
          case measure => have := HJ.out; have := HLT.out; omega
          case rel =>
            refine ⟨j + 1, by have := HJ.out; have := HLT.out; omega, by go_num, ⟨_, rfl, ?_⟩, HB5.out, HN5.out⟩
            rw [HSU.out, HT.out, partK, if_pos rfl]
            rw [← HSS.out, show (⟨#[32, 114]⟩ : ByteArray) = ⟨[32, 114].toArray⟩ from rfl, ba_app, ba_app]
            congr 2
            simp [Lib.joinTail]
        · have g1 : partK ch nj = [Lib.itoa nj] := by
            unfold partK
            rw [if_neg h1]
            split
            · rfl
            · rw [if_pos (by omega)]
          rw [g1] at HSU
          rcases h with h | h
          · subst h
            clear hkin h1 g1
            go_wp2_with fail
            refine (GI.out _ (HE.out.grow HB.out)).mono ?_
            rintro e w5 ⟨rfl, b5⟩
            have HB5 := Lib.hid (below_then HB.out HB.out.size b5)
            have HN5 := Lib.hid (HN.out.below b5 HN.out.lt)
            clear b5 hk lk HB HN
            go_wp2
            go_roundg (gk - 1)
            case measure => have := HJ.out; have := HLT.out; omega
            case rel =>
              refine ⟨j + 1, by have := HJ.out; have := HLT.out; omega, by go_num, ⟨_, rfl, ?_⟩, HB5.out, HN5.out⟩
              rw [HSU.out, HT.out]
              rw [← HSS.out, show (⟨#[32]⟩ : ByteArray) = ⟨[32].toArray⟩ from rfl, ba_app, ba_app]
              congr 2
              simp [Lib.joinTail]
          · subst h
            clear hkin h1 g1
            go_wp2_with fail
            refine (GI.out _ (HE.out.grow HB.out)).mono ?_
            rintro e w5 ⟨rfl, b5⟩
            have HB5 := Lib.hid (below_then HB.out HB.out.size b5)
            have HN5 := Lib.hid (HN.out.below b5 HN.out.lt)
            clear b5 hk lk HB HN
            go_wp2
            go_roundg (gk - 1)
            case measure => have := HJ.out; have := HLT.out; omega
            case rel =>
              refine ⟨j + 1, by have := HJ.out; have := HLT.out; omega, by go_num, ⟨_, rfl, ?_⟩, HB5.out, HN5.out⟩
              rw [HSU.out, HT.out]
              rw [← HSS.out, show (⟨#[32]⟩ : ByteArray) = ⟨[32].toArray⟩ from rfl, ba_app, ba_app]
              congr 2
              simp [Lib.joinTail]
        · have g1 : partK ch nj = [] := by unfold partK; rw [if_neg h1, if_neg h2, if_neg h3]
          rw [g1] at HSU
          have q1 : (ch == 114) = false := by simpa using h1
          have q2 : (ch == 105) = false := by simpa using h2
          have q3 : (ch == 119) = false := by simpa using h3
          clear hkin g1
          go_wp2
          go_roundg (gk - 1)
          case measure => have := HJ.out; have := HLT.out; omega
          case rel =>
            refine ⟨j + 1, by have := HJ.out; have := HLT.out; omega, by go_num, ⟨_, rfl, ?_⟩, HB.out, HN.out⟩
            rw [HSU.out, HT.out]
            show _ = (⟨(txL op a b c j ++ []).toArray⟩ : ByteArray)
            rw [List.append_nil]
      · have hj3 : j = 3 := by have := HJ.out; omega
        subst hj3
        clear hge
        go_wp2
        go_ret
        first | exact ⟨by rw [txL_end HR.out, ← HT.out]; rfl, HB.out⟩ | exact ⟨by rw [txL_end HR.out, ← HT.out]; rfl, by rw [← hkx]; exact HB.out⟩
end Go.Proofs.YtnmjglnllokklaaDoor
