/- The walks of the law on texts: a text laid behind its length, and taken again. -/
import Derived.Test.YtcoddeemfdnjpaaDoorNumbersWalk
import Derived.Test.YtcoddeemfdnjpaaDoorFn65
namespace Go.Proofs.YtcoddeemfdnjpaaDoor
open Go.RowKit CrcPlain NumPlain FieldPlain
open Go.Proofs.YtcoddeemfdnjpaaDoorW.PrintWords hiding nums nums_length nums_append
/-- what a call of Text tells, and its error -/
def textF (s t : ByteArray) : ByteArray × Int :=
  if 65535 < t.size then (⟨#[]⟩, 5) else (s ++ strOfNums (ints (numL 2 t.size)) ++ t, 0)
theorem putF_two (s : ByteArray) (n : Nat) (h : n ≤ 65535) : putF s n 2 = (s ++ strOfNums (ints (numL 2 n)), 0) := by
  unfold putF
  rw [if_neg]
  · rfl
  · simp; omega
set_option maxHeartbeats 400000 in
set_option maxRecDepth 100000 in
theorem text_any (s t : ByteArray) (w : World) (hs : s.size ≤ 140737488351232) (ht : t.size ≤ 140737488351232) :
    Calls Tryd.prog 62 #[.string s, .string t] w fun e w' => e = .returned (.tuple #[.string (textF s t).1, .int .i64 (textF s t).2]) ∧ Below w.heap.size w w' := by
  by_cases h : 65535 < t.size
  · have e0 : textF s t = (⟨#[]⟩, 5) := if_pos h
    rw [e0]
    clear e0
    go_enter Tryd.func62, Tryd.ntmps62
    go_wp2_with fail
    go_ret2
    exact ⟨rfl, Below.refl _ _⟩
  · have e0 : textF s t = (s ++ strOfNums (ints (numL 2 t.size)) ++ t, 0) := if_neg h
    rw [e0]
    have hp := putF_two s t.size (by omega)
    obtain ⟨x, hx⟩ : ∃ x, x = s ++ strOfNums (ints (numL 2 t.size)) := ⟨_, rfl⟩
    have hxs : x.size ≤ 140737488351234 := by rw [hx, ByteArray.size_append, strOfNums_size, ints_length, numL_length]; omega
    rw [← hx] at hp ⊢
    have hp' := Lib.hid hp
    clear e0 hp hx
    go_enter Tryd.func62, Tryd.ntmps62
    go_wp2_with fail
    refine (put_any s t.size 2 _ (by omega) (by omega)).mono ?_
    rw [hp'.out]
    rintro e w2 ⟨rfl, hb2⟩
    go_wp2_with fail
    go_ret2
    exact ⟨rfl, hb2⟩
theorem two_bytes (n : Nat) (h : n ≤ 65535) : strOfNums [(n : Int) / 256, (n : Int) % 256] = strOfNums (ints (numL 2 n)) := by
  have e : ints (numL 2 n) = [((n / 256 % 256 : Nat) : Int), ((n % 256 : Nat) : Int)] := by simp [ints, numL]
  rw [e, show (n : Int) / 256 = ((n / 256 % 256 : Nat) : Int) by omega, show (n : Int) % 256 = ((n % 256 : Nat) : Int) by omega]
set_option maxHeartbeats 400000 in
set_option maxRecDepth 100000 in
theorem refText_any (s t : ByteArray) (w : World) (hs : s.size ≤ 140737488351232) (ht : t.size ≤ 140737488351232) :
    Calls Tryd.prog 63 #[.string s, .string t] w fun e w' => e = .returned (.tuple #[.string (textF s t).1, .int .i64 (textF s t).2]) ∧ Below w.heap.size w w' := by
  by_cases h : 65535 < t.size
  · have e0 : textF s t = (⟨#[]⟩, 5) := if_pos h
    rw [e0]
    clear e0
    go_enter Tryd.func63, Tryd.ntmps63
    go_wp2_with fail
    go_ret2
    exact ⟨rfl, Below.refl _ _⟩
  · have e0 : textF s t = (s ++ strOfNums (ints (numL 2 t.size)) ++ t, 0) := if_neg h
    rw [e0]
    clear e0
    obtain ⟨y, hy⟩ : ∃ y, y = strOfNums (ints (numL 2 t.size)) := ⟨_, rfl⟩
    have hys : y.size = 2 := by rw [hy, strOfNums_size, ints_length, numL_length]
    have hcv : (convert 28 9 (.slice (some ⟨w.heap.size, 0, none⟩) 2 2)).run Tryd.prog (w.alloc (.cells #[.int .u8 ((t.size : Int) / 256), .int .u8 ((t.size : Int) % 256)] 5)) = .ok (.string y) (w.alloc (.cells #[.int .u8 ((t.size : Int) / 256), .int .u8 ((t.size : Int) % 256)] 5)) := by
      rw [hy, ← two_bytes t.size (by omega)]
      refine run_convert_bytes_arg (P := Tryd.prog) _ 28 5 Tryd.underlying28 Tryd.underlying5 w.heap.size 0 2 2 [(t.size : Int) / 256, (t.size : Int) % 256] rfl ?_ 9 Tryd.underlying9
      intro i hi
      match i, hi with
      | 0, _ => simp [World.cell?, World.alloc, -World.alloc_eq]
      | 1, _ => simp [World.cell?, World.alloc, -World.alloc_eq]
    rw [← hy]
    clear hy
    have hl1 : s.size + y.size ≤ 9223372036854775807 := by omega
    have hl2 : (s ++ y).size + t.size ≤ 9223372036854775807 := by rw [ByteArray.size_append]; omega
    clear hys
    go_enter Tryd.func63, Tryd.ntmps63
    go_wp2_with fail
    go_ret2
    exact ⟨rfl, (Below.refl _ _).alloc (Nat.le_refl _) _⟩
/-- what a call of TakeText tells: the text, the place behind it, the error -/
def takeTextF (s : ByteArray) (a : Int) : ByteArray × Int × Int :=
  if (takeF s a 2).2 ≠ 0 then (⟨#[]⟩, 0, (takeF s a 2).2)
  else if (s.size : Int) - a - 2 < (takeF s a 2).1 then (⟨#[]⟩, 0, 3)
  else (s.extract (a.toNat + 2) (a.toNat + 2 + (takeF s a 2).1), a + 2 + (takeF s a 2).1, 0)
theorem takeF_ok {s : ByteArray} {a : Int} (h : (takeF s a 2).2 = 0) : 0 ≤ a ∧ a + 2 ≤ s.size ∧ (takeF s a 2).1 ≤ 65535 := by
  unfold takeF at h ⊢
  by_cases c : (2 : Int) < 1 ∨ 8 < (2 : Int) ∨ a < 0
  · rw [if_pos c] at h; simp at h
  · rw [if_neg c] at h ⊢
    by_cases c2 : (s.size : Int) < a + 2
    · rw [if_pos c2] at h; simp at h
    · rw [if_neg c2]
      have := takeN_lt s a.toNat 2 (by omega)
      refine ⟨by omega, by omega, ?_⟩
      simp at this ⊢
      omega
set_option maxHeartbeats 400000 in
set_option maxRecDepth 100000 in
theorem takeText_any (s : ByteArray) (a : Int) (w : World) (hs : s.size ≤ 140737488351232) :
    Calls Tryd.prog 64 #[.string s, .int .i64 a] w fun e w' => e = .returned (.tuple #[.string (takeTextF s a).1, .int .i64 (takeTextF s a).2.1, .int .i64 (takeTextF s a).2.2]) ∧ Below w.heap.size w w' := by
  by_cases h : (takeF s a 2).2 = 0
  · obtain ⟨h0, h1, h2⟩ := takeF_ok h
    obtain ⟨x, rfl⟩ := Int.eq_ofNat_of_zero_le h0
    obtain ⟨n, hn⟩ : ∃ n, n = (takeF s (x : Int) 2).1 := ⟨_, rfl⟩
    have ht : Hid (takeF s (x : Int) 2 = (n, 0)) := by
      show _ = _
      rw [hn, ← h]
    rw [← hn] at h2
    by_cases hsh : (s.size : Int) - x - 2 < n
    · have e : takeTextF s (x : Int) = (⟨#[]⟩, 0, 3) := by
        unfold takeTextF
        rw [if_neg (by simp [h]), if_pos (by rw [← hn]; exact hsh)]
      rw [e]
      clear e h hn h0
      go_enter Tryd.func64, Tryd.ntmps64
      go_wp2_with fail
      refine (take_any s (x : Int) 2 _ hs).mono ?_
      rw [ht.out]
      rintro e w2 ⟨rfl, hb2⟩
      go_wp2_with fail
      go_ret3
      exact ⟨rfl, hb2⟩
    · have e : takeTextF s (x : Int) = (s.extract (x + 2) (x + 2 + n), (x : Int) + 2 + n, 0) := by
        unfold takeTextF
        rw [if_neg (by simp [h]), if_neg (by rw [← hn]; exact hsh), ← hn]
        simp
      rw [e]
      clear e h hn h0
      go_enter Tryd.func64, Tryd.ntmps64
      go_wp2_with fail
      refine (take_any s (x : Int) 2 _ hs).mono ?_
      rw [ht.out]
      rintro e w2 ⟨rfl, hb2⟩
      go_wp2_with fail
      go_ret3
      exact ⟨rfl, hb2⟩
  · have e : takeTextF s a = (⟨#[]⟩, 0, (takeF s a 2).2) := if_pos h
    rw [e]
    obtain ⟨n, hn⟩ : ∃ n, n = (takeF s a 2).1 := ⟨_, rfl⟩
    obtain ⟨q, hq⟩ : ∃ q, q = (takeF s a 2).2 := ⟨_, rfl⟩
    rw [← hq] at h ⊢
    have ht : Hid (takeF s a 2 = (n, q)) := by
      show _ = _
      rw [hn, hq]
    have hb : (q == 0) = false := by rw [beq_eq_false_iff_ne]; exact h
    have hb' : (q != 0) = true := by rw [bne_iff_ne]; exact h
    clear e h hn hq
    go_enter Tryd.func64, Tryd.ntmps64
    go_wp2_with fail
    refine (take_any s a 2 _ hs).mono ?_
    rw [ht.out]
    rintro e w2 ⟨rfl, hb2⟩
    go_wp2_with fail
    go_ret3
    exact ⟨rfl, hb2⟩
theorem bytes_back (s : ByteArray) : strOfNums (ints (nums s)) = s := by
  cases s with
  | mk d =>
    unfold strOfNums ints nums
    congr 1
    simp only [List.map_map]
    have : ((fun n : Int => UInt8.ofNat n.toNat) ∘ (fun n : Nat => (n : Int)) ∘ UInt8.toNat) = id := by
      funext u
      simp
    rw [this, List.map_id]
theorem refTakeText_l0 (s : ByteArray) (x n : Nat) (hs : s.size ≤ 140737488351232) (hx : x + 2 ≤ s.size) (hn : n ≤ 65535) : ∀ (d i k : Nat), i + d = n → d < k → x + 2 + i ≤ s.size →
    Fn.rollbookref01_TakeText.l0 k s (x : Int) (n : Int) (ints (((nums s).drop (x + 2)).take i)) (i : Int) =
      some (if (s.size : Int) - x - 2 < n then (⟨#[]⟩, 0, 3) else (s.extract (x + 2) (x + 2 + n), (x : Int) + 2 + n, 0))
  | 0, i, k, hi, hk, hxi => by
    obtain ⟨k, rfl⟩ : ∃ q, k = q + 1 := ⟨k - 1, by omega⟩
    obtain rfl : i = n := by omega
    simp only [Fn.rollbookref01_TakeText.l0]
    have e1 : wrap64 (i : Int) = i := by unfold wrap64; omega
    have e2 : wrap64 (wrap64 ((x : Int) + 2) + (i : Int)) = (x : Int) + 2 + i := by unfold wrap64; omega
    rw [e1, if_neg (by omega), e2, if_neg (by omega)]
    congr 2
    have e : List.take i (List.drop (x + 2) (nums s)) = nums (s.extract (x + 2) (x + 2 + i)) := by
      rw [nums_extract, List.drop_take, show x + 2 + i - (x + 2) = i by omega]
    rw [e, bytes_back]
  | d + 1, i, k, hi, hk, hxi => by
    obtain ⟨k, rfl⟩ : ∃ q, k = q + 1 := ⟨k - 1, by omega⟩
    simp only [Fn.rollbookref01_TakeText.l0]
    have e1 : wrap64 (n : Int) = n := by unfold wrap64; omega
    have e2 : wrap64 (wrap64 ((x : Int) + 2) + (i : Int)) = ((x + 2 + i : Nat) : Int) := by unfold wrap64; omega
    have e3 : wrap64 ((i : Int) + 1) = ((i + 1 : Nat) : Int) := by unfold wrap64; omega
    rw [e1, if_pos (by omega), e2, e3]
    by_cases hend : x + 2 + i ≥ s.size
    · rw [if_pos (by omega), if_pos (by omega)]
    · rw [if_neg (by omega), if_pos (by omega), if_pos (by omega), bt_nums s _ (by omega)]
      have hlen : (((nums s).drop (x + 2)).take i).length = i := by
        rw [List.length_take, List.length_drop, CrcPlain.nums_length]; omega
      rw [if_pos (by rw [ints_length, hlen]; omega)]
      have e4 : ints (((nums s).drop (x + 2)).take i) ++ [(((nums s).getD (x + 2 + i) 0 : Nat) : Int)] = ints (((nums s).drop (x + 2)).take (i + 1)) := by
        rw [List.take_succ_eq_append_getElem (by rw [List.length_drop, CrcPlain.nums_length]; omega), ints_append, List.getElem_drop]
        rw [List.getD_eq_getElem?_getD, List.getElem?_eq_getElem (by rw [CrcPlain.nums_length]; omega)]
        rfl
      rw [e4]
      exact refTakeText_l0 s x n hs hx hn d (i + 1) k (by omega) (by omega) (by omega)
theorem refTakeText_f (s : ByteArray) (a : Int) (hs : s.size ≤ 140737488351232) : Fn.rollbookref01_TakeText.f 70000 s a = some (takeTextF s a) := by
  unfold Fn.rollbookref01_TakeText.f
  have hm : Fn.rollbookref01_Take.f 70000 s a 2 = some ((((takeF s a 2).1 : Nat) : Int), (takeF s a 2).2) := by
    have h12 := refTake_f s a 2 (by omega)
    have mono : ∀ k, LeO (Fn.rollbookref01_Take.f 12 s a 2) (Fn.rollbookref01_Take.f (12 + k) s a 2) := by
      intro k
      induction k with
      | zero => exact LeO.refl _
      | succ k ih => exact LeO.trans ih (Fn.rollbookref01_Take.mono s a 2 (12 + k))
    exact mono 69988 _ h12
  rw [hm]
  simp only [Option.bind_some]
  by_cases h : (takeF s a 2).2 = 0
  · obtain ⟨h0, h1, h2⟩ := takeF_ok h
    rw [if_pos h]
    obtain ⟨x, rfl⟩ := Int.eq_ofNat_of_zero_le h0
    have := refTakeText_l0 s x (takeF s (x : Int) 2).1 hs (by omega) h2 (takeF s (x : Int) 2).1 0 70000 (by omega) (by omega) (by omega)
    unfold takeTextF
    rw [if_neg (by simp [h])]
    simpa [ints] using this
  · rw [if_neg h]
    unfold takeTextF
    rw [if_pos h]
theorem refTakeText_any (s : ByteArray) (a : Int) (w : World) (hs : s.size ≤ 140737488351232) :
    Calls Tryd.prog 65 #[.string s, .int .i64 a] w fun e w' => e = .returned (.tuple #[.string (takeTextF s a).1, .int .i64 (takeTextF s a).2.1, .int .i64 (takeTextF s a).2.2]) ∧ Below w.heap.size w w' :=
  Fn.rollbookref01_TakeText.calls 70000 s a _ _ _ w (refTakeText_f s a hs)
theorem nums_inj {a b : ByteArray} (h : nums a = nums b) : a = b := by rw [← bytes_back a, ← bytes_back b, h]
theorem text_take (s t tail : ByteArray) (ht : t.size ≤ 65535) (x : ByteArray) (hx : x = s ++ strOfNums (ints (numL 2 t.size)) ++ t) :
    takeTextF (x ++ tail) (s.size : Int) = (t, (x.size : Int), 0) := by
  have hy : (strOfNums (ints (numL 2 t.size))).size = 2 := by rw [strOfNums_size, ints_length, numL_length]
  have hxs : x.size = s.size + 2 + t.size := by rw [hx, ByteArray.size_append, ByteArray.size_append, hy]
  have hsz : (x ++ tail).size = s.size + 2 + t.size + tail.size := by rw [ByteArray.size_append, hxs]
  have hnx : nums (x ++ tail) = nums s ++ (numL 2 t.size ++ (nums t ++ nums tail)) := by
    have hb : nums (strOfNums (ints (numL 2 t.size))) = numL 2 t.size := by
      unfold nums ints
      rw [strOfNums_data, List.map_map, List.map_map]
      conv => rhs; rw [← List.map_id (numL 2 t.size)]
      apply List.map_congr_left
      intro c hc
      have := numL_lt 2 t.size c hc
      simp [Nat.mod_eq_of_lt this]
    rw [hx, nums_append, nums_append, nums_append, hb]
    simp
  have htk : takeF (x ++ tail) (s.size : Int) 2 = (t.size, 0) := by
    unfold takeF
    rw [if_neg (by omega), hsz, if_neg (by omega)]
    simp only [Int.toNat_natCast, Prod.mk.injEq, and_true]
    unfold takeN
    rw [nums_extract, hnx, show s.size + Int.toNat 2 = (nums s).length + 2 by rw [CrcPlain.nums_length]; rfl, List.take_length_add_append, List.drop_left' (CrcPlain.nums_length s)]
    rw [List.take_left' (numL_length 2 _), valN_numL 2 _ (by omega)]
  unfold takeTextF
  rw [htk, if_neg (by simp), hsz, if_neg (by simp; omega)]
  simp only [Int.toNat_natCast, Prod.mk.injEq, and_true]
  refine ⟨?_, by omega⟩
  apply nums_inj
  rw [nums_extract, hnx]
  have e1 : nums s ++ (numL 2 t.size ++ (nums t ++ nums tail)) = (nums s ++ numL 2 t.size ++ nums t) ++ nums tail := by simp
  rw [e1, List.take_left' (by simp [CrcPlain.nums_length, numL_length]; omega), List.drop_left' (by simp [CrcPlain.nums_length, numL_length])]
set_option maxHeartbeats 400000 in
set_option maxRecDepth 100000 in
theorem fieldTexts_skip (s t tail : ByteArray) (a : Int) (m : Int) (w : World) (hs : 9000 < s.size ∨ 70000 < t.size ∨ 9000 < tail.size) (hm : w.cell? ⟨1, 0, none⟩ = some (.int .i64 m)) :
    Calls Tryd.prog 17 #[.string s, .string t, .string tail, .int .i64 a] w fun e w' => e = .returned (.bool true) ∧ Below w.heap.size w w' := by
  have hm' := Lib.hid hm
  clear hm
  by_cases c1 : 9000 < s.size
  · clear hs
    go_enter Tryd.func17, Tryd.ntmps17
    go_wp2_with fail
    refine (awake01 m _ hm'.out).mono ?_
    rintro e w2 ⟨rfl, hb2⟩
    go_wp2
    go_ret
    exact ⟨rfl, hb2⟩
  · by_cases c2 : 70000 < t.size
    · clear hs
      go_enter Tryd.func17, Tryd.ntmps17
      go_wp2_with fail
      refine (awake01 m _ hm'.out).mono ?_
      rintro e w2 ⟨rfl, hb2⟩
      go_wp2
      go_ret
      exact ⟨rfl, hb2⟩
    · have c3 : 9000 < tail.size := by omega
      clear hs
      go_enter Tryd.func17, Tryd.ntmps17
      go_wp2_with fail
      refine (awake01 m _ hm'.out).mono ?_
      rintro e w2 ⟨rfl, hb2⟩
      go_wp2
      go_ret
      exact ⟨rfl, hb2⟩
set_option maxHeartbeats 800000 in
set_option maxRecDepth 100000 in
theorem fieldTexts_go (s t tail : ByteArray) (a : Int) (m : Int) (w : World) (hs : s.size ≤ 9000) (ht : t.size ≤ 70000) (htl : tail.size ≤ 9000) (hm : w.cell? ⟨1, 0, none⟩ = some (.int .i64 m)) :
    Calls Tryd.prog 17 #[.string s, .string t, .string tail, .int .i64 a] w fun e w' => e = .returned (.bool true) ∧ Below w.heap.size w w' := by
  have hm' := Lib.hid hm
  clear hm
  go_enter Tryd.func17, Tryd.ntmps17
  go_wp2_with fail
  refine (awake01 m _ hm'.out).mono ?_
  rintro e w2 ⟨rfl, hb2⟩
  have hb2' := Lib.hid hb2
  clear hb2
  go_wp2_with fail
  refine (text_any s t _ (by omega) (by omega)).mono ?_
  rintro e w3 ⟨rfl, hb3⟩
  have hb3' := Lib.hid (hb2'.out.trans (hb3.mono hb2'.out.size))
  clear hb3 hb2'
  go_wp2_with fail
  refine (refText_any s t _ (by omega) (by omega)).mono ?_
  rintro e w4 ⟨rfl, hb4⟩
  have hb4' := Lib.hid (hb3'.out.trans (hb4.mono hb3'.out.size))
  clear hb4 hb3'
  go_wp2_with fail
  refine (takeText_any s a _ (by omega)).mono ?_
  rintro e w5 ⟨rfl, hb5⟩
  have hb5' := Lib.hid (hb4'.out.trans (hb5.mono hb4'.out.size))
  clear hb5 hb4'
  go_wp2_with fail
  refine (refTakeText_any s a _ (by omega)).mono ?_
  rintro e w6 ⟨rfl, hb6⟩
  have hb6' := Lib.hid (hb5'.out.trans (hb6.mono hb5'.out.size))
  clear hb6 hb5'
  by_cases hbad : 65535 < t.size
  · have e1 : textF s t = (⟨#[]⟩, 5) := if_pos hbad
    rw [e1]
    clear e1
    have hd : decide ((65535 : Int) < (t.size : Int)) = true := decide_eq_true (by omega)
    go_wp2
    go_ret
    exact ⟨rfl, hb6'.out⟩
  · have e1 : textF s t = (s ++ strOfNums (ints (numL 2 t.size)) ++ t, 0) := if_neg hbad
    rw [e1]
    obtain ⟨x, hx⟩ : ∃ x, x = s ++ strOfNums (ints (numL 2 t.size)) ++ t := ⟨_, rfl⟩
    have hxs : x.size ≤ 79002 := by rw [hx, ByteArray.size_append, ByteArray.size_append, strOfNums_size, ints_length, numL_length]; omega
    have htk : Hid (takeTextF (x ++ tail) (s.size : Int) = (t, (x.size : Int), 0)) := text_take s t tail (by omega) x hx
    have hxt : (x ++ tail).size ≤ 100000 := by rw [ByteArray.size_append]; omega
    have hxt2 : x.size + tail.size ≤ 9223372036854775807 := by omega
    rw [← hx]
    clear hx hbad e1
    go_wp2_with fail
    refine (takeText_any (x ++ tail) (s.size : Int) _ (by omega)).mono ?_
    rw [htk.out]
    rintro e w7 ⟨rfl, hb7⟩
    have hb7' := Lib.hid (hb6'.out.trans (hb7.mono hb6'.out.size))
    clear hb7
    go_wp2
    go_ret
    exact ⟨rfl, hb7'.out⟩
theorem fieldTexts_walk (s t tail : ByteArray) (a : Int) (m : Int) (w : World) (hm : w.cell? ⟨1, 0, none⟩ = some (.int .i64 m)) :
    Calls Tryd.prog 17 #[.string s, .string t, .string tail, .int .i64 a] w fun e w' => e = .returned (.bool true) ∧ Below w.heap.size w w' := by
  by_cases h : 9000 < s.size ∨ 70000 < t.size ∨ 9000 < tail.size
  · exact fieldTexts_skip s t tail a m w h hm
  · exact fieldTexts_go s t tail a m w (by omega) (by omega) (by omega) hm
end Go.Proofs.YtcoddeemfdnjpaaDoor
