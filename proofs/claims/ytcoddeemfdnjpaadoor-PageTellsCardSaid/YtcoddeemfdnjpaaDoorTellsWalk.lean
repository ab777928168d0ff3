/- The walk of the law on turned bytes: a text made a row of bytes, four of them turned, and made a text again. -/
import Derived.Test.YtcoddeemfdnjpaaDoorCrcWalks
import Derived.Test.YtcoddeemfdnjpaaDoorCrcTurn
import Derived.Deep.LoopGhost
import Derived.RegionTactic
import Derived.BigRegion
import Derived.Lib.ConvBytes
namespace Go.Proofs.YtcoddeemfdnjpaaDoor
open Go.RowKit CrcPlain
theorem HasTab.below {w w' : World} (h : HasTab w) (hb : Below w.heap.size w w') (hz : 0 < w.heap.size) : HasTab w' := fun i hi => by rw [hb.cell (p := ⟨0, i, none⟩) hz]; exact h i hi
theorem HasTab.pos {w : World} (h : HasTab w) : 0 < w.heap.size := by
  have := h 0 (by decide)
  rcases Nat.eq_zero_or_pos w.heap.size with hz | hz
  · simp [World.cell?, Array.getElem?_eq_none (Nat.le_of_eq hz)] at this
  · exact hz
/-- a text turned into a list of bytes: a new row of the call's own -/
theorem bytes_of (w : World) (s : ByteArray) : ∃ cap w1, (convert 9 28 (.string s)).run Tryd.prog w = .ok (.slice (some ⟨w.heap.size, 0, none⟩) s.size cap) w1 ∧ Below w.heap.size w w1 ∧ w1.heap.size = w.heap.size + 1 ∧
    (∀ j, j < s.size → w1.cell? ⟨w.heap.size, j, none⟩ = some (.int .u8 ((nums s).getD j 0 : Nat))) ∧ (∀ j, j < s.size → w1.frozen? ⟨w.heap.size, j, none⟩ = false) ∧ s.size ≤ cap := by
  refine ⟨_, _, Lib.run_convert_string_bytes w 9 28 5 s Tryd.underlying9 Tryd.underlying28 Tryd.underlying5, ?_, Lib.bytesWorld_size w 5 s, ?_, ?_, grownCap_ge _ _ _ _⟩
  · exact ⟨rfl, rfl, rfl, by rw [Lib.bytesWorld_size]; omega, fun k hk => Lib.bytesWorld_at_old w 5 s k hk⟩
  · intro j hj
    rw [Lib.bytesWorld_cell w 5 s j hj]
    simp [nums, List.getD, hj]
  · intro j hj
    have h1 : s.size ≤ (Lib.bytesCells w 5 s).size := by simp [Lib.bytesCells]
    simp [World.frozen?, Lib.bytesWorld_at_new]
    omega

theorem xor8_var (a b : Nat) (ha : a < 256) (hb : b < 256) : ∃ c : Nat, bits .xor .u8 (a : Int) (b : Int) = (c : Int) ∧ c < 256 ∧ Hid (c = a ^^^ b) :=
  ⟨a ^^^ b, u8_xor_nat a b ha hb, Nat.xor_lt_two_pow (n := 8) ha hb, rfl⟩
/-- what the row of bytes is like, behind k rounds of turning -/
structure Turning (s : ByteArray) (a b B : Nat) (w : World) (k : Nat) (wr : World) : Prop where
  below : Below B w wr
  lt : B < wr.heap.size
  cell : ∀ j, j < s.size → wr.cell? ⟨B, j, none⟩ = some (.int .u8 (turnN (nums s) a b k j : Nat))
  free : ∀ j, j < s.size → wr.frozen? ⟨B, j, none⟩ = false
theorem Turning.step {s : ByteArray} {a b B : Nat} {w : World} {k : Nat} {wr : World} (h : Turning s a b B w k wr) (v : Nat) (hv : v = turnN (nums s) a b k (a + k) ^^^ (b / 2 ^ (8 * k) % 256)) :
    Turning s a b B w (k + 1) ((wr.setCell ⟨B, a + k, none⟩ (.int .u8 (v : Int))).drew) where
  below := (h.below.setCell (Nat.le_refl _) _).drew
  lt := by have := h.lt; simpa using this
  cell := fun j hj => by
    by_cases e : j = a + k
    · subst e
      rw [turnN_new, ← hv]
      have hc := h.cell _ hj
      rw [World.cell?_drew, World.cell?_setCell_same _ _ _ hc]
    · rw [turnN_old _ _ _ _ _ e]
      have hc := h.cell _ hj
      rw [World.cell?_drew, World.cell?_setCell_other _ _ _ _ (by intro h; cases h; omega), hc]
  free := fun j hj => by
    have := h.free j hj
    simpa using this
theorem turned_back (s : ByteArray) (a b B cap : Nat) (w wr : World) (h : Turning s a b B w 4 wr) :
    (convert 28 9 (.slice (some ⟨B, 0, none⟩) s.size cap)).run Tryd.prog wr = .ok (.string (turned s a b 4)) wr := by
  have hl : ((List.range s.size).map fun j => UInt8.ofNat (turnN (nums s) a b 4 j)).length = s.size := by simp
  have hb := run_convert_bytes_back (P := Tryd.prog) wr 28 9 5 ⟨B, 0, none⟩ cap ((List.range s.size).map fun j => UInt8.ofNat (turnN (nums s) a b 4 j)) Tryd.underlying28 Tryd.underlying5 Tryd.underlying9 (fun j hj => by
    have hj' : j < s.size := by simpa using hj
    have hc := h.cell j hj'
    have hlt := turnN_lt (nums_lt s) a b 4 j
    have ea : (⟨B, 0, none⟩ : Addr).add j = ⟨B, j, none⟩ := by simp [Addr.add]; omega
    rw [ea, hc]
    simp [Nat.mod_eq_of_lt hlt])
  rw [hl] at hb
  exact hb
set_option maxHeartbeats 400000 in
set_option maxRecDepth 100000 in
theorem crcTells_turn (s : ByteArray) (a b : Nat) (w : World) (hs : s.size ≤ 140737488351232) (hb : b < 4294967296) (hT : HasTab w) (hab : a + 4 ≤ s.size) :
    Calls Tryd.prog 5 #[.string s, .int .i64 (a : Int), .int .u32 (b : Int)] w fun e w' => e = .returned (.bool true) ∧ Below w.heap.size w w' := by
  obtain ⟨cap, w1, hconv, hb1, hz1, hc1, hf1, hcap⟩ := bytes_of w s
  have H0 : Hid (Turning s a b w.heap.size w 0 w1) := ⟨hb1, by omega, fun j hj => by rw [turnN_zero]; exact hc1 j hj, hf1⟩
  have hT' := Lib.hid hT
  clear hT hc1 hf1
  go_enter Tryd.func5, Tryd.ntmps5
  go_wp2_with fail
  refine (crcAwake _ hT'.out).mono ?_
  rintro e w' ⟨rfl, rfl⟩
  go_wp2_with fail
  go_loopw [8] (fun i wr => ∃ k : Nat, k ≤ 4 ∧ i = .int .i64 k ∧ Turning s a b w.heap.size w k wr) (fun i _ => 4 - (intOf i).toNat)
  case atStart => exact ⟨0, by omega, rfl, H0⟩
  case round =>
    obtain ⟨k, hk, rfl, hr⟩ := hrel
    by_cases hlt : k < 4
    · have hc := hr.cell (a + k) (by omega)
      have hf := hr.free (a + k) (by omega)
      obtain ⟨v, ev, bv, hv⟩ := xor8_var (turnN (nums s) a b k (a + k)) (b / 2 ^ (8 * k) % 256) (turnN_lt (nums_lt s) _ _ _ _) (by omega)
      have hstep := Lib.hid (hr.step v hv.out)
      obtain ⟨tn, htn⟩ : ∃ tn, tn = turnN (nums s) a b k (a + k) := ⟨_, rfl⟩
      rw [← htn] at hc ev
      simp only [Int.natCast_emod, Int.natCast_ediv, Int.natCast_pow, Int.cast_ofNat_Int] at ev
      clear htn hr hv
      go_wp2
      go_region
      go_wp2
      go_roundw
      case rel => exact ⟨k + 1, by omega, by go_num, hstep.out⟩
      case measure => simp [intOf]; omega
    · obtain rfl : k = 4 := by omega
      have hback := turned_back s a b w.heap.size cap w wr hr
      have hTr := Lib.hid (hT'.out.below hr.below hT'.out.pos)
      have hbel := Lib.hid hr.below
      have htl := Lib.hid (tells s a b hab hb)
      have hsz := turned_size s a b 4
      obtain ⟨t, ht⟩ : ∃ t, t = turned s a b 4 := ⟨_, rfl⟩
      rw [← ht] at hback htl hsz
      clear hr ht
      have hts : t.size ≤ 140737488351232 := by omega
      clear hsz
      go_wp2_with fail
      refine (crcSum _ _ (by unfold maxLen; omega) hTr.out).mono ?_
      rintro e w' ⟨rfl, rfl⟩
      go_wp2_with fail
      refine (crcSum _ _ (by unfold maxLen; omega) hTr.out).mono ?_
      rintro e w' ⟨rfl, rfl⟩
      have htl' := htl.out
      obtain ⟨x, hx⟩ : ∃ x, x = onN 0 t := ⟨_, rfl⟩
      obtain ⟨y, hy⟩ : ∃ y, y = onN 0 s := ⟨_, rfl⟩
      rw [← hx, ← hy] at htl'
      rw [← hx, ← hy]
      have hfin : (((x : Int) == (y : Int)) == ((b : Int) == 0)) = true := by
        by_cases h0 : b = 0
        · have : x = y := htl'.2 h0
          subst h0 this
          simp
        · have h1 : ¬ x = y := fun e => h0 (htl'.1 e)
          have h2 : ((x : Int) == (y : Int)) = false := by rw [beq_eq_false_iff_ne]; omega
          have h3 : ((b : Int) == 0) = false := by rw [beq_eq_false_iff_ne]; omega
          rw [h2, h3]; rfl
      clear htl' hx hy
      go_wp2
      go_ret
      exact ⟨rfl, hbel.out⟩
set_option maxHeartbeats 400000 in
set_option maxRecDepth 100000 in
theorem crcTells_skip (s : ByteArray) (a : Int) (b : Nat) (w : World) (hs : s.size ≤ 140737488351232) (h1 : -9223372036854775808 ≤ a) (h2 : a ≤ 9223372036854775807) (hT : HasTab w) (hab : s.size < 4 ∨ a < 0 ∨ (s.size : Int) - 4 < a) :
    Calls Tryd.prog 5 #[.string s, .int .i64 a, .int .u32 (b : Int)] w fun e w' => e = .returned (.bool true) ∧ w = w' := by
  have hT' := Lib.hid hT
  clear hT
  by_cases c1 : (s.size : Int) < 4
  · clear hab h1 h2
    go_enter Tryd.func5, Tryd.ntmps5
    go_wp2_with fail
    refine (crcAwake _ hT'.out).mono ?_
    rintro e w' ⟨rfl, rfl⟩
    go_wp2
    go_ret
    exact ⟨rfl, rfl⟩
  · by_cases c2 : a < 0
    · clear hab h1 h2
      go_enter Tryd.func5, Tryd.ntmps5
      go_wp2_with fail
      refine (crcAwake _ hT'.out).mono ?_
      rintro e w' ⟨rfl, rfl⟩
      go_wp2
      go_ret
      exact ⟨rfl, rfl⟩
    · have c3 : (s.size : Int) - 4 < a := by omega
      clear hab h1 h2
      go_enter Tryd.func5, Tryd.ntmps5
      go_wp2_with fail
      refine (crcAwake _ hT'.out).mono ?_
      rintro e w' ⟨rfl, rfl⟩
      go_wp2
      go_ret
      exact ⟨rfl, rfl⟩
theorem crcTells_walk (s : ByteArray) (a : Int) (b : Nat) (w : World) (hs : s.size ≤ 140737488351232) (h1 : -9223372036854775808 ≤ a) (h2 : a ≤ 9223372036854775807) (hb : b < 4294967296) (hT : HasTab w) :
    Calls Tryd.prog 5 #[.string s, .int .i64 a, .int .u32 (b : Int)] w fun e w' => e = .returned (.bool true) ∧ Below w.heap.size w w' := by
  by_cases c : s.size < 4 ∨ a < 0 ∨ (s.size : Int) - 4 < a
  · exact (crcTells_skip s a b w hs h1 h2 hT c).mono fun e w' ⟨x, y⟩ => ⟨x, y ▸ Below.refl _ _⟩
  · obtain ⟨n, rfl⟩ := Int.eq_ofNat_of_zero_le (a := a) (by omega)
    exact crcTells_turn s n b w hs hb hT (by omega)
end Go.Proofs.YtcoddeemfdnjpaaDoor
