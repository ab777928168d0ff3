/- Walks of pages: at, filled, Pack. -/
import Derived.Test.YtcoddeemfdnjpaaDoorPageSmall
import Derived.Test.YtcoddeemfdnjpaaDoorShelf
import Derived.Test.YtcoddeemfdnjpaaDoorTellsWalk
namespace Go.Proofs.YtcoddeemfdnjpaaDoor.PagePlain
open Go.RowKit CrcPlain NumPlain FieldPlain
open Go.Proofs.YtcoddeemfdnjpaaDoorW.PrintMore
open Go.Proofs.YtcoddeemfdnjpaaDoorW.PrintWords hiding nums nums_length nums_append
theorem repeat_zero (n : Nat) : (⟨(Lib.repeatL (⟨#[0]⟩ : ByteArray).data.toList n).toArray⟩ : ByteArray) = zerosB n := by
  have h : ∀ n, Lib.repeatL [(0 : UInt8)] n = List.replicate n 0 := by
    intro n
    induction n with
    | zero => rfl
    | succ n ih => rw [Lib.repeatL, ih]; rfl
  show (⟨(Lib.repeatL [(0 : UInt8)] n).toArray⟩ : ByteArray) = _
  rw [h]; rfl
set_option maxHeartbeats 400000 in
set_option maxRecDepth 100000 in
theorem filled_any (s : ByteArray) (n : Nat) (w : World) (hs : s.size ≤ n) (hn : n ≤ 100000) :
    Calls Tryd.prog 74 #[.string s, .int .i64 (n : Int)] w fun e w' => e = .returned (.string (s ++ zerosB (n - s.size))) ∧ Below w.heap.size w w' := by
  have hsub : (n : Int) - (s.size : Int) = ((n - s.size : Nat) : Int) := by omega
  have hrep : Hid (∀ v : World, Calls Tryd.prog 97 #[.string ⟨#[0]⟩, .int .i64 ((n : Int) - (s.size : Int))] v fun e w' => e = .returned (.string (zerosB (n - s.size))) ∧ Below v.heap.size v w') := by
    intro v
    rw [hsub, ← repeat_zero]
    exact Tryd.strings_Repeat ⟨#[0]⟩ (n - s.size) v (by omega) (by show 1 * (n - s.size) ≤ _; omega)
  have hz := zerosB_size (n - s.size)
  obtain ⟨z, hz2⟩ : ∃ z, z = zerosB (n - s.size) := ⟨_, rfl⟩
  rw [← hz2] at hrep hz ⊢
  have hz' : z.size ≤ 100000 := by omega
  have hcat : s.size + z.size ≤ 9223372036854775807 := by omega
  clear hz2 hsub hz
  go_enter Tryd.func74, Tryd.ntmps74
  go_wp2_with fail
  refine (hrep.out _).mono ?_
  rintro e w2 ⟨rfl, hb2⟩
  go_wp2
  go_ret
  exact ⟨rfl, hb2⟩
/-- a number out of a text, or nought -/
def atF (s : ByteArray) (a n : Int) : Int := wrap64 ((takeF s a n).1 : Nat)
set_option maxHeartbeats 400000 in
set_option maxRecDepth 100000 in
theorem at_any (s : ByteArray) (a n : Int) (w : World) (hs : s.size ≤ 140737488351232) :
    Calls Tryd.prog 79 #[.string s, .int .i64 a, .int .i64 n] w fun e w' => e = .returned (.int .i64 (atF s a n)) ∧ Below w.heap.size w w' := by
  go_enter Tryd.func79, Tryd.ntmps79
  go_wp2_with fail
  refine (take_any s a n _ hs).mono ?_
  rintro e w2 ⟨rfl, hb2⟩
  go_wp2
  go_ret
  exact ⟨rfl, hb2⟩
set_option maxHeartbeats 2000000 in
set_option maxRecDepth 100000 in
theorem pack_any (k no txn : Int) (body : ByteArray) (w : World) (hT : HasTab w) (hbody : body.size ≤ 2000) :
    Calls Tryd.prog 27 #[.agg #[.int .i64 k, .int .i64 no, .int .i64 txn, .string body]] w fun e w' => e = .returned (.tuple #[.string (packF k no txn body).1, .int .i64 (packF k no txn body).2]) ∧ Below w.heap.size w w' := by
  have hT' := Lib.hid hT
  have hu31 := Tryd.underlying31
  have hu81 := Tryd.underlying81
  by_cases hR : rightF k no txn body = true
  · obtain ⟨h1, h2, h3, h4, h5, h6, h7⟩ := (right_iff _ _ _ _).1 hR
    obtain ⟨k, rfl⟩ : ∃ n : Nat, k = n := ⟨k.toNat, by omega⟩
    obtain ⟨no, rfl⟩ : ∃ n : Nat, no = n := ⟨no.toNat, by omega⟩
    obtain ⟨txn, rfl⟩ : ∃ n : Nat, txn = n := ⟨txn.toNat, by omega⟩
    have hP : packF k no txn body = (packB k no txn body, 0) := by unfold packF; rw [if_pos hR]; rfl
    have hra : Hid (∀ v : World, Calls Tryd.prog 29 #[.agg #[.int .i64 (k : Int), .int .i64 (no : Int), .int .i64 (txn : Int), .string body]] v fun e w' => e = .returned (.bool true) ∧ Below v.heap.size v w') := by
      intro v
      rw [← hR]
      exact right_any k no txn body v
    have hfill : Hid (∀ v : World, Calls Tryd.prog 74 #[.string (⟨#[0, 0]⟩ ++ body), .int .i64 490] v fun e w' => e = .returned (.string (tailB body)) ∧ Below v.heap.size v w') := by
      intro v
      have h := filled_any (⟨#[0, 0]⟩ ++ body) 490 v (by rw [ByteArray.size_append]; show 2 + body.size ≤ 490; omega) (by decide)
      have e : 490 - (⟨#[0, 0]⟩ ++ body : ByteArray).size = 488 - body.size := by
        rw [ByteArray.size_append]; show 490 - (2 + body.size) = _; omega
      rw [e] at h
      exact h
    have hsz1 := headB_size k no txn body
    have hsz2 := tailB_size body h7
    have hl0 : Hid (layL ⟨#[82, 66]⟩ [(k, 1), (0, 1), (body.size, 2), (no, 4), (txn, 8)] = headB k no txn body) := layL_head k no txn body
    have hpb : packB k no txn body = headB k no txn body ++ numB 4 (sumB k no txn body) ++ tailB body := rfl
    have hsum : sumB k no txn body = onN 0 (headB k no txn body ++ ⟨#[0, 0, 0, 0]⟩ ++ tailB body) := rfl
    have hslt : sumB k no txn body < 4294967296 := by rw [hsum]; exact onN_lt _ _
    obtain ⟨H, hH⟩ : ∃ H, H = headB k no txn body := ⟨_, rfl⟩
    obtain ⟨T, hTl⟩ : ∃ T, T = tailB body := ⟨_, rfl⟩
    obtain ⟨S, hS⟩ : ∃ S, S = sumB k no txn body := ⟨_, rfl⟩
    rw [← hH, ← hTl, ← hS] at hpb hsum
    rw [← hS] at hslt
    rw [← hTl] at hfill hsz2
    rw [← hH] at hsz1 hl0
    rw [hP, hpb]
    have hsum' := Lib.hid hsum
    clear hR hP hT hsum hpb hH hTl hS
    go_enter Tryd.func27, Tryd.ntmps27
    go_wp2_with fail
    refine (hra.out _).mono ?_
    rintro e w2 ⟨rfl, hb2⟩
    have hb0 := ((Below.refl w.heap.size w).alloc (Nat.le_refl _) (Obj.cells #[.int .i64 (k : Int), .int .i64 (no : Int), .int .i64 (txn : Int), .string body] 31))
    have hb2' := Lib.hid (hb0.trans (hb2.mono hb0.size))
    have hpg : ∀ (i : Nat) v, (#[Value.int .i64 (k : Int), .int .i64 (no : Int), .int .i64 (txn : Int), .string body] : Array Value)[i]? = some v → w2.cell? ⟨w.heap.size, i, none⟩ = some v := by
      intro i v hi
      rw [hb2.cell (p := ⟨w.heap.size, i, none⟩) (by simp [World.alloc, -World.alloc_eq])]
      simp [World.alloc, -World.alloc_eq, World.cell?, hi]
    have hc0 := hpg 0 _ rfl
    have hc1 := hpg 1 _ rfl
    have hc2 := hpg 2 _ rfl
    have hc3 := hpg 3 _ rfl
    have hlt0 : w.heap.size < w2.heap.size := by
      have := hb2.size
      simp [World.alloc, -World.alloc_eq] at this
      omega
    clear hb2 hb0 hpg
    go_wp2_with fail
    refine (lay_any ⟨#[82, 66]⟩ [(k, 1), (0, 1), (body.size, 2), (no, 4), (txn, 8)] w2 (by simp; omega) (by simp) (by decide)).mono ?_
    rw [hl0.out]
    rintro e w3 ⟨rfl, hb3⟩
    have hb3' := Lib.hid (hb2'.out.trans (hb3.mono hb2'.out.size))
    have hlt2 : w.heap.size < w2.heap.size := hlt0
    have hc3' : w3.cell? ⟨w.heap.size, 3, none⟩ = some (.string body) := by
      rw [hb3.cell (p := ⟨w.heap.size, 3, none⟩) hlt2]; exact hc3
    clear hb3 hb2' hc0 hc1 hc2 hc3
    have hcat : (⟨#[0, 0]⟩ : ByteArray).size + body.size ≤ 9223372036854775807 := by show 2 + body.size ≤ _; omega
    go_wp2_with fail
    refine (hfill.out _).mono ?_
    rintro e w4 ⟨rfl, hb4⟩
    have hb4' := Lib.hid (hb3'.out.trans (hb4.mono hb3'.out.size))
    clear hb4 hb3'
    have hcat1 : H.size + (⟨#[0, 0, 0, 0]⟩ : ByteArray).size ≤ 9223372036854775807 := by show H.size + 4 ≤ _; omega
    have hcat2 : (H ++ ⟨#[0, 0, 0, 0]⟩ : ByteArray).size + T.size ≤ 9223372036854775807 := by rw [ByteArray.size_append]; show H.size + 4 + T.size ≤ _; omega
    have hcrc : Hid (∀ v : World, Below w.heap.size w v → Calls Tryd.prog 24 #[.string (H ++ ⟨#[0, 0, 0, 0]⟩ ++ T)] v fun e w' => e = .returned (.int .u32 (S : Nat)) ∧ v = w') := by
      intro v hv
      rw [hsum'.out]
      exact crcSum _ v (by rw [ByteArray.size_append, ByteArray.size_append]; show H.size + 4 + T.size ≤ 9223372036854775807; omega) (hT'.out.below hv hT'.out.pos)
    go_wp2_with fail
    refine (hcrc.out _ hb4'.out).mono ?_
    rintro e w5 ⟨rfl, rfl⟩
    go_wp2_with fail
    refine (lay_any H [(S, 4)] w4 (by simp; omega) (by simp) (by omega)).mono ?_
    rintro e w6 ⟨rfl, hb6⟩
    have hb6' := Lib.hid (hb4'.out.trans (hb6.mono hb4'.out.size))
    have hl1 : layL H [(S, 4)] = H ++ numB 4 S := rfl
    rw [hl1]
    have hcat3 : (H ++ numB 4 S : ByteArray).size + T.size ≤ 9223372036854775807 := by rw [ByteArray.size_append, numB_size]; omega
    clear hb6 hb4' hl1
    go_wp2
    go_ret2
    exact ⟨rfl, hb6'.out⟩
  · have hRf : rightF k no txn body = false := by simpa using hR
    have hP : packF k no txn body = (⟨#[]⟩, 4) := by unfold packF; rw [if_neg hR]
    have hra : Hid (∀ v : World, Calls Tryd.prog 29 #[.agg #[.int .i64 k, .int .i64 no, .int .i64 txn, .string body]] v fun e w' => e = .returned (.bool false) ∧ Below v.heap.size v w') := by
      intro v
      rw [← hRf]
      exact right_any k no txn body v
    rw [hP]
    clear hR hRf hP hT
    go_enter Tryd.func27, Tryd.ntmps27
    go_wp2_with fail
    refine (hra.out _).mono ?_
    rintro e w2 ⟨rfl, hb2⟩
    have hb0 := ((Below.refl w.heap.size w).alloc (Nat.le_refl _) (Obj.cells #[.int .i64 k, .int .i64 no, .int .i64 txn, .string body] 31))
    have hb2' := Lib.hid (hb0.trans (hb2.mono hb0.size))
    clear hb2 hb0
    go_wp2
    go_ret2
    exact ⟨rfl, hb2'.out⟩
end Go.Proofs.YtcoddeemfdnjpaaDoor.PagePlain
