/- The plain law of the reference's pages: its printed functions tell what the program's do. -/
import Derived.Test.YtcoddeemfdnjpaaDoorUnpackWalk
import Derived.Test.YtcoddeemfdnjpaaDoorCrcWalks
namespace Go.Proofs.YtcoddeemfdnjpaaDoor.PagePlain
open Go.RowKit CrcPlain NumPlain FieldPlain
open Go.Proofs.YtcoddeemfdnjpaaDoorW.PrintMore
open Go.Proofs.YtcoddeemfdnjpaaDoorW.PrintWords hiding nums nums_length nums_append
def stepsN : Nat → Nat → Nat
  | 0, n => n
  | d + 1, n => stepsN d (step1 n)
theorem step1_lt (n : Nat) (h : n < 4294967296) : step1 n < 4294967296 := by
  have := stepN_lt 1 n h
  exact this
theorem stepsN_lt : ∀ (d n : Nat), n < 4294967296 → stepsN d n < 4294967296
  | 0, _, h => h
  | d + 1, n, h => stepsN_lt d _ (step1_lt n h)
theorem stepsN_8 (n : Nat) : stepsN 8 n = step8 n := rfl
theorem refOn_l1 (s : ByteArray) (x6 : Int) : ∀ (d i k n : Nat), i + d = 8 → n < 4294967296 → Fn.rollbookref02_On.l1 (k + d + 1) s (n : Int) x6 (i : Int) = Fn.rollbookref02_On.l0 k s ((stepsN d n : Nat) : Int) (wrap64 (x6 + 1))
  | 0, i, k, n, hi, hn => by
    rw [show k + 0 + 1 = k + 1 by omega, Fn.rollbookref02_On.l1, if_neg (by omega)]; rfl
  | d + 1, i, k, n, hi, hn => by
    have ih := refOn_l1 s x6 d (i + 1) k (step1 n) (by omega) (step1_lt n hn)
    have e1 : wrap64 ((i : Int) + 1) = ((i + 1 : Nat) : Int) := by unfold wrap64; omega
    have hm : Int.tmod (n : Int) 2 = ((n % 2 : Nat) : Int) := by rw [Int.tmod_eq_emod_of_nonneg (by omega)]; omega
    have hd : Int.tdiv (n : Int) 2 % 4294967296 = ((n / 2 : Nat) : Int) := by rw [Int.tdiv_eq_ediv_of_nonneg (by omega)]; omega
    rw [show k + (d + 1) + 1 = (k + d + 1) + 1 by omega, Fn.rollbookref02_On.l1, if_pos (by omega), hm, hd, e1]
    by_cases c : n % 2 = 1
    · rw [if_pos (by omega)]
      have hx : Go.bits .xor .u32 ((n / 2 : Nat) : Int) 3988292384 = ((step1 n : Nat) : Int) := by
        unfold step1
        rw [if_pos c]
        exact u32_xor_nat (n / 2) P (by omega) (by decide)
      rw [hx, ih]; rfl
    · rw [if_neg (by omega)]
      have hx : n / 2 = step1 n := by unfold step1; rw [if_neg c]
      rw [hx, ih]; rfl
theorem refOn_l0 (s : ByteArray) (r0 : Nat) (hr : r0 < 4294967296) (hs : s.size < 4611686018427387904) : ∀ (d i k : Nat), i + d = s.size → 10 * d + 1 ≤ k →
    Fn.rollbookref02_On.l0 k s ((reg r0 ((nums s).take i) : Nat) : Int) (i : Int) = some (((4294967295 - reg r0 (nums s) : Nat)) : Int)
  | 0, i, k, hi, hk => by
    obtain ⟨k, rfl⟩ : ∃ q, k = q + 1 := ⟨k - 1, by omega⟩
    have hge : ¬ i < s.size := by omega
    have hc : ¬ ((i : Int) < (s.size : Int)) := by omega
    have h1 := reg_take_lt r0 s i hr
    rw [reg_all r0 s i hge] at h1 ⊢
    obtain ⟨R, hR⟩ : ∃ R, reg r0 (nums s) = R := ⟨_, rfl⟩
    rw [hR] at h1 ⊢
    clear hr hs hk
    rw [Fn.rollbookref02_On.l0, if_neg hc]
    congr 1
    omega
  | d + 1, i, k, hi, hk => by
    obtain ⟨k, rfl⟩ : ∃ q, k = q + 8 + 1 + 1 := ⟨k - 10, by omega⟩
    have hlt : i < s.size := by omega
    have hc : (i : Int) < (s.size : Int) := by omega
    have hc0 : (0 : Int) ≤ (i : Int) := by omega
    have hk' : 10 * d + 1 ≤ k := by omega
    have hi' : i + 1 + d = s.size := by omega
    have h1 := reg_take_lt r0 s i hr
    have hb := (s[i]).toNat_lt
    have hbt : bt s (i : Int) % 4294967296 = (((s[i]).toNat : Nat) : Int) := by
      unfold bt
      rw [Int.toNat_natCast, dif_pos hlt]
      omega
    have hx : Go.bits .xor .u32 ((reg r0 ((nums s).take i) : Nat) : Int) ((s[i]).toNat : Int) = ((reg r0 ((nums s).take i) ^^^ (s[i]).toNat : Nat) : Int) := u32_xor_nat _ _ h1 (by omega)
    have hlt2 : reg r0 ((nums s).take i) ^^^ (s[i]).toNat < 4294967296 := Nat.xor_lt_two_pow (n := 32) h1 (by omega)
    have h2 := refOn_l1 s (i : Int) 8 0 k _ rfl hlt2
    have e1 : wrap64 ((i : Int) + 1) = ((i + 1 : Nat) : Int) := by unfold wrap64; omega
    have ih := refOn_l0 s r0 hr hs d (i + 1) k hi' hk'
    rw [reg_snoc r0 s i hlt] at ih
    have h2' : Fn.rollbookref02_On.l1 (k + 8 + 1) s ((reg r0 ((nums s).take i) ^^^ (s[i]).toNat : Nat) : Int) (i : Int) 0 = _ := h2
    rw [Fn.rollbookref02_On.l0, if_pos hc, if_pos hc0, hbt, hx, h2', stepsN_8, e1, ih]
theorem refSum_f (s : ByteArray) (k : Nat) (hs : s.size < 4611686018427387904) (hk : 10 * s.size + 1 ≤ k) : Fn.rollbookref02_Sum.f k s = some ((onN 0 s : Nat) : Int) := by
  unfold Fn.rollbookref02_Sum.f Fn.rollbookref02_On.f
  have h := refOn_l0 s 4294967295 (by decide) hs s.size 0 k (by omega) hk
  have e : Fn.rollbookref02_On.l0 k s ((4294967295 - 0) % 4294967296) 0 = _ := h
  rw [e]
  rfl
theorem noughts_l0 (n : Nat) (hn : n ≤ 100000) : ∀ (d i k : Nat), i + d = n → d + 1 ≤ k → Fn.rollbookref04_Noughts.l0 k (n : Int) (List.replicate i (0 : Int)) (i : Int) = some (zerosB n)
  | 0, i, k, hi, hk => by
    obtain ⟨k, rfl⟩ : ∃ q, k = q + 1 := ⟨k - 1, by omega⟩
    rw [Fn.rollbookref04_Noughts.l0, if_neg (by omega)]
    congr 1
    obtain rfl : i = n := by omega
    unfold strOfNums zerosB
    simp
  | d + 1, i, k, hi, hk => by
    obtain ⟨k, rfl⟩ : ∃ q, k = q + 1 := ⟨k - 1, by omega⟩
    have e1 : wrap64 ((i : Int) + 1) = ((i + 1 : Nat) : Int) := by unfold wrap64; omega
    have ih := noughts_l0 n hn d (i + 1) k (by omega) (by omega)
    rw [List.replicate_succ'] at ih
    rw [Fn.rollbookref04_Noughts.l0, if_pos (by omega), if_pos (by rw [List.length_replicate]; omega), e1, ih]
theorem noughts_f (n k : Nat) (hn : n ≤ 100000) (hk : n + 1 ≤ k) : Fn.rollbookref04_Noughts.f k (n : Int) = some (zerosB n) := noughts_l0 n hn n 0 k (by omega) hk
theorem refPut_fk (s : ByteArray) (n : Nat) (size : Int) (hn : n < 18446744073709551616) (hs : s.size + 8 ≤ 9223372036854775807) : ∀ d, Fn.rollbookref01_Put.f (100 + d) s (n : Int) size = some (putF s n size)
  | 0 => refPut_f s n size hn hs
  | d + 1 => Fn.rollbookref01_Put.mono _ _ _ _ _ (refPut_fk s n size hn hs d)
theorem number_f (n z k : Nat) (h1 : 1 ≤ z) (h8 : z ≤ 8) (hn : n < 256 ^ z) (hn2 : n < 9223372036854775808) (hk : 100 ≤ k) : Fn.rollbookref04_Number.f k (n : Int) (z : Int) = some (numB z n) := by
  obtain ⟨d, rfl⟩ : ∃ d, k = 100 + d := ⟨k - 100, by omega⟩
  unfold Fn.rollbookref04_Number.f
  have hw : IntKind.u64.wrap ((n : Nat) : Int) = ((n : Nat) : Int) := by
    show ((n : Nat) : Int) % 18446744073709551616 = _
    omega
  have hp := refPut_fk ⟨#[]⟩ n (z : Int) (by omega) (by decide) d
  have hpf : putF ⟨#[]⟩ n (z : Int) = (⟨#[]⟩ ++ numB z n, 0) := by
    unfold putF
    rw [Int.toNat_natCast, if_neg (by omega)]
    rfl
  rw [hw, hp, Option.bind_some, hpf]
  congr 1
theorem refRight_f (k no txn : Int) (body : ByteArray) : Fn.rollbookref04_Right.f k no txn body = some (rightF k no txn body) := by
  unfold Fn.rollbookref04_Right.f rightF
  by_cases c1 : k < 1
  · rw [if_pos c1]; congr 1; exact (decide_eq_false (by omega)).symm
  · by_cases c2 : k > 4
    · rw [if_neg c1, if_pos c2]; congr 1; exact (decide_eq_false (by omega)).symm
    · by_cases c3 : no < 1
      · rw [if_neg c1, if_neg c2, if_pos c3]; congr 1; exact (decide_eq_false (by omega)).symm
      · by_cases c4 : no > 511
        · rw [if_neg c1, if_neg c2, if_neg c3, if_pos c4]; congr 1; exact (decide_eq_false (by omega)).symm
        · by_cases c5 : txn ≥ 0
          · by_cases c6 : txn ≤ 1099511627776
            · rw [if_neg c1, if_neg c2, if_neg c3, if_neg c4, if_pos c5, if_pos c6]
              congr 1
              rw [decide_eq_decide]
              omega
            · rw [if_neg c1, if_neg c2, if_neg c3, if_neg c4, if_pos c5, if_neg c6]; congr 1; exact (decide_eq_false (by omega)).symm
          · rw [if_neg c1, if_neg c2, if_neg c3, if_neg c4, if_neg c5]; congr 1; exact (decide_eq_false (by omega)).symm
theorem with_f (k no txn m : Nat) (body sum : ByteArray) (h1 : k < 256) (h2 : no < 512) (h3 : txn ≤ 1099511627776) (h4 : body.size ≤ 488) (h5 : sum.size = 4) (hm : 600 ≤ m) :
    Fn.rollbookref04_With.f m (k : Int) (no : Int) (txn : Int) body sum = some (headB k no txn body ++ sum ++ tailB body) := by
  have e488 : wrap64 (488 - (body.size : Int)) = ((488 - body.size : Nat) : Int) := by unfold wrap64; omega
  have n1 := number_f k 1 m (by decide) (by decide) (by omega) (by omega) (by omega)
  have n2 := number_f body.size 2 m (by decide) (by decide) (by omega) (by omega) (by omega)
  have n3 := number_f no 4 m (by decide) (by decide) (by omega) (by omega) (by omega)
  have n4 := number_f txn 8 m (by decide) (by decide) (by omega) (by omega) (by omega)
  have z1 := noughts_f 1 m (by decide) (by omega)
  have z2 := noughts_f 2 m (by decide) (by omega)
  have z3 := noughts_f (488 - body.size) m (by omega) (by omega)
  have s1 : (⟨#[82, 66]⟩ : ByteArray).size = 2 := rfl
  unfold Fn.rollbookref04_With.f
  have n1' : Fn.rollbookref04_Number.f m (k : Int) 1 = _ := n1
  have n2' : Fn.rollbookref04_Number.f m (body.size : Int) 2 = _ := n2
  have n3' : Fn.rollbookref04_Number.f m (no : Int) 4 = _ := n3
  have n4' : Fn.rollbookref04_Number.f m (txn : Int) 8 = _ := n4
  have z1' : Fn.rollbookref04_Noughts.f m 1 = _ := z1
  have z2' : Fn.rollbookref04_Noughts.f m 2 = _ := z2
  rw [n1', Option.bind_some, if_pos (by rw [numB_size]; decide), z1', Option.bind_some, if_pos (by simp only [ByteArray.size_append, numB_size, zerosB_size, s1]; decide), n2', Option.bind_some,
    if_pos (by simp only [ByteArray.size_append, numB_size, zerosB_size, s1]; decide), n3', Option.bind_some, if_pos (by simp only [ByteArray.size_append, numB_size, zerosB_size, s1]; decide), n4', Option.bind_some,
    if_pos (by simp only [ByteArray.size_append, numB_size, zerosB_size, s1]; decide), if_pos (by simp only [ByteArray.size_append, numB_size, zerosB_size, s1, h5]; decide), z2', Option.bind_some,
    if_pos (by simp only [ByteArray.size_append, numB_size, zerosB_size, s1, h5]; decide), if_pos (by simp only [ByteArray.size_append, numB_size, zerosB_size, s1, h5]; omega), e488, z3, Option.bind_some,
    if_pos (by simp only [ByteArray.size_append, numB_size, zerosB_size, s1, h5]; omega)]
  congr 1
  apply nums_inj
  simp only [headB, tailB, CrcPlain.nums_append, nums_numB, nums_zerosB, List.append_assoc]
  rfl
theorem packRef_f (k no txn : Int) (body : ByteArray) (m : Nat) (hm : 6000 ≤ m) : Fn.rollbookref04_Pack.f m k no txn body = some (packF k no txn body) := by
  unfold Fn.rollbookref04_Pack.f
  rw [refRight_f, Option.bind_some]
  by_cases hR : rightF k no txn body = true
  · obtain ⟨h1, h2, h3, h4, h5, h6, h7⟩ := (right_iff _ _ _ _).1 hR
    obtain ⟨k, rfl⟩ : ∃ n : Nat, k = n := ⟨k.toNat, by omega⟩
    obtain ⟨no, rfl⟩ : ∃ n : Nat, no = n := ⟨no.toNat, by omega⟩
    obtain ⟨txn, rfl⟩ : ∃ n : Nat, txn = n := ⟨txn.toNat, by omega⟩
    have hP : packF k no txn body = (packB k no txn body, 0) := by unfold packF; rw [if_pos hR]; rfl
    have hz4 : Fn.rollbookref04_Noughts.f m 4 = some (zerosB 4) := noughts_f 4 m (by decide) (by omega)
    have hw := with_f k no txn m body (zerosB 4) (by omega) (by omega) (by omega) h7 (zerosB_size 4) (by omega)
    have hsz : (headB k no txn body ++ zerosB 4 ++ tailB body).size = 512 := by rw [ByteArray.size_append, ByteArray.size_append, headB_size, zerosB_size, tailB_size body h7]
    have hs := refSum_f (headB k no txn body ++ zerosB 4 ++ tailB body) m (by rw [hsz]; decide) (by rw [hsz]; omega)
    have hs' : onN 0 (headB k no txn body ++ zerosB 4 ++ tailB body) = sumB k no txn body := rfl
    rw [hs'] at hs
    have hlt : sumB k no txn body < 4294967296 := onN_lt _ _
    have hws : wrap64 ((sumB k no txn body : Nat) : Int) = ((sumB k no txn body : Nat) : Int) := by unfold wrap64; omega
    have hn := number_f (sumB k no txn body) 4 m (by decide) (by decide) (by omega) (by omega) (by omega)
    have hn' : Fn.rollbookref04_Number.f m ((sumB k no txn body : Nat) : Int) 4 = _ := hn
    have hw2 := with_f k no txn m body (numB 4 (sumB k no txn body)) (by omega) (by omega) (by omega) h7 (numB_size _ _) (by omega)
    rw [hR, if_pos rfl, hz4, Option.bind_some, hw, Option.bind_some, hs, Option.bind_some, hws, hn', Option.bind_some, hw2, Option.bind_some, hP]
    rfl
  · rw [if_neg hR]
    unfold packF
    rw [if_neg hR]
theorem refTake_fk (s : ByteArray) (a n : Int) (hs : s.size + 8 ≤ 9223372036854775807) : ∀ d, Fn.rollbookref01_Take.f (12 + d) s a n = some ((((takeF s a n).1 : Nat) : Int), (takeF s a n).2)
  | 0 => refTake_f s a n hs
  | d + 1 => Fn.rollbookref01_Take.mono _ _ _ _ _ (refTake_fk s a n hs d)
theorem takeF_ok (s : ByteArray) (a n : Nat) (h1 : 1 ≤ n) (h8 : n ≤ 8) (h : a + n ≤ s.size) : takeF s (a : Int) (n : Int) = (takeN s a n, 0) := by
  unfold takeF
  rw [if_neg (by omega), if_neg (by omega)]
  simp only [Int.toNat_natCast]
/-- what the printed function tells, as the law has it -/
def flat (r : Pg × Int) : Int × Int × Int × ByteArray × Int := (r.1.kind, r.1.no, r.1.txn, r.1.body, r.2)
theorem unpackRef_f (s : ByteArray) (hs : s.size ≤ 2000) : Fn.rollbookref04_Unpack.f 7000 s = some (flat (unpackF s)) := by
  unfold Fn.rollbookref04_Unpack.f unpackF
  by_cases c : s.size = 512
  · have t1 := refTake_fk s 2 1 (by omega) 6988
    have t2 := refTake_fk s 4 2 (by omega) 6988
    have t3 := refTake_fk s 6 4 (by omega) 6988
    have t4 := refTake_fk s 10 8 (by omega) 6988
    have u1 : takeF s 2 1 = _ := takeF_ok s 2 1 (by decide) (by decide) (by omega)
    have u2 : takeF s 4 2 = _ := takeF_ok s 4 2 (by decide) (by decide) (by omega)
    have u3 : takeF s 6 4 = _ := takeF_ok s 6 4 (by decide) (by decide) (by omega)
    have u4 : takeF s 10 8 = _ := takeF_ok s 10 8 (by decide) (by decide) (by omega)
    rw [u1] at t1
    rw [u2] at t2
    rw [u3] at t3
    rw [u4] at t4
    have b1 : takeN s 2 1 < 256 := takeN_lt s 2 1 (by omega)
    have b3 : takeN s 6 4 < 4294967296 := takeN_lt s 6 4 (by omega)
    rw [if_pos (by omega), t1, Option.bind_some, t2, Option.bind_some, t3, Option.bind_some, t4, Option.bind_some]
    simp only
    have hg : getP s = ⟨takeN s 2 1, takeN s 6 4, takeN s 10 8, s.extract 24 (24 + takeN s 4 2)⟩ := rfl
    obtain ⟨f0, hf0⟩ : ∃ n, takeN s 2 1 = n := ⟨_, rfl⟩
    obtain ⟨f1, hf1⟩ : ∃ n, takeN s 6 4 = n := ⟨_, rfl⟩
    obtain ⟨f2, hf2⟩ : ∃ n, takeN s 10 8 = n := ⟨_, rfl⟩
    obtain ⟨n, hn⟩ : ∃ n, takeN s 4 2 = n := ⟨_, rfl⟩
    rw [hf0] at b1 hg ⊢
    rw [hf1] at b3 hg ⊢
    rw [hf2] at hg ⊢
    rw [hn] at hg ⊢
    clear t1 t2 t3 t4 u1 u2 u3 u4 hf0 hf1 hf2 hn
    by_cases c1 : n ≤ 488
    · rw [if_neg (by omega)]
      by_cases c2 : f2 ≤ 1099511627776
      · have hdec : decide ((f2 : Int) > 1099511627776) = false := decide_eq_false (by omega)
        have hw1 : wrap64 (f0 : Int) = (f0 : Int) := by unfold wrap64; omega
        have hw2 : wrap64 (f1 : Int) = (f1 : Int) := by unfold wrap64; omega
        have hw3 : wrap64 (f2 : Int) = (f2 : Int) := by unfold wrap64; omega
        have hw4 : wrap64 (n : Int) = (n : Int) := by unfold wrap64; omega
        have hw5 : wrap64 (24 + (n : Int)) = ((24 + n : Nat) : Int) := by unfold wrap64; omega
        rw [hdec, Fn.rollbookref04_Unpack.j0, if_neg (by decide), hw1, hw2, hw3, hw4, hw5, if_pos (by omega), if_pos (by omega), Int.toNat_natCast, packRef_f _ _ _ _ 6999 (by decide), Option.bind_some, hg]
        have hpp : packP ⟨f0, f1, f2, s.extract 24 (24 + n)⟩ = packF f0 f1 f2 (s.extract 24 (24 + n)) := rfl
        rw [hpp]
        obtain ⟨z1, z2, hz⟩ : ∃ z1 z2, packF f0 f1 f2 (s.extract 24 (24 + n)) = (z1, z2) := ⟨_, _, rfl⟩
        rw [hz]
        simp only
        by_cases hok : z2 = 0 ∧ z1 = s
        · obtain ⟨rfl, rfl⟩ := hok
          rw [if_pos rfl, if_pos rfl, if_pos ⟨c, c1, c2, rfl⟩]
          rfl
        · rw [if_neg (show ¬ (s.size = 512 ∧ n ≤ 488 ∧ f2 ≤ 1099511627776 ∧ (z1, z2) = (s, (0 : Int))) from fun h => hok (by have h4 := h.2.2.2; injection h4 with h5 h6; exact ⟨h6, h5⟩))]
          by_cases he : z2 = 0
          · have hne : ¬ z1.toList = s.toList := fun e => by
              have := ne_bytes (x := z1) (s := s) (fun h => hok ⟨he, h⟩)
              rw [e, beq_self_eq_true] at this
              cases this
            rw [if_pos he, if_neg hne]
            rfl
          · rw [if_neg he]
            rfl
      · have hdec : decide ((f2 : Int) > 1099511627776) = true := decide_eq_true (by omega)
        rw [hdec, Fn.rollbookref04_Unpack.j0, if_pos rfl, if_neg (fun h => c2 h.2.2.1)]
        rfl
    · rw [if_pos (by omega), Fn.rollbookref04_Unpack.j0, if_pos rfl, if_neg (fun h => c1 h.2.1)]
      rfl
  · rw [if_neg (by omega), if_neg (fun h => c h.1)]
    rfl
theorem refPack_any (k no txn : Int) (body : ByteArray) (w : World) :
    Calls Tryd.prog 28 #[.agg #[.int .i64 k, .int .i64 no, .int .i64 txn, .string body]] w fun e w' => e = .returned (.tuple #[.string (packF k no txn body).1, .int .i64 (packF k no txn body).2]) ∧ Below w.heap.size w w' :=
  Fn.rollbookref04_Pack.calls 6000 k no txn body _ _ w (packRef_f k no txn body 6000 (by decide))
theorem refUnpack_any (s : ByteArray) (w : World) (hs : s.size ≤ 2000) :
    Calls Tryd.prog 35 #[.string s] w fun e w' => e = .returned (.tuple #[pgV (unpackF s).1, .int .i64 (unpackF s).2]) ∧ Below w.heap.size w w' :=
  Fn.rollbookref04_Unpack.calls 7000 s _ _ _ _ _ w (unpackRef_f s hs)
end Go.Proofs.YtcoddeemfdnjpaaDoor.PagePlain
