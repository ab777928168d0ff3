/- The plain law of the reference's prep: runes, text, what is mapped, made ready, a phone's number. -/
import Derived.Test.YtcoddeemfdnjpaaDoorRefPrep
namespace Go.Proofs.YtcoddeemfdnjpaaDoor.PrepPlain
open Go.RowKit
open Go.Proofs.YtcoddeemfdnjpaaDoorW.PrintMore
open Go.Proofs.YtcoddeemfdnjpaaDoorW.PrintWords hiding nums nums_length nums_append
theorem w64 (n : Nat) (h : n ≤ 2000000) : wrap64 ((n : Nat) : Int) = (n : Int) := by unfold wrap64; omega
theorem w64s (i n : Nat) (h : i + n ≤ 2000000) : wrap64 ((i : Int) + (n : Int)) = ((i + n : Nat) : Int) := by unfold wrap64; omega
theorem w64i (i : Nat) (h : i ≤ 2000000) : wrap64 ((i : Int) + 1) = ((i + 1 : Nat) : Int) := by unfold wrap64; omega
theorem w32 (n : Nat) (h : n ≤ 2000000) : wrap32 ((n : Nat) : Int) = (n : Int) := by unfold wrap32; omega
theorem td (v d : Nat) : Int.tdiv (v : Int) (d : Int) = ((v / d : Nat) : Int) := by
  rw [Int.tdiv_eq_ediv_of_nonneg (Int.natCast_nonneg v)]
  exact (Int.natCast_ediv v d).symm
theorem tm (v d : Nat) : Int.tmod (v : Int) (d : Int) = ((v % d : Nat) : Int) := by
  rw [Int.tmod_eq_emod_of_nonneg (Int.natCast_nonneg v)]
  exact (Int.natCast_emod v d).symm
theorem byteA (c n : Nat) (hn : c + n < 256) : (wrap64 ((c : Int) + ((n : Nat) : Int))) % 256 = (((UInt8.ofNat (c + n)).toNat : Nat) : Int) := by
  rw [toNat_of hn, w64s c n (by omega)]
  omega
theorem refOne_fk (s : ByteArray) (i : Nat) (hi : i < s.size) (hs : s.size ≤ 100000) : ∀ d, Fn.rollbookref13_One.f (12 + d) s (i : Int) = some (flat1 (one (s.data.toList.drop i)))
  | 0 => refOne_f s i hi hs
  | d + 1 => Fn.rollbookref13_One.mono _ _ _ _ (refOne_fk s i hi hs d)
def toL (o : Option (List Nat)) : List Int × Int := match o with
  | none => ([], 19)
  | some l => (l.map Int.ofNat, 0)
theorem runesP_toL (s : ByteArray) : runesP s = toL (runesL s.data.toList) := by
  unfold runesP toL
  cases runesL s.data.toList <;> rfl
theorem refRunes_l0 (s : ByteArray) (hs : s.size ≤ 100000) : ∀ (d i k : Nat) (acc : List Nat), s.size - i ≤ d → d + 13 ≤ k → acc.length ≤ i → i ≤ s.size →
    Fn.rollbookref13_Runes.l0 k s (acc.map Int.ofNat) (i : Int) = some (toL ((runesL (s.data.toList.drop i)).map (acc ++ ·))) := by
  intro d
  induction d with
  | zero =>
    intro i k acc h1 h2 h3 h4
    obtain ⟨k, rfl⟩ : ∃ q, k = q + 1 := ⟨k - 1, by omega⟩
    have hd : s.data.toList.drop i = [] := List.drop_eq_nil_of_le (by have h4 : s.data.toList.length = s.size := rfl; omega)
    rw [Fn.rollbookref13_Runes.l0, if_neg (by omega), hd]
    show some (acc.map Int.ofNat, (0 : Int)) = some ((acc ++ []).map Int.ofNat, 0)
    rw [List.append_nil]
  | succ d ih =>
    intro i k acc h1 h2 h3 h4
    obtain ⟨k, rfl⟩ : ∃ q, k = q + 1 := ⟨k - 1, by omega⟩
    by_cases hi : i < s.size
    · have ho := refOne_fk s i hi hs (k - 12)
      rw [show 12 + (k - 12) = k by omega] at ho
      rw [Fn.rollbookref13_Runes.l0, if_pos (by omega), ho, Option.bind_some]
      cases hone : one (s.data.toList.drop i) with
      | none =>
        have hne : s.data.toList.drop i ≠ [] := fun h => by
          have := congrArg List.length h
          rw [drop_len, List.length_nil] at this
          omega
        rw [runes_stop hne hone]
        rfl
      | some q =>
        obtain ⟨v, n⟩ := q
        have hst := runes_step hone
        obtain ⟨g1, g2, g3⟩ := enc_one hone
        have hn1 : 1 ≤ n := by have := (enc_length v).1; omega
        have hv : v ≤ 1114111 := g1.1
        have hle : i + n ≤ s.size := by
          have h5 := congrArg List.length g3
          rw [drop_len, List.length_append, List.length_drop, drop_len, ← g2] at h5
          omega
        have e3 : acc.map Int.ofNat ++ [(v : Int)] = (acc ++ [v]).map Int.ofNat := by rw [List.map_append]; rfl
        have q1 : ¬ (n : Int) = 0 := by omega
        have q2 : (acc.map Int.ofNat).length < 35184372088832 := by rw [List.length_map]; omega
        have ih' := ih (i + n) k (acc ++ [v]) (by omega) (by omega) (by rw [List.length_append, List.length_singleton]; omega) hle
        have e1 := w32 v (by omega)
        have e2 := w64s i n (by omega)
        show (if (n : Int) = 0 then _ else if (acc.map Int.ofNat).length < 35184372088832 then Fn.rollbookref13_Runes.l0 k s (acc.map Int.ofNat ++ [wrap32 (v : Int)]) (wrap64 ((i : Int) + (n : Int))) else none) = _
        rw [if_neg q1, if_pos q2, e1, e2, e3, ih', hst, List.drop_drop]
        cases runesL (s.data.toList.drop (i + n)) with
        | none => rfl
        | some r =>
          show some (toL (some ((acc ++ [v]) ++ r))) = some (toL (some (acc ++ v :: r)))
          rw [List.append_assoc]
          rfl
    · have hd : s.data.toList.drop i = [] := List.drop_eq_nil_of_le (by have h4 : s.data.toList.length = s.size := rfl; omega)
      rw [Fn.rollbookref13_Runes.l0, if_neg (by omega), hd]
      show some (acc.map Int.ofNat, (0 : Int)) = some ((acc ++ []).map Int.ofNat, 0)
      rw [List.append_nil]
theorem refRunes_f (s : ByteArray) (hs : s.size ≤ 100000) (k : Nat) (hk : 100020 ≤ k) : Fn.rollbookref13_Runes.f k s = some (runesP s) := by
  unfold Fn.rollbookref13_Runes.f
  have h := refRunes_l0 s hs s.size 0 k [] (by omega) (by omega) (Nat.le_refl _) (by omega)
  rw [runesP_toL]
  refine Eq.trans h ?_
  rw [List.drop_zero]
  cases runesL s.data.toList <;> rfl
/-! ### Text -/
theorem refBytes_f (v : Nat) (hv : okR v) : Fn.rollbookref13_Bytes.f (v : Int) = some ((enc v).map fun b => (b.toNat : Int)) := by
  obtain ⟨h1, h2⟩ := hv
  have b0 : v ≤ 2000000 := by omega
  have b1 : v / 64 ≤ 2000000 := by omega
  have b2 : v / 4096 ≤ 2000000 := by omega
  have b3 : v / 262144 ≤ 2000000 := by omega
  have t1 : Int.tdiv (v : Int) 64 = ((v / 64 : Nat) : Int) := td v 64
  have t2 : Int.tdiv (v : Int) 4096 = ((v / 4096 : Nat) : Int) := td v 4096
  have t3 : Int.tdiv (v : Int) 262144 = ((v / 262144 : Nat) : Int) := td v 262144
  have m0 : Int.tmod (v : Int) 64 = ((v % 64 : Nat) : Int) := tm v 64
  have m1 : Int.tmod ((v / 64 : Nat) : Int) 64 = ((v / 64 % 64 : Nat) : Int) := tm (v / 64) 64
  have m2 : Int.tmod ((v / 4096 : Nat) : Int) 64 = ((v / 4096 % 64 : Nat) : Int) := tm (v / 4096) 64
  have w0 := w64 v b0
  have w1 := w64 (v / 64) b1
  have w2 := w64 (v / 4096) b2
  have w3 := w64 (v / 262144) b3
  unfold Fn.rollbookref13_Bytes.f enc
  rw [w0, t1, t2, t3, w1, w2, w3, m0, m1, m2]
  clear w0 w1 w2 w3 t1 t2 t3 m0 m1 m2
  by_cases c1 : v < 128
  · have g1 : (v : Int) < 128 := by omega
    have e : (v : Int) % 256 = (((UInt8.ofNat v).toNat : Nat) : Int) := by rw [toNat_of (by omega)]; omega
    rw [if_pos g1, if_pos c1, e]
    rfl
  · have g1 : ¬ (v : Int) < 128 := by omega
    rw [if_neg g1, if_neg c1]
    by_cases c2 : v < 2048
    · have g2 : (v : Int) < 2048 := by omega
      have z1 : 192 + v / 64 < 256 := by omega
      have z2 : 128 + v % 64 < 256 := by omega
      have a1 : wrap64 (192 + ((v / 64 : Nat) : Int)) % 256 = _ := byteA 192 (v / 64) z1
      have a2 : wrap64 (128 + ((v % 64 : Nat) : Int)) % 256 = _ := byteA 128 (v % 64) z2
      rw [if_pos g2, if_pos c2, a1, a2]
      rfl
    · have g2 : ¬ (v : Int) < 2048 := by omega
      rw [if_neg g2, if_neg c2]
      by_cases c3 : v < 65536
      · have g3 : (v : Int) < 65536 := by omega
        have z1 : 224 + v / 4096 < 256 := by omega
        have z3 : 128 + v / 64 % 64 < 256 := by omega
        have z2 : 128 + v % 64 < 256 := by omega
        have a1 : wrap64 (224 + ((v / 4096 : Nat) : Int)) % 256 = _ := byteA 224 (v / 4096) z1
        have a2 : wrap64 (128 + ((v / 64 % 64 : Nat) : Int)) % 256 = _ := byteA 128 (v / 64 % 64) z3
        have a3 : wrap64 (128 + ((v % 64 : Nat) : Int)) % 256 = _ := byteA 128 (v % 64) z2
        rw [if_pos g3, if_pos c3, a1, a2, a3]
        rfl
      · have g3 : ¬ (v : Int) < 65536 := by omega
        have z1 : 240 + v / 262144 < 256 := by omega
        have z4 : 128 + v / 4096 % 64 < 256 := by omega
        have z3 : 128 + v / 64 % 64 < 256 := by omega
        have z2 : 128 + v % 64 < 256 := by omega
        have a1 : wrap64 (240 + ((v / 262144 : Nat) : Int)) % 256 = _ := byteA 240 (v / 262144) z1
        have a2 : wrap64 (128 + ((v / 4096 % 64 : Nat) : Int)) % 256 = _ := byteA 128 (v / 4096 % 64) z4
        have a3 : wrap64 (128 + ((v / 64 % 64 : Nat) : Int)) % 256 = _ := byteA 128 (v / 64 % 64) z3
        have a4 : wrap64 (128 + ((v % 64 : Nat) : Int)) % 256 = _ := byteA 128 (v % 64) z2
        rw [if_neg g3, if_neg c3, a1, a2, a3, a4]
        rfl
theorem rd_map (l : List Nat) (i r : Nat) (h : l[i]? = some r) : rd (l.map Int.ofNat) (i : Int) = (r : Int) := by
  unfold rd
  rw [Int.toNat_natCast, List.getD_eq_getElem?_getD, List.getElem?_map, h]
  rfl
def intsB (l : List UInt8) : List Int := l.map fun b => (b.toNat : Int)
theorem str_ints (l : List UInt8) : strOfNums (intsB l) = ⟨l.toArray⟩ := by
  unfold strOfNums intsB
  rw [List.map_map]
  congr 2
  rw [show ((fun n : Int => UInt8.ofNat n.toNat) ∘ fun b : UInt8 => (b.toNat : Int)) = id from funext fun b => by simp]
  exact List.map_id _
theorem refText_l0 (l : List Nat) (hok : ∀ v ∈ l, okR v) (hl : l.length ≤ 100000) : ∀ (d i k : Nat) (acc : List UInt8), l.length - i ≤ d → d + 1 ≤ k → acc.length ≤ 4 * i → i ≤ l.length →
    Fn.rollbookref13_Text.l0 k (l.map Int.ofNat) (intsB acc) (i : Int) = some ⟨(acc ++ textL (l.drop i)).toArray⟩ := by
  intro d
  induction d with
  | zero =>
    intro i k acc h1 h2 h3 h4
    obtain ⟨k, rfl⟩ : ∃ q, k = q + 1 := ⟨k - 1, by omega⟩
    have q : ¬ (i : Int) < ((l.map Int.ofNat).length : Int) := by rw [List.length_map]; omega
    rw [Fn.rollbookref13_Text.l0, if_neg q, str_ints, List.drop_eq_nil_of_le (by omega), textL_nil, List.append_nil]
  | succ d ih =>
    intro i k acc h1 h2 h3 h4
    obtain ⟨k, rfl⟩ : ∃ q, k = q + 1 := ⟨k - 1, by omega⟩
    by_cases hi : i < l.length
    · obtain ⟨r, hr⟩ : ∃ r, l[i]? = some r := ⟨l[i], List.getElem?_eq_getElem hi⟩
      have hrk := hok r (List.mem_of_getElem? hr)
      have q : (i : Int) < ((l.map Int.ofNat).length : Int) := by rw [List.length_map]; omega
      have q0 : (0 : Int) ≤ (i : Int) := by omega
      have e1 := w64i i (by omega)
      have hel := (enc_length r).2
      have q2 : (intsB acc).length + ((enc r).map fun b => (b.toNat : Int)).length < 140737488355328 := by
        unfold intsB
        rw [List.length_map, List.length_map]
        omega
      have e2 : intsB acc ++ ((enc r).map fun b => (b.toNat : Int)) = intsB (acc ++ enc r) := by unfold intsB; rw [List.map_append]
      have hdr : l.drop i = r :: l.drop (i + 1) := by
        rw [List.drop_eq_getElem_cons hi]
        congr 1
        rw [List.getElem?_eq_getElem hi] at hr
        exact Option.some.inj hr
      have ih' := ih (i + 1) k (acc ++ enc r) (by omega) (by omega) (by rw [List.length_append]; omega) (by omega)
      rw [Fn.rollbookref13_Text.l0, if_pos q, if_pos q0, rd_map l i r hr, refBytes_f r hrk, Option.bind_some, if_pos q2, e1, e2, ih', hdr, textL_cons, List.append_assoc]
    · have q : ¬ (i : Int) < ((l.map Int.ofNat).length : Int) := by rw [List.length_map]; omega
      rw [Fn.rollbookref13_Text.l0, if_neg q, str_ints, List.drop_eq_nil_of_le (by omega), textL_nil, List.append_nil]
theorem refText_f (l : List Nat) (hok : ∀ v ∈ l, okR v) (hl : l.length ≤ 100000) (k : Nat) (hk : 100020 ≤ k) : Fn.rollbookref13_Text.f k (l.map Int.ofNat) = some ⟨(textL l).toArray⟩ := by
  unfold Fn.rollbookref13_Text.f
  have h := refText_l0 l hok hl l.length 0 k [] (by omega) (by omega) (Nat.zero_le _) (by omega)
  rw [List.drop_zero, List.nil_append] at h
  exact h
/-! ### Mapped -/
theorem refMapped_l0 (fold : Bool) (e : Int) (l : List Nat) (hok : ∀ v ∈ l, okR v) (hl : l.length ≤ 100000) : ∀ (d i k : Nat) (acc : List Nat), l.length - i ≤ d → d + 3 ≤ k → acc.length ≤ i → i ≤ l.length →
    Fn.rollbookref13_Mapped.l0 k fold (l.map Int.ofNat) e (acc.map Int.ofNat) (i : Int) = some ((acc ++ mapL fold (l.drop i)).map Int.ofNat, e) := by
  intro d
  induction d with
  | zero =>
    intro i k acc h1 h2 h3 h4
    obtain ⟨k, rfl⟩ : ∃ q, k = q + 1 := ⟨k - 1, by omega⟩
    have q : ¬ (i : Int) < ((l.map Int.ofNat).length : Int) := by rw [List.length_map]; omega
    rw [Fn.rollbookref13_Mapped.l0, if_neg q, List.drop_eq_nil_of_le (by omega)]
    show _ = some ((acc ++ []).map Int.ofNat, e)
    rw [List.append_nil]
  | succ d ih =>
    intro i k acc h1 h2 h3 h4
    obtain ⟨k, rfl⟩ : ∃ q, k = q + 1 := ⟨k - 1, by omega⟩
    by_cases hi : i < l.length
    · obtain ⟨r, hr⟩ : ∃ r, l[i]? = some r := ⟨l[i], List.getElem?_eq_getElem hi⟩
      have hrk := hok r (List.mem_of_getElem? hr)
      have q : (i : Int) < ((l.map Int.ofNat).length : Int) := by rw [List.length_map]; omega
      have q0 : (0 : Int) ≤ (i : Int) := by omega
      have e1 := w64i i (by omega)
      have q2 : (acc.map Int.ofNat).length < 35184372088832 := by rw [List.length_map]; omega
      have hdr : l.drop i = r :: l.drop (i + 1) := by
        rw [List.drop_eq_getElem_cons hi]
        congr 1
        rw [List.getElem?_eq_getElem hi] at hr
        exact Option.some.inj hr
      have ih0 := ih (i + 1) k acc (by omega) (by omega) (by omega) (by omega)
      have ihx := fun x : Nat => ih (i + 1) k (acc ++ [x]) (by omega) (by omega) (by rw [List.length_append, List.length_singleton]; omega) (by omega)
      have ex : ∀ x : Nat, acc.map Int.ofNat ++ [(x : Int)] = (acc ++ [x]).map Int.ofNat := fun x => by rw [List.map_append]; rfl
      have hmc : mapL fold (r :: l.drop (i + 1)) = (mp fold r).toList ++ mapL fold (l.drop (i + 1)) := by
        unfold mapL
        rw [List.filterMap_cons]
        cases mp fold r <;> rfl
      have hsm := refSmall_f (k - 1) r hrk.1
      rw [show k - 1 + 1 = k by omega] at hsm
      rw [Fn.rollbookref13_Mapped.l0, if_pos q, if_pos q0, rd_map l i r hr, refDropped_f, Option.bind_some, e1, hdr, hmc]
      unfold mp
      by_cases cd : drp r = true
      · rw [if_pos cd, if_pos cd, ih0]; rfl
      · rw [if_neg cd, if_neg cd, refBlank_f, Option.bind_some]
        by_cases cb : blk r = true
        · have h32 := ex 32
          have h32' : acc.map Int.ofNat ++ [(32 : Int)] = (acc ++ [32]).map Int.ofNat := h32
          rw [if_pos cb, if_pos cb, if_pos q2, h32', ihx 32, List.append_assoc]; rfl
        · rw [if_neg cb, if_neg cb]
          by_cases cf : fold = true
          · rw [if_pos cf, if_pos cf, hsm, Option.bind_some, if_pos q2, ex (sml r), ihx (sml r), List.append_assoc]; rfl
          · rw [if_neg cf, if_neg cf, if_pos q2, ex r, ihx r, List.append_assoc]; rfl
    · have q : ¬ (i : Int) < ((l.map Int.ofNat).length : Int) := by rw [List.length_map]; omega
      rw [Fn.rollbookref13_Mapped.l0, if_neg q, List.drop_eq_nil_of_le (by omega)]
      show _ = some ((acc ++ []).map Int.ofNat, e)
      rw [List.append_nil]
theorem runes_len (s : ByteArray) (l : List Nat) (h : runesL s.data.toList = some l) : l.length ≤ s.size := by
  obtain ⟨_, htx⟩ := (runesL_iff _ _).1 h
  have h2 : ∀ l : List Nat, l.length ≤ (textL l).length := by
    intro l
    induction l with
    | nil => exact Nat.le_refl _
    | cons a l ih =>
      have := (enc_length a).1
      rw [textL_cons, List.length_append, List.length_cons]
      omega
  have h3 := h2 l
  rw [← htx] at h3
  exact h3
theorem refMapped_f (s : ByteArray) (fold : Bool) (hs : s.size ≤ 100000) (k : Nat) (hk : 100020 ≤ k) : Fn.rollbookref13_Mapped.f k s fold = some (toL ((runesL s.data.toList).map (mapL fold))) := by
  unfold Fn.rollbookref13_Mapped.f
  rw [refRunes_f s hs k hk, Option.bind_some, runesP_toL]
  cases hr : runesL s.data.toList with
  | none =>
    have h := refMapped_l0 fold 19 [] (by simp) (by simp) 0 0 k [] (by simp) (by omega) (by simp) (by simp)
    exact h
  | some l =>
    have hll := runes_len s l hr
    have h := refMapped_l0 fold 0 l ((runesL_iff _ _).1 hr).1 (by omega) l.length 0 k [] (by omega) (by omega) (by simp) (by omega)
    rw [List.drop_zero, List.nil_append] at h
    exact h
theorem mapL_length (fold : Bool) (l : List Nat) : (mapL fold l).length ≤ l.length := List.length_filterMap_le _ _
theorem refMap_f (s : ByteArray) (fold : Bool) (hs : s.size ≤ 100000) (k : Nat) (hk : 100020 ≤ k) : Fn.rollbookref13_Map.f k s fold = some (toP (mapT fold s.data.toList)) := by
  unfold Fn.rollbookref13_Map.f
  rw [refMapped_f s fold hs k hk, Option.bind_some]
  unfold mapT
  cases hr : runesL s.data.toList with
  | none => rfl
  | some l =>
    have hll := runes_len s l hr
    have hml := mapL_length fold l
    have ht := refText_f (mapL fold l) (mapL_ok fold l ((runesL_iff _ _).1 hr).1) (by omega) k hk
    show (if (0 : Int) = 0 then (Fn.rollbookref13_Text.f k ((mapL fold l).map Int.ofNat)).bind _ else _) = _
    rw [if_pos rfl, ht]
    rfl
/-! ### Ready, Phone -/
theorem refReady_l0 (l : List Nat) (hok : ∀ v ∈ l, okR v) (hl : l.length ≤ 100000) : ∀ (d i k : Nat) (acc : List Nat), l.length - i ≤ d → d + 100030 ≤ k → (∀ v ∈ acc, okR v) → acc.length ≤ i → i ≤ l.length →
    Fn.rollbookref13_Ready.l0 k (l.map Int.ofNat) (acc.map Int.ofNat) (i : Int) = some (⟨(textL (acc ++ refR 32 (l.drop i) (decide (acc ≠ [])))).toArray⟩, 0) := by
  intro d
  induction d with
  | zero =>
    intro i k acc h1 h2 hacc h3 h4
    obtain ⟨k, rfl⟩ : ∃ q, k = q + 1 := ⟨k - 1, by omega⟩
    have q : ¬ (i : Int) < ((l.map Int.ofNat).length : Int) := by rw [List.length_map]; omega
    rw [Fn.rollbookref13_Ready.l0, if_neg q, refText_f acc hacc (by omega) k (by omega), Option.bind_some, List.drop_eq_nil_of_le (by omega)]
    show _ = some ((⟨(textL (acc ++ [])).toArray⟩ : ByteArray), (0 : Int))
    rw [List.append_nil]
  | succ d ih =>
    intro i k acc h1 h2 hacc h3 h4
    obtain ⟨k, rfl⟩ : ∃ q, k = q + 1 := ⟨k - 1, by omega⟩
    by_cases hi : i < l.length
    · obtain ⟨r, hr⟩ : ∃ r, l[i]? = some r := ⟨l[i], List.getElem?_eq_getElem hi⟩
      have hrk := hok r (List.mem_of_getElem? hr)
      have q : (i : Int) < ((l.map Int.ofNat).length : Int) := by rw [List.length_map]; omega
      have q0 : (0 : Int) ≤ (i : Int) := by omega
      have e1 := w64i i (by omega)
      have q2 : (acc.map Int.ofNat).length < 35184372088832 := by rw [List.length_map]; omega
      have hdr : l.drop i = r :: l.drop (i + 1) := by
        rw [List.drop_eq_getElem_cons hi]
        congr 1
        rw [List.getElem?_eq_getElem hi] at hr
        exact Option.some.inj hr
      have ih0 := ih (i + 1) k acc (by omega) (by omega) hacc (by omega) (by omega)
      have ihx := ih (i + 1) k (acc ++ [r]) (by omega) (by omega) (fun v hv => by
        rcases List.mem_append.1 hv with h | h
        · exact hacc v h
        · rw [List.mem_singleton.1 h]; exact hrk) (by rw [List.length_append, List.length_singleton]; omega) (by omega)
      have ex : acc.map Int.ofNat ++ [(r : Int)] = (acc ++ [r]).map Int.ofNat := by rw [List.map_append]; rfl
      have hne : decide (acc ++ [r] ≠ []) = true := by simp
      rw [hne] at ihx
      rw [Fn.rollbookref13_Ready.l0, if_pos q, if_pos q0, rd_map l i r hr, e1, hdr, refR]
      by_cases c1 : r = 32
      · have g1 : (r : Int) = 32 := by omega
        rw [if_pos g1]
        by_cases c2 : acc = []
        · have g2 : ¬ (((acc.map Int.ofNat).length : Int) > 0) := by rw [c2]; simp
          rw [if_neg g2, ih0, if_neg (by simp [c1, c2])]
        · have g2 : (((acc.map Int.ofNat).length : Int) > 0) := by
            rw [List.length_map]
            cases acc with
            | nil => exact absurd rfl c2
            | cons _ _ => simp
          rw [if_pos g2]
          by_cases c3 : i + 1 < l.length
          · have g3 : ((i + 1 : Nat) : Int) < ((l.map Int.ofNat).length : Int) := by rw [List.length_map]; omega
            have g4 : (0 : Int) ≤ ((i + 1 : Nat) : Int) := by omega
            obtain ⟨t, ht⟩ : ∃ t, l[i + 1]? = some t := ⟨l[i + 1], List.getElem?_eq_getElem c3⟩
            have hdr2 : l.drop (i + 1) = t :: l.drop (i + 2) := by
              rw [List.drop_eq_getElem_cons c3]
              congr 1
              rw [List.getElem?_eq_getElem c3] at ht
              exact Option.some.inj ht
            have hhd : headNe 32 (l.drop (i + 1)) = decide (t ≠ 32) := by rw [hdr2]; rfl
            rw [if_pos g3, if_pos g4, rd_map l (i + 1) t ht, hhd]
            by_cases c4 : t = 32
            · have g5 : (t : Int) = 32 := by omega
              rw [if_pos g5, ih0, if_neg (by simp [c1, c4])]
            · have g5 : ¬ (t : Int) = 32 := by omega
              rw [if_neg g5, if_pos q2, ex, ihx, if_pos (by simp [c2, c4]), List.append_assoc]
              rfl
          · have g3 : ¬ ((i + 1 : Nat) : Int) < ((l.map Int.ofNat).length : Int) := by rw [List.length_map]; omega
            have hhd : headNe 32 (l.drop (i + 1)) = false := by rw [List.drop_eq_nil_of_le (by omega)]; rfl
            rw [if_neg g3, ih0, hhd, if_neg (by simp [c1])]
      · have g1 : ¬ (r : Int) = 32 := by omega
        rw [if_neg g1, if_pos q2, ex, ihx, if_pos (Or.inl c1), List.append_assoc]
        rfl
    · have q : ¬ (i : Int) < ((l.map Int.ofNat).length : Int) := by rw [List.length_map]; omega
      rw [Fn.rollbookref13_Ready.l0, if_neg q, refText_f acc hacc (by omega) k (by omega), Option.bind_some, List.drop_eq_nil_of_le (by omega)]
      show _ = some ((⟨(textL (acc ++ [])).toArray⟩ : ByteArray), (0 : Int))
      rw [List.append_nil]
theorem refReady_f (s : ByteArray) (fold : Bool) (hs : s.size ≤ 100000) (k : Nat) (hk : 300000 ≤ k) : Fn.rollbookref13_Ready.f k s fold = some (toP (readyT fold s.data.toList)) := by
  unfold Fn.rollbookref13_Ready.f
  rw [refMapped_f s fold hs k (by omega), Option.bind_some]
  unfold readyT
  cases hr : runesL s.data.toList with
  | none => rfl
  | some l =>
    have hll := runes_len s l hr
    have hml := mapL_length fold l
    have h := refReady_l0 (mapL fold l) (mapL_ok fold l ((runesL_iff _ _).1 hr).1) (by omega) (mapL fold l).length 0 k [] (by omega) (by omega) (by simp) (by simp) (by omega)
    rw [List.drop_zero, List.nil_append, show decide (([] : List Nat) ≠ []) = false from rfl, refR_is] at h
    show (if (0 : Int) = 0 then Fn.rollbookref13_Ready.l0 k ((mapL fold l).map Int.ofNat) [] 0 else _) = _
    rw [if_pos rfl]
    exact h
theorem refPhone_l0 (l : List Nat) (hok : ∀ v ∈ l, okR v) (hl : l.length ≤ 100000) : ∀ (d i k : Nat) (acc : List Nat), l.length - i ≤ d → d + 100030 ≤ k → (∀ v ∈ acc, okR v) → acc.length ≤ i → i ≤ l.length →
    Fn.rollbookref13_Phone.l0 k (l.map Int.ofNat) (acc.map Int.ofNat) (i : Int) = some (⟨(textL (acc ++ (l.drop i).filter fun x => decide (x ≠ 32 ∧ x ≠ 45))).toArray⟩, 0) := by
  intro d
  induction d with
  | zero =>
    intro i k acc h1 h2 hacc h3 h4
    obtain ⟨k, rfl⟩ : ∃ q, k = q + 1 := ⟨k - 1, by omega⟩
    have q : ¬ (i : Int) < ((l.map Int.ofNat).length : Int) := by rw [List.length_map]; omega
    rw [Fn.rollbookref13_Phone.l0, if_neg q, refText_f acc hacc (by omega) k (by omega), Option.bind_some, List.drop_eq_nil_of_le (by omega)]
    show _ = some ((⟨(textL (acc ++ [])).toArray⟩ : ByteArray), (0 : Int))
    rw [List.append_nil]
  | succ d ih =>
    intro i k acc h1 h2 hacc h3 h4
    obtain ⟨k, rfl⟩ : ∃ q, k = q + 1 := ⟨k - 1, by omega⟩
    by_cases hi : i < l.length
    · obtain ⟨r, hr⟩ : ∃ r, l[i]? = some r := ⟨l[i], List.getElem?_eq_getElem hi⟩
      have hrk := hok r (List.mem_of_getElem? hr)
      have q : (i : Int) < ((l.map Int.ofNat).length : Int) := by rw [List.length_map]; omega
      have q0 : (0 : Int) ≤ (i : Int) := by omega
      have e1 := w64i i (by omega)
      have q2 : (acc.map Int.ofNat).length < 35184372088832 := by rw [List.length_map]; omega
      have hdr : l.drop i = r :: l.drop (i + 1) := by
        rw [List.drop_eq_getElem_cons hi]
        congr 1
        rw [List.getElem?_eq_getElem hi] at hr
        exact Option.some.inj hr
      have ih0 := ih (i + 1) k acc (by omega) (by omega) hacc (by omega) (by omega)
      have ihx := ih (i + 1) k (acc ++ [r]) (by omega) (by omega) (fun v hv => by
        rcases List.mem_append.1 hv with h | h
        · exact hacc v h
        · rw [List.mem_singleton.1 h]; exact hrk) (by rw [List.length_append, List.length_singleton]; omega) (by omega)
      have ex : acc.map Int.ofNat ++ [(r : Int)] = (acc ++ [r]).map Int.ofNat := by rw [List.map_append]; rfl
      rw [Fn.rollbookref13_Phone.l0, if_pos q, if_pos q0, rd_map l i r hr, e1, hdr, List.filter_cons]
      by_cases c1 : r = 32
      · have g1 : (r : Int) = 32 := by omega
        rw [if_pos g1, ih0, if_neg (by simp [c1])]
      · have g1 : ¬ (r : Int) = 32 := by omega
        rw [if_neg g1]
        by_cases c2 : r = 45
        · have g2 : (r : Int) = 45 := by omega
          rw [if_pos g2, ih0, if_neg (by simp [c2])]
        · have g2 : ¬ (r : Int) = 45 := by omega
          rw [if_neg g2, if_pos q2, ex, ihx, if_pos (by simp [c1, c2]), List.append_assoc]
          rfl
    · have q : ¬ (i : Int) < ((l.map Int.ofNat).length : Int) := by rw [List.length_map]; omega
      rw [Fn.rollbookref13_Phone.l0, if_neg q, refText_f acc hacc (by omega) k (by omega), Option.bind_some, List.drop_eq_nil_of_le (by omega)]
      show _ = some ((⟨(textL (acc ++ [])).toArray⟩ : ByteArray), (0 : Int))
      rw [List.append_nil]
theorem refPhone_f (s : ByteArray) (hs : s.size ≤ 100000) (k : Nat) (hk : 300000 ≤ k) : Fn.rollbookref13_Phone.f k s = some (toP (phoneT s.data.toList)) := by
  unfold Fn.rollbookref13_Phone.f
  rw [refMapped_f s true hs k (by omega), Option.bind_some]
  unfold phoneT
  cases hr : runesL s.data.toList with
  | none => rfl
  | some l =>
    have hll := runes_len s l hr
    have hml := mapL_length true l
    have h := refPhone_l0 (mapL true l) (mapL_ok true l ((runesL_iff _ _).1 hr).1) (by omega) (mapL true l).length 0 k [] (by omega) (by omega) (by simp) (by simp) (by omega)
    rw [List.drop_zero, List.nil_append] at h
    show (if (0 : Int) = 0 then Fn.rollbookref13_Phone.l0 k ((mapL true l).map Int.ofNat) [] 0 else _) = _
    rw [if_pos rfl]
    exact h
end Go.Proofs.YtcoddeemfdnjpaaDoor.PrepPlain
