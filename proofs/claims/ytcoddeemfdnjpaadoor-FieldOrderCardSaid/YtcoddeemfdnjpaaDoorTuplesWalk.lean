/- The walks of the laws on tuples and on parts. -/
import Derived.Test.YtcoddeemfdnjpaaDoorRefParts
namespace Go.Proofs.YtcoddeemfdnjpaaDoor
open Go.RowKit TextPlain
open Go.Proofs.YtcoddeemfdnjpaaDoorW.PrintMore
open Go.Proofs.YtcoddeemfdnjpaaDoorW.PrintWords hiding nums nums_length nums_append
theorem m_kept {w w' : World} {v : Value} (hm : w.cell? ⟨1, 0, none⟩ = some v) (hb : Below w.heap.size w w') : w'.cell? ⟨1, 0, none⟩ = some v := by
  have hpos : 1 < w.heap.size := by
    rcases Nat.lt_or_ge 1 w.heap.size with hz | hz
    · exact hz
    · simp [World.cell?, Array.getElem?_eq_none hz] at hm
  rw [hb.cell (p := ⟨1, 0, none⟩) hpos]; exact hm
theorem refTuple_any (A : Option Addr) (c : Nat) (l : List ByteArray) (w : World) (hr : Kd.C Kd.string w A l.length l) (hc : l.length ≤ c) :
    Calls Tryd.prog 59 #[.slice A l.length c] w fun e w' => e = .returned (.tuple #[.string (tupleF l).1, .int .i64 (tupleF l).2]) ∧ Below w.heap.size w w' :=
  Fn.rollbookref01_Tuple.calls 140000 A c l _ _ w hr hc (refTuple_f l)
theorem refParts_any (s : ByteArray) (w : World) :
    Calls Tryd.prog 61 #[.string s] w fun e w' => ∃ v, e = .returned (.tuple #[v, .int .i64 (partsF s).2]) ∧ Kd.R Kd.string 9 w' w.heap.size (fun _ => True) v (partsF s).1 ∧ Below w.heap.size w w' :=
  Fn.rollbookref01_Parts.calls 9000 s _ _ w (refParts_f s)
theorem refSame_any (A B : Option Addr) (c d : Nat) (l : List ByteArray) (w : World) (hr : Kd.C Kd.string w A l.length l) (hc : l.length ≤ c) (hr2 : Kd.C Kd.string w B l.length l) (hd : l.length ≤ d) (hl : l.length < 4294967296) :
    Calls Tryd.prog 56 #[.slice A l.length c, .slice B l.length d] w fun e w' => e = .returned (.bool true) ∧ Below w.heap.size w w' :=
  (Fn.rollbookref01_Same.calls _ A c l B d l true w hr hc hr2 hd (refSame_f l hl)).mono fun _ _ ⟨h, hb⟩ => ⟨h, hb.below⟩
theorem tupleF_cases (l : List ByteArray) : (∃ s, tupleF l = (s, 0) ∧ l.length ≤ 16 ∧ s.size ≤ 4096) ∨ tupleF l = (⟨#[]⟩, 1) ∨ tupleF l = (⟨#[]⟩, 5) := by
  unfold tupleF
  by_cases c : 16 < l.length
  · rw [if_pos c]; exact .inr (.inl rfl)
  · rw [if_neg c]
    by_cases c2 : 4096 < (tupL (lists l)).length
    · rw [if_pos c2]; exact .inr (.inr rfl)
    · rw [if_neg c2]
      exact .inl ⟨_, rfl, by omega, by show (tupL (lists l)).toArray.size ≤ _; simp; omega⟩
theorem parts_small (s : ByteArray) : (partsF s).1.length ≤ 16 := by
  unfold partsF
  cases hc : cuts s.data.toList with
  | none => simp
  | some l =>
    simp only
    by_cases h : tupleF (l.map toB) = (s, 0)
    · rw [if_pos h]
      have := (tupleF_ok l s h).2.1
      simpa using this
    · rw [if_neg h]; simp
set_option maxHeartbeats 800000 in
set_option maxRecDepth 100000 in
theorem fieldTuples_walk (A : Option Addr) (c : Nat) (l : List ByteArray) (m : Int) (w : World) (hr : Kd.C Kd.string w A l.length l) (hc : l.length ≤ c) (hm : w.cell? ⟨1, 0, none⟩ = some (.int .i64 m)) :
    Calls Tryd.prog 15 #[.slice A l.length c] w fun e w' => e = .returned (.bool true) ∧ Below w.heap.size w w' := by
  have hm' := Lib.hid hm
  have hr' := Lib.hid hr
  have hc' := Lib.hid hc
  clear hm hr hc
  obtain ⟨b, hb⟩ := long_f l
  have hb' := Lib.hid hb
  clear hb
  obtain ⟨n, hn⟩ : ∃ n, l.length = n := ⟨_, rfl⟩
  have hn' := Lib.hid hn
  rw [hn]
  clear hn
  go_enter Tryd.func15, Tryd.ntmps15
  go_wp2_with fail
  refine (awake01 m _ hm'.out).mono ?_
  rintro e w2 ⟨rfl, hb2⟩
  have hb2' := Lib.hid hb2
  clear hb2
  go_wp2_with fail
  have h1 := Fn.rollbooklaw01_long.calls 50 A c l b w2 (Kd.C_below hr'.out hb2'.out) hc'.out hb'.out
  rw [hn'.out] at h1
  refine h1.mono ?_
  clear h1
  rintro e w3 ⟨rfl, hb3⟩
  have hb3' := Lib.hid (hb2'.out.trans (hb3.mono hb2'.out.size))
  clear hb3 hb2'
  cases b
  · go_wp2_with fail
    have h1 := tuple_any A c l m w3 (Kd.C_below hr'.out hb3'.out) hc'.out (m_kept hm'.out hb3'.out)
    rw [hn'.out] at h1
    refine h1.mono ?_
    clear h1
    rintro e w4 ⟨rfl, hb4⟩
    have hb4' := Lib.hid (hb3'.out.trans (hb4.mono hb3'.out.size))
    clear hb4 hb3'
    go_wp2_with fail
    have h1 := refTuple_any A c l w4 (Kd.C_below hr'.out hb4'.out) hc'.out
    rw [hn'.out] at h1
    refine h1.mono ?_
    clear h1
    rintro e w5 ⟨rfl, hb5⟩
    have hb5' := Lib.hid (hb4'.out.trans (hb5.mono hb4'.out.size))
    clear hb5 hb4'
    rcases tupleF_cases l with ⟨s, hs, h16, hsz⟩ | hs | hs
    · have hp : Hid (partsF s = (l, 0)) := parts_of_tuple l s hs
      rw [hs]
      clear hs
      go_wp2_with fail
      refine (parts_any s m _ (by omega) (m_kept hm'.out hb5'.out)).mono ?_
      rw [hp.out]
      rintro e w6 ⟨v, rfl, hR, hb6⟩
      obtain ⟨B, d, rfl, hd, hC⟩ := Kd.R_reads hR
      have hd' := Lib.hid hd
      have hC' := Lib.hid hC
      have hb6' := Lib.hid (hb5'.out.trans (hb6.mono hb5'.out.size))
      rw [hn'.out]
      clear hb6 hb5' hd hC hR
      go_wp2_with fail
      have h1 := refSame_any A B c d l w6 (Kd.C_below hr'.out hb6'.out) hc'.out hC'.out hd'.out (by omega)
      rw [hn'.out] at h1
      refine h1.mono ?_
      clear h1
      rintro e w7 ⟨rfl, hb7⟩
      have hb7' := Lib.hid (hb6'.out.trans (hb7.mono hb6'.out.size))
      clear hb7
      go_wp2
      go_ret
      exact ⟨rfl, hb7'.out⟩
    · rw [hs]
      clear hs
      go_wp2
      go_ret
      exact ⟨rfl, hb5'.out⟩
    · rw [hs]
      clear hs
      go_wp2
      go_ret
      exact ⟨rfl, hb5'.out⟩
  · go_wp2
    go_ret
    exact ⟨rfl, hb3'.out⟩
set_option maxHeartbeats 800000 in
set_option maxRecDepth 100000 in
theorem fieldParts_walk (s : ByteArray) (m : Int) (w : World) (hm : w.cell? ⟨1, 0, none⟩ = some (.int .i64 m)) :
    Calls Tryd.prog 16 #[.string s] w fun e w' => e = .returned (.bool true) ∧ Below w.heap.size w w' := by
  have hm' := Lib.hid hm
  clear hm
  by_cases hs : s.size ≤ 9000
  · go_enter Tryd.func16, Tryd.ntmps16
    go_wp2_with fail
    refine (awake01 m _ hm'.out).mono ?_
    rintro e w2 ⟨rfl, hb2⟩
    have hb2' := Lib.hid hb2
    clear hb2
    go_wp2_with fail
    refine (parts_any s m _ hs (m_kept hm'.out hb2'.out)).mono ?_
    rintro e w3 ⟨v, rfl, hR, hb3⟩
    have hR' := Lib.hid hR
    have hb3' := Lib.hid (hb2'.out.trans (hb3.mono hb2'.out.size))
    clear hb3 hb2' hR
    obtain ⟨A, c, rfl, hc, hC⟩ := Kd.R_reads hR'.out
    have hc' := Lib.hid hc
    have hC' := Lib.hid hC
    clear hc hC hR'
    obtain ⟨n, hn⟩ : ∃ n, (partsF s).1.length = n := ⟨_, rfl⟩
    have hn' := Lib.hid hn
    rw [hn]
    go_wp2_with fail
    refine (refParts_any s _).mono ?_
    rintro e w4 ⟨v, rfl, hR, hb4⟩
    obtain ⟨B, d, rfl, hd, hD⟩ := Kd.R_reads hR
    have hd' := Lib.hid hd
    have hD' := Lib.hid hD
    have hC2 := Lib.hid (Kd.C_below hC'.out hb4)
    have hb4' := Lib.hid (hb3'.out.trans (hb4.mono hb3'.out.size))
    clear hb4 hb3' hR hd hD hC'
    rw [hn]
    clear hn
    go_wp2_with fail
    have h1 := refSame_any A B c d (partsF s).1 w4 hC2.out hc'.out hD'.out hd'.out (by have := parts_small s; omega)
    rw [hn'.out] at h1
    refine h1.mono ?_
    clear h1
    rintro e w5 ⟨rfl, hb5⟩
    have hb5' := Lib.hid (hb4'.out.trans (hb5.mono hb4'.out.size))
    clear hb5
    go_wp2
    go_ret
    exact ⟨rfl, hb5'.out⟩
  · go_enter Tryd.func16, Tryd.ntmps16
    go_wp2_with fail
    refine (awake01 m _ hm'.out).mono ?_
    rintro e w2 ⟨rfl, hb2⟩
    have hb2' := Lib.hid hb2
    clear hb2
    go_wp2
    go_ret
    exact ⟨rfl, hb2'.out⟩
end Go.Proofs.YtcoddeemfdnjpaaDoor
