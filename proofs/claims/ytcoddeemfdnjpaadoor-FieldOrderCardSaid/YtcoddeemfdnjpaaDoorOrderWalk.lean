/- The walk of the law on order. -/
import Derived.Test.YtcoddeemfdnjpaaDoorCompareWalk
namespace Go.Proofs.YtcoddeemfdnjpaaDoor
open Go.RowKit TextPlain
open Go.Proofs.YtcoddeemfdnjpaaDoorW.PrintMore
open Go.Proofs.YtcoddeemfdnjpaaDoorW.PrintWords hiding nums nums_length nums_append
open Lib (compareBytes)
attribute [local go_sem] max2_int min2_int max_two min_two
theorem tup_bytes (a : List ByteArray) (s : ByteArray) (h : tupleF a = (s, 0)) : tupL (lists a) = s.data.toList := by
  rw [← toB_lists a] at h
  exact (tupleF_ok _ s h).1
theorem long_any (A : Option Addr) (c : Nat) (l : List ByteArray) (b : Bool) (w : World) (hr : Kd.C Kd.string w A l.length l) (hc : l.length ≤ c) (hb : Fn.rollbooklaw01_long.f 50 l = some b) :
    Calls Tryd.prog 52 #[.slice A l.length c] w fun e w' => e = .returned (.bool b) ∧ Below w.heap.size w w' :=
  Fn.rollbooklaw01_long.calls 50 A c l b w hr hc hb
theorem refCompare_any (A B : Option Addr) (c d : Nat) (l m : List ByteArray) (w : World) (hr : Kd.C Kd.string w A l.length l) (hc : l.length ≤ c) (hr2 : Kd.C Kd.string w B m.length m) (hd : m.length ≤ d) (hl : l.length < 4611686018427387904) (hz : ∀ p ∈ l, p.size < 4611686018427387904) :
    Calls Tryd.prog 54 #[.slice A l.length c, .slice B m.length d] w fun e w' => e = .returned (.int .i64 (cmpP (lists l) (lists m))) ∧ Below w.heap.size w w' := by
  obtain ⟨k, hk⟩ := refCompare_f l m hl hz
  exact (Fn.rollbookref01_Compare.calls k A c l B d m _ w hr hc hr2 hd hk).mono fun _ _ ⟨h, hb⟩ => ⟨h, hb.below⟩
theorem refLess_any (s t : ByteArray) (w : World) (hs : s.size < 4611686018427387904) :
    Calls Tryd.prog 57 #[.string s, .string t] w fun e w' => e = .returned (.int .i64 (compareBytes s.data.toList t.data.toList)) ∧ Below w.heap.size w w' :=
  (Fn.rollbookref01_Less.calls _ s t _ w (refLess_f s t _ hs (Nat.le_refl _))).mono fun _ _ ⟨h, hb⟩ => ⟨h, hb.below⟩
theorem refBegins_any (s t : ByteArray) (w : World) :
    Calls Tryd.prog 58 #[.string s, .string t] w fun e w' => e = .returned (.bool (decide (s.data.toList <+: t.data.toList))) ∧ Below w.heap.size w w' :=
  (Fn.rollbookref01_Begins.calls s t _ w (begins_f s t)).mono fun _ _ ⟨h, hb⟩ => ⟨h, hb.below⟩
theorem same_any (A B : Option Addr) (c d : Nat) (l m : List ByteArray) (w : World) (hr : Kd.C Kd.string w A l.length l) (hc : l.length ≤ c) (hr2 : Kd.C Kd.string w B m.length m) (hd : m.length ≤ d) (hl : l.length < 4611686018427387904) :
    Calls Tryd.prog 56 #[.slice A l.length c, .slice B m.length d] w fun e w' => e = .returned (.bool (decide (l = m))) ∧ Below w.heap.size w w' :=
  (Fn.rollbookref01_Same.calls _ A c l B d m _ w hr hc hr2 hd (same_f l m hl)).mono fun _ _ ⟨h, hb⟩ => ⟨h, hb.below⟩
/-- the facts of the two lists that the walk leans on -/
structure Two (w : World) (A B : Option Addr) (c d : Nat) (a b : List ByteArray) (m : Int) : Prop where
  ra : Kd.C Kd.string w A a.length a
  ca : a.length ≤ c
  rb : Kd.C Kd.string w B b.length b
  cb : b.length ≤ d
  la : a.length < 4611686018427387904
  lb : b.length < 4611686018427387904
  za : ∀ p ∈ a, p.size < 4611686018427387904
  zb : ∀ p ∈ b, p.size < 4611686018427387904
  hm : w.cell? ⟨1, 0, none⟩ = some (.int .i64 m)
theorem Two.keep {w w' : World} {A B : Option Addr} {c d : Nat} {a b : List ByteArray} {m : Int} (h : Two w A B c d a b m) (hb : Below w.heap.size w w') : Two w' A B c d a b m :=
  ⟨Kd.C_below h.ra hb, h.ca, Kd.C_below h.rb hb, h.cb, h.la, h.lb, h.za, h.zb, m_kept h.hm hb⟩
set_option maxHeartbeats 1000000 in
set_option maxRecDepth 100000 in
theorem fieldOrder_walk (A B : Option Addr) (c d : Nat) (a b : List ByteArray) (m : Int) (w : World) (h : Two w A B c d a b m) :
    Calls Tryd.prog 14 #[.slice A a.length c, .slice B b.length d] w fun e w' => e = .returned (.bool true) ∧ Below w.heap.size w w' := by
  have hT := h
  have hT0 := Lib.hid h
  clear h
  obtain ⟨n1, hn1⟩ : ∃ n, a.length = n := ⟨_, rfl⟩
  obtain ⟨n2, hn2⟩ : ∃ n, b.length = n := ⟨_, rfl⟩
  obtain ⟨P, hP⟩ : ∃ P, decide (a <+: b) = P := ⟨_, rfl⟩
  obtain ⟨ba, hba⟩ := long_f a
  obtain ⟨bb, hbb⟩ := long_f b
  obtain ⟨z, hz⟩ : ∃ z, cmpP (lists b) (lists a) = z := ⟨_, rfl⟩
  have hz2 : cmpP (lists a) (lists b) = -z := by rw [← hz]; exact cmp_anti _ _
  have hzr : -1 ≤ z ∧ z ≤ 1 := by have := cmp_range (lists b) (lists a); omega
  have hcab : Hid (∀ v : World, Below w.heap.size w v → Calls Tryd.prog 53 #[.slice A n1 c, .slice B n2 d] v fun e w' => e = .returned (.int .i64 (-z)) ∧ Below v.heap.size v w') := by
    intro v hv
    subst hn1 hn2
    have := hT.keep hv
    rw [← hz2]
    exact compare_any A B c d a b v this.ra this.rb this.la this.lb
  have hcba : Hid (∀ v : World, Below w.heap.size w v → Calls Tryd.prog 53 #[.slice B n2 d, .slice A n1 c] v fun e w' => e = .returned (.int .i64 z) ∧ Below v.heap.size v w') := by
    intro v hv
    subst hn1 hn2
    have := hT.keep hv
    rw [← hz]
    exact compare_any B A d c b a v this.rb this.ra this.lb this.la
  have hrab : Hid (∀ v : World, Below w.heap.size w v → Calls Tryd.prog 54 #[.slice A n1 c, .slice B n2 d] v fun e w' => e = .returned (.int .i64 (-z)) ∧ Below v.heap.size v w') := by
    intro v hv
    subst hn1 hn2
    have := hT.keep hv
    rw [← hz2]
    exact refCompare_any A B c d a b v this.ra this.ca this.rb this.cb this.la this.za
  have hlga : Hid (∀ v : World, Below w.heap.size w v → Calls Tryd.prog 52 #[.slice A n1 c] v fun e w' => e = .returned (.bool ba) ∧ Below v.heap.size v w') := by
    intro v hv
    subst hn1 hn2
    have := hT.keep hv
    exact long_any A c a ba v this.ra this.ca hba
  have hlgb : Hid (∀ v : World, Below w.heap.size w v → Calls Tryd.prog 52 #[.slice B n2 d] v fun e w' => e = .returned (.bool bb) ∧ Below v.heap.size v w') := by
    intro v hv
    subst hn1 hn2
    have := hT.keep hv
    exact long_any B d b bb v this.rb this.cb hbb
  have hta : Hid (∀ v : World, Below w.heap.size w v → Calls Tryd.prog 55 #[.slice A n1 c] v fun e w' => e = .returned (.tuple #[.string (tupleF a).1, .int .i64 (tupleF a).2]) ∧ Below v.heap.size v w') := by
    intro v hv
    subst hn1 hn2
    have := hT.keep hv
    exact tuple_any A c a m v this.ra this.ca this.hm
  have htb : Hid (∀ v : World, Below w.heap.size w v → Calls Tryd.prog 55 #[.slice B n2 d] v fun e w' => e = .returned (.tuple #[.string (tupleF b).1, .int .i64 (tupleF b).2]) ∧ Below v.heap.size v w') := by
    intro v hv
    subst hn1 hn2
    have := hT.keep hv
    exact tuple_any B d b m v this.rb this.cb this.hm
  have haw : Hid (∀ v : World, Below w.heap.size w v → Calls Tryd.prog 47 #[] v fun e w' => e = .returned (.bool true) ∧ Below v.heap.size v w') := by
    intro v hv
    subst hn1 hn2
    exact awake01 m v (hT.keep hv).hm
  have hsm : Hid (n1 ≤ n2 → ∀ v : World, Below w.heap.size w v → Calls Tryd.prog 56 #[.slice A n1 c, .slice B n1 d] v fun e w' => e = .returned (.bool (P)) ∧ Below v.heap.size v w') := by
    intro hle v hv
    subst hn1 hn2 hP
    have := hT.keep hv
    have htk := Kd.C_take this.rb hle
    have hlen : (b.take a.length).length = a.length := by simp; omega
    have h1 := same_any A B c d a (b.take a.length) v this.ra this.ca htk (by rw [hlen]; have := this.cb; omega) this.la
    rw [hlen] at h1
    have e : decide (a = b.take a.length) = decide (a <+: b) := by
      rw [decide_eq_decide]
      exact List.prefix_iff_eq_take.symm
    rwa [e] at h1
  have hpre : Hid (¬ n1 ≤ n2 → P = false) := by
    intro hle
    subst hn1 hn2 hP
    exact decide_eq_false fun hp => hle hp.length_le
  have hcaps : n1 ≤ c ∧ n2 ≤ d := by subst hn1 hn2; exact ⟨hT.ca, hT.cb⟩
  have hlens : n1 < 4611686018427387904 ∧ n2 < 4611686018427387904 := by subst hn1 hn2; exact ⟨hT.la, hT.lb⟩
  have htail : Hid (∀ s t, tupleF a = (s, 0) → tupleF b = (t, 0) → compareBytes s.data.toList t.data.toList = -z ∧ decide (s.data.toList <+: t.data.toList) = P) := by
    intro s t hs ht
    subst hn1 hn2 hP
    rw [← tup_bytes a s hs, ← tup_bytes b t ht, cb_tup, hz2]
    refine ⟨rfl, ?_⟩
    rw [decide_eq_decide, pre_tup]
    exact lists_prefix a b
  rw [hn1, hn2]
  clear hT hz hz2 hba hbb hn1 hn2 hP hT0
  go_enter Tryd.func14, Tryd.ntmps14
  go_wp2_with fail
  refine (haw.out _ (Below.refl _ _)).mono ?_
  rintro e w2 ⟨rfl, hb2⟩
  have hb2' := Lib.hid hb2
  clear hb2
  go_wp2_with fail
  refine (hlga.out _ hb2'.out).mono ?_
  rintro e w3 ⟨rfl, hb3⟩
  have hb3' := Lib.hid (hb2'.out.trans (hb3.mono hb2'.out.size))
  clear hb3 hb2'
  cases ba
  case true =>
    go_wp2
    go_ret
    exact ⟨rfl, hb3'.out⟩
  go_wp2_with fail
  refine (hlgb.out _ hb3'.out).mono ?_
  rintro e w4 ⟨rfl, hb4⟩
  have hb4' := Lib.hid (hb3'.out.trans (hb4.mono hb3'.out.size))
  clear hb4 hb3'
  cases bb
  case true =>
    go_wp2
    go_ret
    exact ⟨rfl, hb4'.out⟩
  go_wp2_with fail
  refine (hcab.out _ hb4'.out).mono ?_
  rintro e w5 ⟨rfl, hb5⟩
  have hb5' := Lib.hid (hb4'.out.trans (hb5.mono hb4'.out.size))
  clear hb5 hb4'
  go_wp2_with fail
  refine (hrab.out _ hb5'.out).mono ?_
  rintro e w6 ⟨rfl, hb6⟩
  have hb6' := Lib.hid (hb5'.out.trans (hb6.mono hb5'.out.size))
  clear hb6 hb5'
  go_wp2_with fail
  refine (hcba.out _ hb6'.out).mono ?_
  rintro e w7 ⟨rfl, hb7⟩
  have hb7' := Lib.hid (hb6'.out.trans (hb7.mono hb6'.out.size))
  clear hb7 hb6'
  go_wp2_with fail
  refine (hta.out _ hb7'.out).mono ?_
  rintro e w8 ⟨rfl, hb8⟩
  have hb8' := Lib.hid (hb7'.out.trans (hb8.mono hb7'.out.size))
  clear hb8 hb7'
  go_wp2_with fail
  refine (htb.out _ hb8'.out).mono ?_
  rintro e w9 ⟨rfl, hb9⟩
  have hb9' := Lib.hid (hb8'.out.trans (hb9.mono hb8'.out.size))
  clear hb9 hb8'
  rcases tupleF_cases a with ⟨s, hs, hs16, hsz⟩ | hs | hs
  · rw [hs]
    rcases tupleF_cases b with ⟨t, ht, ht16, htz⟩ | ht | ht
    · rw [ht]
      obtain ⟨hless, hbeg⟩ := htail.out s t hs ht
      have hls : Hid (∀ v : World, Calls Tryd.prog 57 #[.string s, .string t] v fun e w' => e = .returned (.int .i64 (-z)) ∧ Below v.heap.size v w') := by
        intro v
        rw [← hless]
        exact refLess_any s t v (by omega)
      have hbs : Hid (∀ v : World, Calls Tryd.prog 58 #[.string s, .string t] v fun e w' => e = .returned (.bool P) ∧ Below v.heap.size v w') := by
        intro v
        rw [← hbeg]
        exact refBegins_any s t v
      clear hs ht hs16 ht16 hless hbeg
      by_cases hle : n1 ≤ n2
      · have hle1 : ¬ ((n2 : Int) < (n1 : Int)) := by omega
        go_wp2_with fail
        refine (hsm.out hle _ hb9'.out).mono ?_
        rintro e w10 ⟨rfl, hb10⟩
        have hb10' := Lib.hid (hb9'.out.trans (hb10.mono hb9'.out.size))
        clear hb10
        go_wp2_with fail
        refine (hls.out _).mono ?_
        rintro e w11 ⟨rfl, hb11⟩
        have hb11' := Lib.hid (hb10'.out.trans (hb11.mono hb10'.out.size))
        clear hb11
        go_wp2_with fail
        refine (hbs.out _).mono ?_
        rintro e w12 ⟨rfl, hb12⟩
        have hb12' := Lib.hid (hb11'.out.trans (hb12.mono hb11'.out.size))
        clear hb12
        go_wp2
        go_ret
        exact ⟨by simp, hb12'.out⟩
      · have hPf : P = false := hpre.out hle
        subst hPf
        go_wp2_with fail
        refine (hls.out _).mono ?_
        rintro e w11 ⟨rfl, hb11⟩
        have hb11' := Lib.hid (hb9'.out.trans (hb11.mono hb9'.out.size))
        clear hb11
        go_wp2_with fail
        refine (hbs.out _).mono ?_
        rintro e w12 ⟨rfl, hb12⟩
        have hb12' := Lib.hid (hb11'.out.trans (hb12.mono hb11'.out.size))
        clear hb12
        go_wp2
        go_ret
        exact ⟨by simp, hb12'.out⟩
    · rw [ht]
      go_wp2
      go_ret
      exact ⟨rfl, hb9'.out⟩
    · rw [ht]
      go_wp2
      go_ret
      exact ⟨rfl, hb9'.out⟩
  · rw [hs]
    go_wp2
    go_ret
    exact ⟨rfl, hb9'.out⟩
  · rw [hs]
    go_wp2
    go_ret
    exact ⟨rfl, hb9'.out⟩
end Go.Proofs.YtcoddeemfdnjpaaDoor
