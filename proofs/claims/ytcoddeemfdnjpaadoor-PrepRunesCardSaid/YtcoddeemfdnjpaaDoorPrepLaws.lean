/- The walks of the laws PrepReady, PrepOnce, PrepSame. -/
import Derived.Test.YtcoddeemfdnjpaaDoorPrepWalks
namespace Go.Proofs.YtcoddeemfdnjpaaDoor.PrepPlain
open Go.RowKit
open Go.Proofs.YtcoddeemfdnjpaaDoorW.PrintMore
open Go.Proofs.YtcoddeemfdnjpaaDoorW.PrintWords hiding nums nums_length nums_append
theorem st_awake (w : World) (m : Int) (v : World) (hv : St w m v) : Calls Tryd.prog 32 #[] v fun e w' => e = .returned (.bool true) ∧ St w m w' :=
  (awake13 m v hv.2).mono fun _ _ ⟨h1, h2⟩ => ⟨h1, hv.next h2⟩
theorem st_ready (w : World) (m : Int) (s : ByteArray) (fold : Bool) (hs : s.size ≤ 100000) (v : World) (hv : St w m v) :
    Calls Tryd.prog 70 #[.string s, .bool fold] v fun e w' => e = .returned (.tuple #[.string (toP (readyT fold s.data.toList)).1, .int .i64 (toP (readyT fold s.data.toList)).2]) ∧ St w m w' :=
  (ready_any s fold m v hs hv.2).mono fun _ _ ⟨h1, h2⟩ => ⟨h1, hv.next h2⟩
theorem st_map (w : World) (m : Int) (s : ByteArray) (fold : Bool) (hs : s.size ≤ 100000) (v : World) (hv : St w m v) :
    Calls Tryd.prog 68 #[.string s, .bool fold] v fun e w' => e = .returned (.tuple #[.string (toP (mapT fold s.data.toList)).1, .int .i64 (toP (mapT fold s.data.toList)).2]) ∧ St w m w' := by
  have h := map_any s fold v hs
  rw [mapP_toP] at h
  exact h.mono fun _ _ ⟨h1, h2⟩ => ⟨h1, hv.next h2⟩
theorem st_phone (w : World) (m : Int) (s : ByteArray) (hs : s.size ≤ 100000) (v : World) (hv : St w m v) :
    Calls Tryd.prog 71 #[.string s] v fun e w' => e = .returned (.tuple #[.string (toP (phoneT s.data.toList)).1, .int .i64 (toP (phoneT s.data.toList)).2]) ∧ St w m w' :=
  (phone_any s m v hs hv.2).mono fun _ _ ⟨h1, h2⟩ => ⟨h1, hv.next h2⟩
theorem st_same (w : World) (m : Int) (a b : ByteArray) (ha : a.size ≤ 100000) (hb : b.size ≤ 100000) (v : World) (hv : St w m v) :
    Calls Tryd.prog 34 #[.string a, .string b] v fun e w' => e = .returned (.bool (sameT a.data.toList b.data.toList)) ∧ St w m w' :=
  (same_any a b m v ha hb hv.2).mono fun _ _ ⟨h1, h2⟩ => ⟨h1, hv.next h2⟩
theorem st_refReady (w : World) (m : Int) (s : ByteArray) (fold : Bool) (hs : s.size ≤ 100000) (v : World) (hv : St w m v) :
    Calls Tryd.prog 33 #[.string s, .bool fold] v fun e w' => e = .returned (.tuple #[.string (toP (readyT fold s.data.toList)).1, .int .i64 (toP (readyT fold s.data.toList)).2]) ∧ St w m w' :=
  (Fn.rollbookref13_Ready.calls 300000 s fold _ _ v (refReady_f s fold hs 300000 (Nat.le_refl _))).mono fun _ _ ⟨h1, h2⟩ => ⟨h1, hv.next h2⟩
theorem st_refMap (w : World) (m : Int) (s : ByteArray) (fold : Bool) (hs : s.size ≤ 100000) (v : World) (hv : St w m v) :
    Calls Tryd.prog 69 #[.string s, .bool fold] v fun e w' => e = .returned (.tuple #[.string (toP (mapT fold s.data.toList)).1, .int .i64 (toP (mapT fold s.data.toList)).2]) ∧ St w m w' :=
  (Fn.rollbookref13_Map.calls 300000 s fold _ _ v (refMap_f s fold hs 300000 (by omega))).mono fun _ _ ⟨h1, h2⟩ => ⟨h1, hv.next h2⟩
theorem st_refPhone (w : World) (m : Int) (s : ByteArray) (hs : s.size ≤ 100000) (v : World) (hv : St w m v) :
    Calls Tryd.prog 72 #[.string s] v fun e w' => e = .returned (.tuple #[.string (toP (phoneT s.data.toList)).1, .int .i64 (toP (phoneT s.data.toList)).2]) ∧ St w m w' :=
  (Fn.rollbookref13_Phone.calls 300000 s _ _ v (refPhone_f s hs 300000 (Nat.le_refl _))).mono fun _ _ ⟨h1, h2⟩ => ⟨h1, hv.next h2⟩
set_option maxHeartbeats 2000000 in
set_option maxRecDepth 100000 in
theorem prepReady_walk (s : ByteArray) (fold : Bool) (m : Int) (w : World) (hm : w.cell? ⟨1, 0, none⟩ = some (.int .i64 m)) : Calls Tryd.prog 19 #[.string s, .bool fold] w fun e w' => e = .returned (.bool true) ∧ Below w.heap.size w w' := by
  have hS0 := Lib.hid (St.start hm)
  have haw := Lib.hid (st_awake w m)
  clear hm
  by_cases hs : s.size ≤ 3000
  · have c1 := Lib.hid (st_map w m s fold (by omega))
    have c2 := Lib.hid (st_refMap w m s fold (by omega))
    have c3 := Lib.hid (st_ready w m s fold (by omega))
    have c4 := Lib.hid (st_refReady w m s fold (by omega))
    have c5 := Lib.hid (st_phone w m s (by omega))
    have c6 := Lib.hid (st_refPhone w m s (by omega))
    obtain ⟨⟨x1, e1⟩, h1⟩ : ∃ p, toP (mapT fold s.data.toList) = p := ⟨_, rfl⟩
    obtain ⟨⟨x2, e2⟩, h2⟩ : ∃ p, toP (readyT fold s.data.toList) = p := ⟨_, rfl⟩
    obtain ⟨⟨x3, e3⟩, h3⟩ : ∃ p, toP (phoneT s.data.toList) = p := ⟨_, rfl⟩
    rw [h1] at c1 c2
    rw [h2] at c3 c4
    rw [h3] at c5 c6
    clear h1 h2 h3
    go_enter Tryd.func19, Tryd.ntmps19
    go_wp2_with fail
    refine (haw.out _ hS0.out).mono ?_
    rintro e w2 ⟨rfl, hS2⟩
    have hS2' := Lib.hid hS2
    clear hS2
    go_wp2_with fail
    refine (c1.out _ hS2'.out).mono ?_
    rintro e w3 ⟨rfl, hS3⟩
    have hS3' := Lib.hid hS3
    clear hS3
    go_wp2_with fail
    refine (c2.out _ hS3'.out).mono ?_
    rintro e w4 ⟨rfl, hS4⟩
    have hS4' := Lib.hid hS4
    clear hS4
    go_wp2_with fail
    refine (c3.out _ hS4'.out).mono ?_
    rintro e w5 ⟨rfl, hS5⟩
    have hS5' := Lib.hid hS5
    clear hS5
    go_wp2_with fail
    refine (c4.out _ hS5'.out).mono ?_
    rintro e w6 ⟨rfl, hS6⟩
    have hS6' := Lib.hid hS6
    clear hS6
    go_wp2_with fail
    refine (c5.out _ hS6'.out).mono ?_
    rintro e w7 ⟨rfl, hS7⟩
    have hS7' := Lib.hid hS7
    clear hS7
    go_wp2_with fail
    refine (c6.out _ hS7'.out).mono ?_
    rintro e w8 ⟨rfl, hS8⟩
    have hS8' := Lib.hid hS8
    clear hS8
    go_wp2
    go_ret
    exact ⟨by simp, hS8'.out.1⟩
  · have hs2 : (3000 : Int) < (s.size : Int) := by omega
    go_enter Tryd.func19, Tryd.ntmps19
    go_wp2_with fail
    refine (haw.out _ hS0.out).mono ?_
    rintro e w2 ⟨rfl, hS2⟩
    go_wp2
    go_ret
    exact ⟨rfl, hS2.1⟩
set_option maxHeartbeats 2000000 in
set_option maxRecDepth 100000 in
theorem prepOnce_walk (s : ByteArray) (fold : Bool) (m : Int) (w : World) (hm : w.cell? ⟨1, 0, none⟩ = some (.int .i64 m)) : Calls Tryd.prog 20 #[.string s, .bool fold] w fun e w' => e = .returned (.bool true) ∧ Below w.heap.size w w' := by
  have hS0 := Lib.hid (St.start hm)
  have haw := Lib.hid (st_awake w m)
  clear hm
  by_cases hs : s.size ≤ 3000
  · have c1 := Lib.hid (st_ready w m s fold (by omega))
    cases hr : readyT fold s.data.toList with
    | none =>
      rw [hr] at c1
      clear hr
      have e1 : toP none = ((⟨#[]⟩ : ByteArray), 19) := rfl
      rw [e1] at c1
      clear e1
      go_enter Tryd.func20, Tryd.ntmps20
      go_wp2_with fail
      refine (haw.out _ hS0.out).mono ?_
      rintro e w2 ⟨rfl, hS2⟩
      have hS2' := Lib.hid hS2
      clear hS2
      go_wp2_with fail
      refine (c1.out _ hS2'.out).mono ?_
      rintro e w3 ⟨rfl, hS3⟩
      have hS3' := Lib.hid hS3
      clear hS3
      go_wp2
      go_ret
      exact ⟨rfl, hS3'.out.1⟩
    | some t =>
      obtain ⟨o1, o2, -⟩ := once fold _ _ hr
      have osm := same_once fold _ _ hr
      obtain ⟨T, hT⟩ : ∃ T : ByteArray, T = ⟨t.toArray⟩ := ⟨_, rfl⟩
      have hTt : T.data.toList = t := by rw [hT]
      have e1 : toP (some t) = (T, 0) := by rw [hT]; rfl
      have hTs : T.size ≤ s.size := by
        have h3 : T.data.toList.length = T.size := rfl
        have h4 : s.data.toList.length = s.size := rfl
        rw [hTt] at h3
        omega
      have c2 := Lib.hid (st_ready w m T fold (by omega))
      have c3 := Lib.hid (st_same w m s T (by omega) (by omega))
      rw [hTt] at c2 c3
      rw [hr, e1] at c1
      rw [o1, e1] at c2
      rw [osm] at c3
      have hTi : (T.size : Int) ≤ (s.size : Int) := by omega
      clear hr o1 o2 osm hT hTt e1 hTs
      go_enter Tryd.func20, Tryd.ntmps20
      go_wp2_with fail
      refine (haw.out _ hS0.out).mono ?_
      rintro e w2 ⟨rfl, hS2⟩
      have hS2' := Lib.hid hS2
      clear hS2
      go_wp2_with fail
      refine (c1.out _ hS2'.out).mono ?_
      rintro e w3 ⟨rfl, hS3⟩
      have hS3' := Lib.hid hS3
      clear hS3
      go_wp2_with fail
      refine (c2.out _ hS3'.out).mono ?_
      rintro e w4 ⟨rfl, hS4⟩
      have hS4' := Lib.hid hS4
      clear hS4
      go_wp2_with fail
      refine (c3.out _ hS4'.out).mono ?_
      rintro e w5 ⟨rfl, hS5⟩
      have hS5' := Lib.hid hS5
      clear hS5
      go_wp2
      go_ret
      exact ⟨rfl, hS5'.out.1⟩
  · have hs2 : (3000 : Int) < (s.size : Int) := by omega
    go_enter Tryd.func20, Tryd.ntmps20
    go_wp2_with fail
    refine (haw.out _ hS0.out).mono ?_
    rintro e w2 ⟨rfl, hS2⟩
    go_wp2
    go_ret
    exact ⟨rfl, hS2.1⟩
end Go.Proofs.YtcoddeemfdnjpaaDoor.PrepPlain
