/- The walks of prep.Phone, Same, of the examples, and of the laws PrepReady, PrepOnce, PrepSame. -/
import Derived.Test.YtcoddeemfdnjpaaDoorRefPrepB
namespace Go.Proofs.YtcoddeemfdnjpaaDoor.PrepPlain
open Go.RowKit
open Go.Proofs.YtcoddeemfdnjpaaDoorW.PrintMore
open Go.Proofs.YtcoddeemfdnjpaaDoorW.PrintWords hiding nums nums_length nums_append
/-- nothing that was there has changed, and the library's longest length is known -/
def St (w : World) (m : Int) (v : World) : Prop := Below w.heap.size w v ∧ v.cell? ⟨1, 0, none⟩ = some (.int .i64 m)
theorem St.next {w v v' : World} {m : Int} (h : St w m v) (hb : Below v.heap.size v v') : St w m v' := ⟨h.1.trans (hb.mono h.1.size), below_cell1 h.2 hb⟩
theorem St.start {w : World} {m : Int} (h : w.cell? ⟨1, 0, none⟩ = some (.int .i64 m)) : St w m w := ⟨Below.refl _ _, h⟩
theorem phone_none (s : List UInt8) (h : readyT true s = none) : phoneT s = none := by
  unfold readyT at h
  unfold phoneT
  rw [Option.map_eq_none_iff] at h ⊢
  exact h
set_option maxHeartbeats 1000000 in
set_option maxRecDepth 100000 in
theorem phone_any (s : ByteArray) (m : Int) (w : World) (hs : s.size ≤ 100000) (hm : w.cell? ⟨1, 0, none⟩ = some (.int .i64 m)) :
    Calls Tryd.prog 71 #[.string s] w fun e w' => e = .returned (.tuple #[.string (toP (phoneT s.data.toList)).1, .int .i64 (toP (phoneT s.data.toList)).2]) ∧ Below w.heap.size w w' := by
  have hm' := Lib.hid hm
  have hra := Lib.hid (fun v (hv : St w m v) => ready_any s true m v hs hv.2)
  clear hm
  cases hr : readyT true s.data.toList with
  | none =>
    have hP := Lib.hid (phone_none _ hr)
    rw [hr] at hra
    clear hr
    rw [hP.out]
    go_enter Tryd.func71, Tryd.ntmps71
    go_wp2_with fail
    refine (hra.out _ (St.start hm'.out)).mono ?_
    rintro e w2 ⟨rfl, hb2⟩
    have hb2' := Lib.hid hb2
    clear hb2
    go_wp2
    go_ret2
    exact ⟨rfl, hb2'.out⟩
  | some t =>
    have hP := phone_of_ready _ _ hr
    have htl := ready_length hr
    have hs2 : s.data.toList.length = s.size := rfl
    rw [hr] at hra
    clear hr
    rw [hP]
    obtain ⟨T, hT⟩ : ∃ T : ByteArray, T = ⟨t.toArray⟩ := ⟨_, rfl⟩
    have hTt : T.data.toList = t := by rw [hT]
    have hTs : T.size ≤ 100000 := by
      have h3 : T.data.toList.length = T.size := rfl
      rw [hTt] at h3
      omega
    obtain ⟨U, hU⟩ : ∃ U : ByteArray, U = ⟨(t.filter fun x => decide (x ≠ 32)).toArray⟩ := ⟨_, rfl⟩
    have hUt : U.data.toList = t.filter fun x => decide (x ≠ 32) := by rw [hU]
    have hUs : U.size ≤ 100000 := by
      have h3 : U.data.toList.length = U.size := rfl
      have h4 := List.length_filter_le (fun x : UInt8 => decide (x ≠ 32)) t
      rw [hUt] at h3
      omega
    obtain ⟨V, hV⟩ : ∃ V : ByteArray, V = ⟨((t.filter fun x => decide (x ≠ 32)).filter fun x => decide (x ≠ 45)).toArray⟩ := ⟨_, rfl⟩
    have hpost : toP (some ((t.filter fun x => decide (x ≠ (32 : UInt8))).filter fun x => decide (x ≠ (45 : UInt8)))) = (V, 0) := by rw [hV]; rfl
    have hpre : toP (some t) = (T, 0) := by rw [hT]; rfl
    rw [hpre] at hra
    rw [hpost]
    have hr1 : Hid (∀ v : World, v.cell? ⟨1, 0, none⟩ = some (.int .i64 m) → Calls Tryd.prog 85 #[.string T, .string ⟨#[32]⟩, .string ⟨#[]⟩] v fun e w' => e = .returned (.string U) ∧ Below v.heap.size v w') := by
      intro v hv
      have h := Tryd.strings_ReplaceAll T ⟨#[32]⟩ ⟨#[]⟩ m v (by omega) hv (by decide) (by show T.size + Lib.countB T ⟨#[32]⟩ * 0 ≤ _; omega)
      have e : (⟨(Lib.replaceAll T.data.toList (⟨#[32]⟩ : ByteArray).data.toList (⟨#[]⟩ : ByteArray).data.toList).toArray⟩ : ByteArray) = U := by
        rw [hU, hTt]
        have := rep_filter 32 t
        rw [← this]
      rw [e] at h
      exact h
    have hr2 : Hid (∀ v : World, v.cell? ⟨1, 0, none⟩ = some (.int .i64 m) → Calls Tryd.prog 85 #[.string U, .string ⟨#[45]⟩, .string ⟨#[]⟩] v fun e w' => e = .returned (.string V) ∧ Below v.heap.size v w') := by
      intro v hv
      have h := Tryd.strings_ReplaceAll U ⟨#[45]⟩ ⟨#[]⟩ m v (by omega) hv (by decide) (by show U.size + Lib.countB U ⟨#[45]⟩ * 0 ≤ _; omega)
      have e : (⟨(Lib.replaceAll U.data.toList (⟨#[45]⟩ : ByteArray).data.toList (⟨#[]⟩ : ByteArray).data.toList).toArray⟩ : ByteArray) = V := by
        rw [hV, hUt]
        have := rep_filter 45 (t.filter fun x => decide (x ≠ 32))
        rw [← this]
      rw [e] at h
      exact h
    clear hP htl hs2 hT hTt hTs hU hUt hUs hV hpost hpre
    go_enter Tryd.func71, Tryd.ntmps71
    go_wp2_with fail
    refine (hra.out _ (St.start hm'.out)).mono ?_
    rintro e w2 ⟨rfl, hb2⟩
    have hS2 := Lib.hid ((St.start hm'.out).next hb2)
    clear hb2
    go_wp2_with fail
    refine (hr1.out _ hS2.out.2).mono ?_
    rintro e w3 ⟨rfl, hb3⟩
    have hS3 := Lib.hid (hS2.out.next hb3)
    clear hb3
    go_wp2_with fail
    refine (hr2.out _ hS3.out.2).mono ?_
    rintro e w4 ⟨rfl, hb4⟩
    have hS4 := Lib.hid (hS3.out.next hb4)
    clear hb4
    go_wp2
    go_ret2
    exact ⟨rfl, hS4.out.1⟩
theorem bytes_ne {x y : List UInt8} (h : ¬ x = y) : ((⟨x.toArray⟩ : ByteArray).toList == (⟨y.toArray⟩ : ByteArray).toList) = false := by
  apply beq_false_of_ne
  intro e
  rw [Lib.toList_data, Lib.toList_data] at e
  exact h e
set_option maxHeartbeats 1000000 in
set_option maxRecDepth 100000 in
theorem same_any (a b : ByteArray) (m : Int) (w : World) (ha : a.size ≤ 100000) (hb : b.size ≤ 100000) (hm : w.cell? ⟨1, 0, none⟩ = some (.int .i64 m)) :
    Calls Tryd.prog 34 #[.string a, .string b] w fun e w' => e = .returned (.bool (sameT a.data.toList b.data.toList)) ∧ Below w.heap.size w w' := by
  have hS0 := Lib.hid (St.start hm)
  have hra := Lib.hid (fun v (hv : St w m v) => ready_any a true m v ha hv.2)
  have hrb := Lib.hid (fun v (hv : St w m v) => ready_any b true m v hb hv.2)
  have hsm : sameT a.data.toList b.data.toList = match readyT true a.data.toList, readyT true b.data.toList with
    | some x, some y => decide (x = y)
    | _, _ => false := rfl
  obtain ⟨R, hR⟩ : ∃ R, sameT a.data.toList b.data.toList = R := ⟨_, rfl⟩
  rw [hR] at hsm ⊢
  clear hm hR
  cases h1 : readyT true a.data.toList with
  | none =>
    rw [h1] at hra hsm
    clear h1
    have hsm' : R = false := by rw [hsm]
    subst hsm'
    clear hsm
    go_enter Tryd.func34, Tryd.ntmps34
    go_wp2_with fail
    refine (hra.out _ hS0.out).mono ?_
    rintro e w2 ⟨rfl, hb2⟩
    have hS2 := Lib.hid (hS0.out.next hb2)
    clear hb2
    go_wp2_with fail
    refine (hrb.out _ hS2.out).mono ?_
    rintro e w3 ⟨rfl, hb3⟩
    have hS3 := Lib.hid (hS2.out.next hb3)
    clear hb3
    have hz : ((toP none).2 == 0) = false := rfl
    go_wp2
    go_ret
    exact ⟨rfl, hS3.out.1⟩
  | some x =>
    cases h2 : readyT true b.data.toList with
    | none =>
      rw [h1] at hra hsm
      rw [h2] at hrb hsm
      clear h1 h2
      have hsm' : R = false := by rw [hsm]
      subst hsm'
      clear hsm
      go_enter Tryd.func34, Tryd.ntmps34
      go_wp2_with fail
      refine (hra.out _ hS0.out).mono ?_
      rintro e w2 ⟨rfl, hb2⟩
      have hS2 := Lib.hid (hS0.out.next hb2)
      clear hb2
      go_wp2_with fail
      refine (hrb.out _ hS2.out).mono ?_
      rintro e w3 ⟨rfl, hb3⟩
      have hS3 := Lib.hid (hS2.out.next hb3)
      clear hb3
      have hz1 : ((toP (some x)).2 == 0) = true := rfl
      have hz2 : ((toP none).2 == 0) = false := rfl
      go_wp2
      go_ret
      exact ⟨rfl, hS3.out.1⟩
    | some y =>
      rw [h1] at hra hsm
      rw [h2] at hrb hsm
      clear h1 h2
      have e1 : toP (some x) = ((⟨x.toArray⟩ : ByteArray), 0) := rfl
      have e2 : toP (some y) = ((⟨y.toArray⟩ : ByteArray), 0) := rfl
      rw [e1] at hra
      rw [e2] at hrb
      clear e1 e2
      by_cases hxy : x = y
      · have hsm' : R = true := by rw [hsm]; exact decide_eq_true hxy
        subst hsm' hxy
        clear hsm
        obtain ⟨X, hX⟩ : ∃ X : ByteArray, X = ⟨x.toArray⟩ := ⟨_, rfl⟩
        rw [← hX] at hra hrb
        clear hX
        go_enter Tryd.func34, Tryd.ntmps34
        go_wp2_with fail
        refine (hra.out _ hS0.out).mono ?_
        rintro e w2 ⟨rfl, hb2⟩
        have hS2 := Lib.hid (hS0.out.next hb2)
        clear hb2
        go_wp2_with fail
        refine (hrb.out _ hS2.out).mono ?_
        rintro e w3 ⟨rfl, hb3⟩
        have hS3 := Lib.hid (hS2.out.next hb3)
        clear hb3
        go_wp2
        go_ret
        exact ⟨by simp, hS3.out.1⟩
      · have hsm' : R = false := by rw [hsm]; exact decide_eq_false hxy
        subst hsm'
        clear hsm
        have hne := bytes_ne hxy
        obtain ⟨X, hX⟩ : ∃ X : ByteArray, X = ⟨x.toArray⟩ := ⟨_, rfl⟩
        obtain ⟨Y, hY⟩ : ∃ Y : ByteArray, Y = ⟨y.toArray⟩ := ⟨_, rfl⟩
        rw [← hX] at hra hne
        rw [← hY] at hrb hne
        clear hX hY hxy
        go_enter Tryd.func34, Tryd.ntmps34
        go_wp2_with fail
        refine (hra.out _ hS0.out).mono ?_
        rintro e w2 ⟨rfl, hb2⟩
        have hS2 := Lib.hid (hS0.out.next hb2)
        clear hb2
        go_wp2_with fail
        refine (hrb.out _ hS2.out).mono ?_
        rintro e w3 ⟨rfl, hb3⟩
        have hS3 := Lib.hid (hS2.out.next hb3)
        clear hb3
        go_wp2
        go_ret
        exact ⟨by simp, hS3.out.1⟩
theorem ex_ready : toP (readyT true (⟨#[32, 32, 65, 98, 9, 67]⟩ : ByteArray).data.toList) = (⟨#[97, 98, 32, 99]⟩, 0) := by
  have h : readyT true [32, 32, 65, 98, 9, 67] = some [97, 98, 32, 99] := by decide
  show toP (readyT true [32, 32, 65, 98, 9, 67]) = _
  rw [h]; rfl
theorem ex_phone : toP (phoneT (⟨#[43, 49, 32, 50, 51, 45, 52, 53]⟩ : ByteArray).data.toList) = (⟨#[43, 49, 50, 51, 52, 53]⟩, 0) := by
  have h : phoneT [43, 49, 32, 50, 51, 45, 52, 53] = some [43, 49, 50, 51, 52, 53] := by decide
  show toP (phoneT [43, 49, 32, 50, 51, 45, 52, 53]) = _
  rw [h]; rfl
set_option maxHeartbeats 1000000 in
set_option maxRecDepth 100000 in
theorem awake13 (m : Int) (w : World) (hm : w.cell? ⟨1, 0, none⟩ = some (.int .i64 m)) : Calls Tryd.prog 32 #[] w fun e w' => e = .returned (.bool true) ∧ Below w.heap.size w w' := by
  have hS0 := Lib.hid (St.start hm)
  have hra : Hid (∀ v, St w m v → Calls Tryd.prog 70 #[.string ⟨#[32, 32, 65, 98, 9, 67]⟩, .bool true] v fun e w' => e = .returned (.tuple #[.string ⟨#[97, 98, 32, 99]⟩, .int .i64 0]) ∧ Below v.heap.size v w') := by
    intro v hv
    have h := ready_any ⟨#[32, 32, 65, 98, 9, 67]⟩ true m v (by decide) hv.2
    rw [ex_ready] at h
    exact h
  have hph : Hid (∀ v, St w m v → Calls Tryd.prog 71 #[.string ⟨#[43, 49, 32, 50, 51, 45, 52, 53]⟩] v fun e w' => e = .returned (.tuple #[.string ⟨#[43, 49, 50, 51, 52, 53]⟩, .int .i64 0]) ∧ Below v.heap.size v w') := by
    intro v hv
    have h := phone_any ⟨#[43, 49, 32, 50, 51, 45, 52, 53]⟩ m v (by decide) hv.2
    rw [ex_phone] at h
    exact h
  clear hm
  go_enter Tryd.func32, Tryd.ntmps32
  go_wp2_with fail
  refine (hra.out _ hS0.out).mono ?_
  rintro e w2 ⟨rfl, hb2⟩
  have hS2 := Lib.hid (hS0.out.next hb2)
  clear hb2
  go_wp2_with fail
  refine (hph.out _ hS2.out).mono ?_
  rintro e w3 ⟨rfl, hb3⟩
  have hS3 := Lib.hid (hS2.out.next hb3)
  clear hb3
  go_wp2
  go_ret
  exact ⟨rfl, hS3.out.1⟩
end Go.Proofs.YtcoddeemfdnjpaaDoor.PrepPlain
