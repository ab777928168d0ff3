/- The walks of the laws PrepSame, PrepBlanks, PrepRunes. -/
import Derived.Test.YtcoddeemfdnjpaaDoorPrepLaws
import Derived.Deep.QuietTactic
import Derived.BigQuiet
namespace Go.Proofs.YtcoddeemfdnjpaaDoor.PrepPlain
open Go.RowKit
open Go.Proofs.YtcoddeemfdnjpaaDoorW.PrintMore
open Go.Proofs.YtcoddeemfdnjpaaDoorW.PrintWords hiding nums nums_length nums_append
theorem same_facts (a b c : List UInt8) : ∃ p q r : Bool, sameT a b = p ∧ sameT b a = p ∧ sameT b c = q ∧ sameT a c = r ∧ (p = true → q = true → r = true) := by
  refine ⟨_, _, _, rfl, same_comm b a, rfl, rfl, same_trans a b c⟩
/-- the law's last line, where the texts are alike or not -/
theorem or_facts {p q r : Bool} (h : p = true → q = true → r = true) : p = false ∨ (p = true ∧ q = false) ∨ (p = true ∧ q = true ∧ r = true) := by
  cases p <;> cases q <;> simp_all
set_option maxHeartbeats 8000000 in
set_option maxRecDepth 100000 in
theorem prepSame_walk (a b c : ByteArray) (m : Int) (w : World) (hm : w.cell? ⟨1, 0, none⟩ = some (.int .i64 m)) : Calls Tryd.prog 7 #[.string a, .string b, .string c] w fun e w' => e = .returned (.bool true) ∧ Below w.heap.size w w' := by
  have hS0 := Lib.hid (St.start hm)
  have haw := Lib.hid (st_awake w m)
  clear hm
  by_cases ha : a.size ≤ 3000
  · by_cases hb : b.size ≤ 3000
    · by_cases hc : c.size ≤ 3000
      · have cra := Lib.hid (st_refReady w m a true (by omega))
        have crb := Lib.hid (st_refReady w m b true (by omega))
        have cab := Lib.hid (st_same w m a b (by omega) (by omega))
        have cba := Lib.hid (st_same w m b a (by omega) (by omega))
        have daa := Lib.hid (st_same w m a a (by omega) (by omega))
        have cbc := Lib.hid (st_same w m b c (by omega) (by omega))
        have cac := Lib.hid (st_same w m a c (by omega) (by omega))
        rw [same_self] at daa
        have hsm : sameT a.data.toList b.data.toList = match readyT true a.data.toList, readyT true b.data.toList with
          | some x, some y => decide (x = y)
          | _, _ => false := rfl
        obtain ⟨p, q, r, h1, h2, h3, h4, h5⟩ := same_facts a.data.toList b.data.toList c.data.toList
        have hor := Lib.hid (or_facts h5)
        rw [h1] at cab hsm
        rw [h2] at cba
        rw [h3] at cbc
        rw [h4] at cac
        have dab := cab
        clear h1 h2 h3 h4 h5
        cases g1 : readyT true a.data.toList with
        | none =>
          have e1 : toP none = ((⟨#[]⟩ : ByteArray), 19) := rfl
          rw [g1] at cra daa hsm
          rw [e1] at cra
          have hsm' : p = false := by rw [hsm]
          rw [hsm'] at dab
          have e2 : (Option.none : Option (List UInt8)).isSome = false := rfl
          rw [e2] at daa
          clear g1 e1 e2 hsm hsm'
          go_enter Tryd.func7, Tryd.ntmps7
          go_wp2_with fail
          refine (haw.out _ hS0.out).mono ?_
          rintro e w2 ⟨rfl, hS2⟩
          have hS2' := Lib.hid hS2
          clear hS2
          go_wp2_with fail
          refine (cra.out _ hS2'.out).mono ?_
          rintro e w3 ⟨rfl, hS3⟩
          have hS3' := Lib.hid hS3
          clear hS3
          go_wp2_with fail
          refine (crb.out _ hS3'.out).mono ?_
          rintro e w4 ⟨rfl, hS4⟩
          have hS4' := Lib.hid hS4
          clear hS4
          go_wp2_with fail
          refine (dab.out _ hS4'.out).mono ?_
          rintro e w5 ⟨rfl, hS5⟩
          have hS5' := Lib.hid hS5
          clear hS5
          go_wp2_with fail
          refine (daa.out _ hS5'.out).mono ?_
          rintro e w7 ⟨rfl, hS7⟩
          have hS7' := Lib.hid hS7
          clear hS7
          rcases hor.out with hp | ⟨hp, hq⟩ | ⟨hp, hq, hr⟩
          · rw [hp] at cab cba
            clear hp
            go_wp2_with fail
            refine (cab.out _ hS7'.out).mono ?_
            rintro e w8 ⟨rfl, hS8⟩
            have hS8' := Lib.hid hS8
            clear hS8
            go_wp2_with fail
            refine (cba.out _ hS8'.out).mono ?_
            rintro e w9 ⟨rfl, hS9⟩
            have hS9' := Lib.hid hS9
            clear hS9
            go_wp2_with fail
            refine (cab.out _ hS9'.out).mono ?_
            rintro e w10 ⟨rfl, hS10⟩
            have hS10' := Lib.hid hS10
            clear hS10
            go_wp2
            go_ret
            exact ⟨rfl, hS10'.out.1⟩
          · rw [hp] at cab cba
            rw [hq] at cbc
            clear hp hq
            go_wp2_with fail
            refine (cab.out _ hS7'.out).mono ?_
            rintro e w8 ⟨rfl, hS8⟩
            have hS8' := Lib.hid hS8
            clear hS8
            go_wp2_with fail
            refine (cba.out _ hS8'.out).mono ?_
            rintro e w9 ⟨rfl, hS9⟩
            have hS9' := Lib.hid hS9
            clear hS9
            go_wp2_with fail
            refine (cab.out _ hS9'.out).mono ?_
            rintro e w10 ⟨rfl, hS10⟩
            have hS10' := Lib.hid hS10
            clear hS10
            go_wp2_with fail
            refine (cbc.out _ hS10'.out).mono ?_
            rintro e w11 ⟨rfl, hS11⟩
            have hS11' := Lib.hid hS11
            clear hS11
            go_wp2
            go_ret
            exact ⟨rfl, hS11'.out.1⟩
          · rw [hp] at cab cba
            rw [hq] at cbc
            rw [hr] at cac
            clear hp hq hr
            go_wp2_with fail
            refine (cab.out _ hS7'.out).mono ?_
            rintro e w8 ⟨rfl, hS8⟩
            have hS8' := Lib.hid hS8
            clear hS8
            go_wp2_with fail
            refine (cba.out _ hS8'.out).mono ?_
            rintro e w9 ⟨rfl, hS9⟩
            have hS9' := Lib.hid hS9
            clear hS9
            go_wp2_with fail
            refine (cab.out _ hS9'.out).mono ?_
            rintro e w10 ⟨rfl, hS10⟩
            have hS10' := Lib.hid hS10
            clear hS10
            go_wp2_with fail
            refine (cbc.out _ hS10'.out).mono ?_
            rintro e w11 ⟨rfl, hS11⟩
            have hS11' := Lib.hid hS11
            clear hS11
            go_wp2_with fail
            refine (cac.out _ hS11'.out).mono ?_
            rintro e w12 ⟨rfl, hS12⟩
            have hS12' := Lib.hid hS12
            clear hS12
            go_wp2
            go_ret
            exact ⟨rfl, hS12'.out.1⟩
        | some x =>
          cases g2 : readyT true b.data.toList with
          | none =>
            have e1 : toP none = ((⟨#[]⟩ : ByteArray), 19) := rfl
            rw [g1] at cra daa hsm
            rw [g2] at crb hsm
            rw [e1] at crb
            have hsm' : p = false := by rw [hsm]
            rw [hsm'] at dab
            have e2 : (some x).isSome = true := rfl
            have e3 : toP (some x) = ((⟨x.toArray⟩ : ByteArray), 0) := rfl
            rw [e2] at daa
            rw [e3] at cra
            clear g1 g2 e1 e2 e3 hsm hsm'
            go_enter Tryd.func7, Tryd.ntmps7
            go_wp2_with fail
            refine (haw.out _ hS0.out).mono ?_
            rintro e w2 ⟨rfl, hS2⟩
            have hS2' := Lib.hid hS2
            clear hS2
            go_wp2_with fail
            refine (cra.out _ hS2'.out).mono ?_
            rintro e w3 ⟨rfl, hS3⟩
            have hS3' := Lib.hid hS3
            clear hS3
            go_wp2_with fail
            refine (crb.out _ hS3'.out).mono ?_
            rintro e w4 ⟨rfl, hS4⟩
            have hS4' := Lib.hid hS4
            clear hS4
            go_wp2_with fail
            refine (dab.out _ hS4'.out).mono ?_
            rintro e w5 ⟨rfl, hS5⟩
            have hS5' := Lib.hid hS5
            clear hS5
            go_wp2_with fail
            refine (daa.out _ hS5'.out).mono ?_
            rintro e w7 ⟨rfl, hS7⟩
            have hS7' := Lib.hid hS7
            clear hS7
            rcases hor.out with hp | ⟨hp, hq⟩ | ⟨hp, hq, hr⟩
            · rw [hp] at cab cba
              clear hp
              go_wp2_with fail
              refine (cab.out _ hS7'.out).mono ?_
              rintro e w8 ⟨rfl, hS8⟩
              have hS8' := Lib.hid hS8
              clear hS8
              go_wp2_with fail
              refine (cba.out _ hS8'.out).mono ?_
              rintro e w9 ⟨rfl, hS9⟩
              have hS9' := Lib.hid hS9
              clear hS9
              go_wp2_with fail
              refine (cab.out _ hS9'.out).mono ?_
              rintro e w10 ⟨rfl, hS10⟩
              have hS10' := Lib.hid hS10
              clear hS10
              go_wp2
              go_ret
              exact ⟨rfl, hS10'.out.1⟩
            · rw [hp] at cab cba
              rw [hq] at cbc
              clear hp hq
              go_wp2_with fail
              refine (cab.out _ hS7'.out).mono ?_
              rintro e w8 ⟨rfl, hS8⟩
              have hS8' := Lib.hid hS8
              clear hS8
              go_wp2_with fail
              refine (cba.out _ hS8'.out).mono ?_
              rintro e w9 ⟨rfl, hS9⟩
              have hS9' := Lib.hid hS9
              clear hS9
              go_wp2_with fail
              refine (cab.out _ hS9'.out).mono ?_
              rintro e w10 ⟨rfl, hS10⟩
              have hS10' := Lib.hid hS10
              clear hS10
              go_wp2_with fail
              refine (cbc.out _ hS10'.out).mono ?_
              rintro e w11 ⟨rfl, hS11⟩
              have hS11' := Lib.hid hS11
              clear hS11
              go_wp2
              go_ret
              exact ⟨rfl, hS11'.out.1⟩
            · rw [hp] at cab cba
              rw [hq] at cbc
              rw [hr] at cac
              clear hp hq hr
              go_wp2_with fail
              refine (cab.out _ hS7'.out).mono ?_
              rintro e w8 ⟨rfl, hS8⟩
              have hS8' := Lib.hid hS8
              clear hS8
              go_wp2_with fail
              refine (cba.out _ hS8'.out).mono ?_
              rintro e w9 ⟨rfl, hS9⟩
              have hS9' := Lib.hid hS9
              clear hS9
              go_wp2_with fail
              refine (cab.out _ hS9'.out).mono ?_
              rintro e w10 ⟨rfl, hS10⟩
              have hS10' := Lib.hid hS10
              clear hS10
              go_wp2_with fail
              refine (cbc.out _ hS10'.out).mono ?_
              rintro e w11 ⟨rfl, hS11⟩
              have hS11' := Lib.hid hS11
              clear hS11
              go_wp2_with fail
              refine (cac.out _ hS11'.out).mono ?_
              rintro e w12 ⟨rfl, hS12⟩
              have hS12' := Lib.hid hS12
              clear hS12
              go_wp2
              go_ret
              exact ⟨rfl, hS12'.out.1⟩
          | some y =>
            rw [g1] at cra daa hsm
            rw [g2] at crb hsm
            have e2 : (some x).isSome = true := rfl
            have e3 : toP (some x) = ((⟨x.toArray⟩ : ByteArray), 0) := rfl
            have e4 : toP (some y) = ((⟨y.toArray⟩ : ByteArray), 0) := rfl
            rw [e2] at daa
            rw [e3] at cra
            rw [e4] at crb
            clear g1 g2 e2 e3 e4
            by_cases hxy : x = y
            · have hsm' : p = true := by rw [hsm]; exact decide_eq_true hxy
              rw [hsm'] at dab
              subst hxy
              obtain ⟨X, hX⟩ : ∃ X : ByteArray, X = ⟨x.toArray⟩ := ⟨_, rfl⟩
              rw [← hX] at cra crb
              clear hsm hsm' hX
              go_enter Tryd.func7, Tryd.ntmps7
              go_wp2_with fail
              refine (haw.out _ hS0.out).mono ?_
              rintro e w2 ⟨rfl, hS2⟩
              have hS2' := Lib.hid hS2
              clear hS2
              go_wp2_with fail
              refine (cra.out _ hS2'.out).mono ?_
              rintro e w3 ⟨rfl, hS3⟩
              have hS3' := Lib.hid hS3
              clear hS3
              go_wp2_with fail
              refine (crb.out _ hS3'.out).mono ?_
              rintro e w4 ⟨rfl, hS4⟩
              have hS4' := Lib.hid hS4
              clear hS4
              go_wp2_with fail
              refine (dab.out _ hS4'.out).mono ?_
              rintro e w5 ⟨rfl, hS5⟩
              have hS5' := Lib.hid hS5
              clear hS5
              go_wp2_with fail
              refine (daa.out _ hS5'.out).mono ?_
              rintro e w7 ⟨rfl, hS7⟩
              have hS7' := Lib.hid hS7
              clear hS7
              rcases hor.out with hp | ⟨hp, hq⟩ | ⟨hp, hq, hr⟩
              · rw [hp] at cab cba
                clear hp
                go_wp2_with fail
                refine (cab.out _ hS7'.out).mono ?_
                rintro e w8 ⟨rfl, hS8⟩
                have hS8' := Lib.hid hS8
                clear hS8
                go_wp2_with fail
                refine (cba.out _ hS8'.out).mono ?_
                rintro e w9 ⟨rfl, hS9⟩
                have hS9' := Lib.hid hS9
                clear hS9
                go_wp2_with fail
                refine (cab.out _ hS9'.out).mono ?_
                rintro e w10 ⟨rfl, hS10⟩
                have hS10' := Lib.hid hS10
                clear hS10
                go_wp2
                go_ret
                exact ⟨rfl, hS10'.out.1⟩
              · rw [hp] at cab cba
                rw [hq] at cbc
                clear hp hq
                go_wp2_with fail
                refine (cab.out _ hS7'.out).mono ?_
                rintro e w8 ⟨rfl, hS8⟩
                have hS8' := Lib.hid hS8
                clear hS8
                go_wp2_with fail
                refine (cba.out _ hS8'.out).mono ?_
                rintro e w9 ⟨rfl, hS9⟩
                have hS9' := Lib.hid hS9
                clear hS9
                go_wp2_with fail
                refine (cab.out _ hS9'.out).mono ?_
                rintro e w10 ⟨rfl, hS10⟩
                have hS10' := Lib.hid hS10
                clear hS10
                go_wp2_with fail
                refine (cbc.out _ hS10'.out).mono ?_
                rintro e w11 ⟨rfl, hS11⟩
                have hS11' := Lib.hid hS11
                clear hS11
                go_wp2
                go_ret
                exact ⟨rfl, hS11'.out.1⟩
              · rw [hp] at cab cba
                rw [hq] at cbc
                rw [hr] at cac
                clear hp hq hr
                go_wp2_with fail
                refine (cab.out _ hS7'.out).mono ?_
                rintro e w8 ⟨rfl, hS8⟩
                have hS8' := Lib.hid hS8
                clear hS8
                go_wp2_with fail
                refine (cba.out _ hS8'.out).mono ?_
                rintro e w9 ⟨rfl, hS9⟩
                have hS9' := Lib.hid hS9
                clear hS9
                go_wp2_with fail
                refine (cab.out _ hS9'.out).mono ?_
                rintro e w10 ⟨rfl, hS10⟩
                have hS10' := Lib.hid hS10
                clear hS10
                go_wp2_with fail
                refine (cbc.out _ hS10'.out).mono ?_
                rintro e w11 ⟨rfl, hS11⟩
                have hS11' := Lib.hid hS11
                clear hS11
                go_wp2_with fail
                refine (cac.out _ hS11'.out).mono ?_
                rintro e w12 ⟨rfl, hS12⟩
                have hS12' := Lib.hid hS12
                clear hS12
                go_wp2
                go_ret
                exact ⟨rfl, hS12'.out.1⟩
            · have hsm' : p = false := by rw [hsm]; exact decide_eq_false hxy
              rw [hsm'] at dab
              have hne := bytes_ne hxy
              obtain ⟨X, hX⟩ : ∃ X : ByteArray, X = ⟨x.toArray⟩ := ⟨_, rfl⟩
              obtain ⟨Y, hY⟩ : ∃ Y : ByteArray, Y = ⟨y.toArray⟩ := ⟨_, rfl⟩
              rw [← hX] at cra hne
              rw [← hY] at crb hne
              clear hsm hsm' hX hY hxy
              go_enter Tryd.func7, Tryd.ntmps7
              go_wp2_with fail
              refine (haw.out _ hS0.out).mono ?_
              rintro e w2 ⟨rfl, hS2⟩
              have hS2' := Lib.hid hS2
              clear hS2
              go_wp2_with fail
              refine (cra.out _ hS2'.out).mono ?_
              rintro e w3 ⟨rfl, hS3⟩
              have hS3' := Lib.hid hS3
              clear hS3
              go_wp2_with fail
              refine (crb.out _ hS3'.out).mono ?_
              rintro e w4 ⟨rfl, hS4⟩
              have hS4' := Lib.hid hS4
              clear hS4
              go_wp2_with fail
              refine (dab.out _ hS4'.out).mono ?_
              rintro e w5 ⟨rfl, hS5⟩
              have hS5' := Lib.hid hS5
              clear hS5
              go_wp2_with fail
              refine (daa.out _ hS5'.out).mono ?_
              rintro e w7 ⟨rfl, hS7⟩
              have hS7' := Lib.hid hS7
              clear hS7
              rcases hor.out with hp | ⟨hp, hq⟩ | ⟨hp, hq, hr⟩
              · rw [hp] at cab cba
                clear hp
                go_wp2_with fail
                refine (cab.out _ hS7'.out).mono ?_
                rintro e w8 ⟨rfl, hS8⟩
                have hS8' := Lib.hid hS8
                clear hS8
                go_wp2_with fail
                refine (cba.out _ hS8'.out).mono ?_
                rintro e w9 ⟨rfl, hS9⟩
                have hS9' := Lib.hid hS9
                clear hS9
                go_wp2_with fail
                refine (cab.out _ hS9'.out).mono ?_
                rintro e w10 ⟨rfl, hS10⟩
                have hS10' := Lib.hid hS10
                clear hS10
                go_wp2
                go_ret
                exact ⟨rfl, hS10'.out.1⟩
              · rw [hp] at cab cba
                rw [hq] at cbc
                clear hp hq
                go_wp2_with fail
                refine (cab.out _ hS7'.out).mono ?_
                rintro e w8 ⟨rfl, hS8⟩
                have hS8' := Lib.hid hS8
                clear hS8
                go_wp2_with fail
                refine (cba.out _ hS8'.out).mono ?_
                rintro e w9 ⟨rfl, hS9⟩
                have hS9' := Lib.hid hS9
                clear hS9
                go_wp2_with fail
                refine (cab.out _ hS9'.out).mono ?_
                rintro e w10 ⟨rfl, hS10⟩
                have hS10' := Lib.hid hS10
                clear hS10
                go_wp2_with fail
                refine (cbc.out _ hS10'.out).mono ?_
                rintro e w11 ⟨rfl, hS11⟩
                have hS11' := Lib.hid hS11
                clear hS11
                go_wp2
                go_ret
                exact ⟨rfl, hS11'.out.1⟩
              · rw [hp] at cab cba
                rw [hq] at cbc
                rw [hr] at cac
                clear hp hq hr
                go_wp2_with fail
                refine (cab.out _ hS7'.out).mono ?_
                rintro e w8 ⟨rfl, hS8⟩
                have hS8' := Lib.hid hS8
                clear hS8
                go_wp2_with fail
                refine (cba.out _ hS8'.out).mono ?_
                rintro e w9 ⟨rfl, hS9⟩
                have hS9' := Lib.hid hS9
                clear hS9
                go_wp2_with fail
                refine (cab.out _ hS9'.out).mono ?_
                rintro e w10 ⟨rfl, hS10⟩
                have hS10' := Lib.hid hS10
                clear hS10
                go_wp2_with fail
                refine (cbc.out _ hS10'.out).mono ?_
                rintro e w11 ⟨rfl, hS11⟩
                have hS11' := Lib.hid hS11
                clear hS11
                go_wp2_with fail
                refine (cac.out _ hS11'.out).mono ?_
                rintro e w12 ⟨rfl, hS12⟩
                have hS12' := Lib.hid hS12
                clear hS12
                go_wp2
                go_ret
                exact ⟨rfl, hS12'.out.1⟩
      · have hs2 : (3000 : Int) < (c.size : Int) := by omega
        go_enter Tryd.func7, Tryd.ntmps7
        go_wp2_with fail
        refine (haw.out _ hS0.out).mono ?_
        rintro e w2 ⟨rfl, hS2⟩
        go_wp2
        go_ret
        exact ⟨rfl, hS2.1⟩
    · have hs2 : (3000 : Int) < (b.size : Int) := by omega
      go_enter Tryd.func7, Tryd.ntmps7
      go_wp2_with fail
      refine (haw.out _ hS0.out).mono ?_
      rintro e w2 ⟨rfl, hS2⟩
      go_wp2
      go_ret
      exact ⟨rfl, hS2.1⟩
  · have hs2 : (3000 : Int) < (a.size : Int) := by omega
    go_enter Tryd.func7, Tryd.ntmps7
    go_wp2_with fail
    refine (haw.out _ hS0.out).mono ?_
    rintro e w2 ⟨rfl, hS2⟩
    go_wp2
    go_ret
    exact ⟨rfl, hS2.1⟩
end Go.Proofs.YtcoddeemfdnjpaaDoor.PrepPlain
