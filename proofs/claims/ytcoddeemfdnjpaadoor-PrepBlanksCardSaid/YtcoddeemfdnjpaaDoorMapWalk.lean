/- The walk of prep.Map. -/
import Derived.Test.YtcoddeemfdnjpaaDoorMapSmall
import Derived.Test.YtcoddeemfdnjpaaDoorRunesWalk
namespace Go.Proofs.YtcoddeemfdnjpaaDoor.PrepPlain
open Go.RowKit
open Go.Proofs.YtcoddeemfdnjpaaDoorW.PrintMore
open Go.Proofs.YtcoddeemfdnjpaaDoorW.PrintWords hiding nums nums_length nums_append
theorem builderAt_below {T e : TypeId} {B b : Nat} {p : Value} {bs : List Value} {W W' : World} (h : Lib.BuilderAtF T e B b p bs W) (hb : Below W.heap.size W W') : Lib.BuilderAtF T e B b p bs W' := by
  have hlt := h.lt
  obtain ⟨hB, v, hv, hown, hne⟩ := h
  exact ⟨hB, v, (hb.block b hlt).trans hv, hown.kept (row := none) ⟨hb.os, hb.tape, hb.output, hb.size, fun k hk _ => hb.block k hk⟩ (Classical.em _), hne⟩
theorem builder_below {T e : TypeId} {B b : Nat} {bs : List Value} {W W' : World} (h : Lib.IsBuilderF T e B b bs W) (hb : Below W.heap.size W W') : Lib.IsBuilderF T e B b bs W' :=
  h.elim (fun x => .inl (builderAt_below x hb)) (fun x => .inr (builderAt_below x hb))
theorem fresh_builder (w : World) : Lib.IsBuilderF 93 5 w.heap.size w.heap.size (Lib.byteCells []) (w.alloc (.cells #[.pointer none, .slice none 0 0] 93)) :=
  .inl ⟨Nat.le_refl _, .slice none 0 0, by simp [World.alloc, -World.alloc_eq], World.ownsRowF_nil _ _ _ _, by simp [Value.ownBlock]⟩
theorem enc_encode (v : Nat) (h : okR v) : enc v = Lib.encodeRune (v : Int) := by
  obtain ⟨h1, h2⟩ := h
  unfold enc Lib.encodeRune
  by_cases c1 : v < 128
  · rw [if_pos c1, Lib.encodeRuneZ_one (by omega) (by omega)]
    simp
  · by_cases c2 : v < 2048
    · rw [if_neg c1, if_pos c2, Lib.encodeRuneZ_two (by omega) (by omega)]
      have e1 : (192 + (v : Int) / 64).toNat = 192 + v / 64 := by omega
      have e2 : (128 + (v : Int) % 64).toNat = 128 + v % 64 := by omega
      simp only [List.map_cons, List.map_nil, e1, e2]
    · by_cases c3 : v < 65536
      · rw [if_neg c1, if_neg c2, if_pos c3, Lib.encodeRuneZ_three (by omega)]
        have e1 : (224 + (v : Int) / 4096).toNat = 224 + v / 4096 := by omega
        have e2 : (128 + (v : Int) / 64 % 64).toNat = 128 + v / 64 % 64 := by omega
        have e3 : (128 + (v : Int) % 64).toNat = 128 + v % 64 := by omega
        simp only [List.map_cons, List.map_nil, e1, e2, e3]
      · rw [if_neg c1, if_neg c2, if_neg c3, Lib.encodeRuneZ_four (by omega) (by omega)]
        have e1 : (240 + (v : Int) / 262144).toNat = 240 + v / 262144 := by omega
        have e2 : (128 + (v : Int) / 4096 % 64).toNat = 128 + v / 4096 % 64 := by omega
        have e3 : (128 + (v : Int) / 64 % 64).toNat = 128 + v / 64 % 64 := by omega
        have e4 : (128 + (v : Int) % 64).toNat = 128 + v % 64 := by omega
        simp only [List.map_cons, List.map_nil, e1, e2, e3, e4]
theorem cells_enc (l : List UInt8) (v : Nat) (h : okR v) : Lib.byteCells l ++ Lib.runeCells (v : Int) = Lib.byteCells (l ++ enc v) := by
  rw [enc_encode v h, Lib.byteCells_append, Lib.byteCells_encodeRune]
/-- what a call of Map tells -/
def mapP (fold : Bool) (s : ByteArray) : ByteArray × Int := match mapT fold s.data.toList with
  | none => (⟨#[]⟩, 19)
  | some t => (⟨t.toArray⟩, 0)
theorem mapP_none {fold : Bool} {s : ByteArray} (h : runesL s.data.toList = none) : mapP fold s = (⟨#[]⟩, 19) := by unfold mapP mapT; rw [h]; rfl
theorem mapP_some {fold : Bool} {s : ByteArray} {l : List Nat} (h : runesL s.data.toList = some l) : mapP fold s = (⟨(textL (mapL fold l)).toArray⟩, 0) := by unfold mapP mapT; rw [h]; rfl
theorem mapL_snoc (fold : Bool) (l : List Nat) (k r : Nat) (h : l[k]? = some r) : mapL fold (l.take (k + 1)) = mapL fold (l.take k) ++ (mp fold r).toList := by
  rw [List.take_add_one, h, mapL_append]
  have e : mapL fold [r] = (mp fold r).toList := by
    unfold mapL
    rw [List.filterMap_cons]
    cases mp fold r <;> rfl
  show _ ++ mapL fold [r] = _
  rw [e]
/-- what is there behind k runes -/
def MapSt (l : List Nat) (fold : Bool) (w2 : World) (k : Nat) (wr : World) : Prop :=
  Below w2.heap.size w2 wr ∧ Lib.IsBuilderF 93 5 w2.heap.size w2.heap.size (Lib.byteCells (textL (mapL fold (l.take k)))) wr ∧ (textL (mapL fold (l.take k))).length ≤ 4 * k
theorem MapSt.keep {l : List Nat} {fold : Bool} {w2 wr wx : World} {k : Nat} (h : MapSt l fold w2 k wr) (hb : Below wr.heap.size wr wx) : MapSt l fold w2 k wx :=
  ⟨h.1.trans (hb.mono h.1.size), builder_below h.2.1 hb, h.2.2⟩
theorem MapSt.drop {l : List Nat} {fold : Bool} {w2 wr : World} {k r : Nat} (h : MapSt l fold w2 k wr) (hr : l[k]? = some r) (hm : mp fold r = none) : MapSt l fold w2 (k + 1) wr := by
  have e : mapL fold (l.take (k + 1)) = mapL fold (l.take k) := by rw [mapL_snoc fold l k r hr, hm]; simp
  refine ⟨h.1, by rw [e]; exact h.2.1, ?_⟩
  rw [e]
  have := h.2.2
  omega
theorem MapSt.put {l : List Nat} {fold : Bool} {w2 wr wx : World} {k r q : Nat} {p : Value} (h : MapSt l fold w2 k wr) (hr : l[k]? = some r) (hm : mp fold r = some q) (hq : okR q)
    (hB : Lib.BuilderAtF 93 5 w2.heap.size w2.heap.size p (Lib.byteCells (textL (mapL fold (l.take k))) ++ Lib.runeCells (q : Int)) wx) (hb : Below w2.heap.size wr wx) (hp : p = .pointer (some ⟨w2.heap.size, 0, none⟩)) : MapSt l fold w2 (k + 1) wx := by
  have e : textL (mapL fold (l.take (k + 1))) = textL (mapL fold (l.take k)) ++ enc q := by
    rw [mapL_snoc fold l k r hr, hm, textL_append]; simp [textL]
  rw [cells_enc _ q hq] at hB
  subst hp
  refine ⟨h.1.trans hb, by rw [e]; exact .inr hB, ?_⟩
  rw [e, List.length_append]
  have h1 := h.2.2
  have h2 := (enc_length q).2
  omega
set_option maxHeartbeats 2000000 in
set_option maxRecDepth 100000 in
theorem map_any (s : ByteArray) (fold : Bool) (w : World) (hs : s.size ≤ 100000) :
    Calls Tryd.prog 68 #[.string s, .bool fold] w fun e w' => e = .returned (.tuple #[.string (mapP fold s).1, .int .i64 (mapP fold s).2]) ∧ Below w.heap.size w w' := by
  cases hr : runesL s.data.toList with
  | none =>
    have hP := Lib.hid (mapP_none (fold := fold) hr)
    have hru : Hid (∀ v : World, Calls Tryd.prog 36 #[.string s] v fun e w' => ∃ x, e = .returned (.tuple #[x, .int .i64 19]) ∧ Kd.R (Kd.int .i32) 21 w' v.heap.size (fun _ => True) x [] ∧ Below v.heap.size v w') := by
      intro v
      have h := runes_any s v hs
      have e : runesP s = ([], 19) := by unfold runesP; rw [hr]
      rw [e] at h
      exact h
    clear hr
    go_enter Tryd.func68, Tryd.ntmps68
    go_wp2_with fail
    refine (hru.out _).mono ?_
    rintro e w2 ⟨v, rfl, -, hb2⟩
    have hb2' := Lib.hid hb2
    clear hb2
    go_wp2
    go_ret2
    rw [hP.out]
    exact ⟨rfl, hb2'.out⟩
  | some l =>
    have hP := Lib.hid (mapP_some (fold := fold) hr)
    obtain ⟨hok, htx⟩ := (runesL_iff _ _).1 hr
    have hll : l.length ≤ s.size := by
      have h1 : s.data.toList.length = s.size := rfl
      have h2 : ∀ l : List Nat, l.length ≤ (textL l).length := by
        intro l
        induction l with
        | nil => exact Nat.le_refl _
        | cons a l ih =>
          have := (enc_length a).1
          rw [textL_cons, List.length_append, List.length_cons]
          omega
      have h3 := h2 l
      rw [← htx] at h3
      omega
    have hok' := Lib.hid hok
    have hru : Hid (∀ v : World, Calls Tryd.prog 36 #[.string s] v fun e w' => ∃ x, e = .returned (.tuple #[x, .int .i64 0]) ∧ Kd.R (Kd.int .i32) 21 w' v.heap.size (fun _ => True) x (l.map Int.ofNat) ∧ Below v.heap.size v w') := by
      intro v
      have h := runes_any s v hs
      have e : runesP s = (l.map Int.ofNat, 0) := by unfold runesP; rw [hr]
      rw [e] at h
      exact h
    obtain ⟨L, hL⟩ : ∃ L, L = l.map Int.ofNat := ⟨_, rfl⟩
    rw [← hL] at hru
    have hLn : L.length = l.length := by rw [hL, List.length_map]
    obtain ⟨n, hn⟩ : ∃ n, n = l.length := ⟨_, rfl⟩
    rw [← hn] at hLn hll
    have hL' := Lib.hid hL
    have hLn' := Lib.hid hLn
    have hn' := Lib.hid hn
    clear hr htx hok hL hLn hn
    go_enter Tryd.func68, Tryd.ntmps68
    go_wp2_with fail
    refine (hru.out _).mono ?_
    rintro e w2 ⟨v, rfl, hR, hb2⟩
    obtain ⟨A, c, rfl, hc, hC⟩ := Kd.R_reads hR
    rw [hLn'.out] at hC hc ⊢
    have hb2' := Lib.hid hb2
    have hC' := Lib.hid hC
    clear hb2 hC hR
    go_wp2_with fail
    go_loopw [21] (fun i wr => ∃ k : Nat, k ≤ n ∧ i = .int .i64 k ∧ Hid (MapSt l fold w2 k wr)) (fun i _ => n - (intOf i).toNat)
    case atStart => exact ⟨0, by omega, rfl, (Below.refl _ _).alloc (Nat.le_refl _) _, fresh_builder w2, by simp [mapL, textL]⟩
    case round =>
      obtain ⟨k, hk, rfl, hst⟩ := hrel
      by_cases hlt : k < n
      · have hCk := Kd.C_below hC'.out hst.out.1
        obtain ⟨ad, rfl, hcell⟩ := Kd.at_int hCk (k : Int) (by omega) (by omega)
        obtain ⟨r, hr⟩ : ∃ r, l[k]? = some r := ⟨l[k]'(by rw [← hn'.out]; exact hlt), List.getElem?_eq_getElem _⟩
        have hrd : rd L (k : Int) = (r : Int) := by
          unfold rd
          rw [hL'.out, Int.toNat_natCast, List.getD_eq_getElem?_getD, List.getElem?_map, hr]
          rfl
        rw [hrd, Int.toNat_natCast] at hcell
        have hokr := hok'.out r (List.mem_of_getElem? hr)
        have hr11 : r ≤ 1114111 := hokr.1
        have hokr' := Lib.hid hokr
        have hr' := Lib.hid hr
        have hl4 : Hid ((Lib.byteCells (textL (mapL fold (l.take k)))).length + 4 ≤ 140737488355328) := by
          have h1 := hst.out.2.2
          rw [Lib.byteCells_length]
          show _ ≤ _
          omega
        clear hCk hr hrd hokr
        go_wp2_with fail
        refine (dropped_any r _).mono ?_
        rintro e w3 ⟨rfl, hb3⟩
        have hst3 := Lib.hid (hst.out.keep hb3)
        clear hb3 hst hcell
        by_cases hd : drp r = true
        · have hm : Hid (mp fold r = none) := if_pos hd
          rw [hd]
          clear hd
          go_wp2_with fail
          go_roundw
          case rel => exact ⟨k + 1, by omega, by go_num, hst3.out.drop hr'.out hm.out⟩
          case measure => simp [intOf]; omega
        · have hd' : drp r = false := by simpa using hd
          have hd2 := Lib.hid hd
          rw [hd']
          clear hd hd'
          go_wp2_with fail
          refine (blank_any r _).mono ?_
          rintro e w4 ⟨rfl, hb4⟩
          have hst4 := Lib.hid (hst3.out.keep hb4)
          clear hb4 hst3
          by_cases hk2 : blk r = true
          · have hm : Hid (mp fold r = some 32) := by
              show _ = _
              unfold mp
              rw [if_neg hd2.out, if_pos hk2]
            rw [hk2]
            clear hk2
            go_wp2_with fail
            refine (Tryd.Builder_WriteRune_k w2.heap.size w2.heap.size _ 32 (by decide) (by decide) _ hst4.out.2.1 hl4.out hst4.out.1.size).mono ?_
            rintro e w5 ⟨rfl, hB5, hb5, -⟩
            have hst5 := Lib.hid (MapSt.put (q := 32) hst4.out hr'.out hm.out ⟨by decide, by decide⟩ hB5 hb5 rfl)
            clear hB5 hb5 hst4
            go_wp2_with fail
            go_roundw
            case rel => exact ⟨k + 1, by omega, by go_num, hst5.out⟩
            case measure => simp [intOf]; omega
          · have hk' : blk r = false := by simpa using hk2
            have hk3 := Lib.hid hk2
            rw [hk']
            clear hk2 hk'
            cases fold
            · have hm : Hid (mp false r = some r) := by
                show _ = _
                unfold mp
                rw [if_neg hd2.out, if_neg hk3.out, if_neg (by decide)]
              go_wp2_with fail
              refine (Tryd.Builder_WriteRune_k w2.heap.size w2.heap.size _ (r : Int) (by omega) (by omega) _ hst4.out.2.1 hl4.out hst4.out.1.size).mono ?_
              rintro e w5 ⟨rfl, hB5, hb5, -⟩
              have hst5 := Lib.hid (MapSt.put hst4.out hr'.out hm.out hokr'.out hB5 hb5 rfl)
              clear hB5 hb5 hst4
              go_wp2_with fail
              go_roundw
              case rel => exact ⟨k + 1, by omega, by go_num, hst5.out⟩
              case measure => simp [intOf]; omega
            · have hm : Hid (mp true r = some (sml r)) := by
                show _ = _
                unfold mp
                rw [if_neg hd2.out, if_neg hk3.out, if_pos rfl]
              have hso := sml_ok r hokr'.out
              have hs11 : sml r ≤ 1114111 := hso.1
              have hso' := Lib.hid hso
              clear hso
              go_wp2_with fail
              refine (small_any r hr11 _).mono ?_
              obtain ⟨q, hq⟩ : ∃ q, q = sml r := ⟨_, rfl⟩
              rw [← hq] at hm hso' hs11 ⊢
              clear hq
              rintro e w7 ⟨rfl, hb7⟩
              have hst7 := Lib.hid (hst4.out.keep hb7)
              clear hb7 hst4
              go_wp2_with fail
              refine (Tryd.Builder_WriteRune_k w2.heap.size w2.heap.size _ (q : Int) (by omega) (by omega) _ hst7.out.2.1 hl4.out hst7.out.1.size).mono ?_
              rintro e w5 ⟨rfl, hB5, hb5, -⟩
              have hst5 := Lib.hid (MapSt.put hst7.out hr'.out hm.out hso'.out hB5 hb5 rfl)
              clear hB5 hb5 hst7
              go_wp2_with fail
              go_roundw
              case rel => exact ⟨k + 1, by omega, by go_num, hst5.out⟩
              case measure => simp [intOf]; omega
      · have hall : l.take k = l := List.take_of_length_le (by rw [← hn'.out]; omega)
        have hst2 := hst.out
        rw [show k = n by omega] at hst2
        unfold MapSt at hst2
        rw [show l.take n = l from List.take_of_length_le (by rw [← hn'.out]; omega)] at hst2
        have hb0 := Lib.hid hst2.1
        have hB' := Lib.hid hst2.2.1
        obtain ⟨T, hT⟩ : ∃ T, T = textL (mapL fold l) := ⟨_, rfl⟩
        rw [← hT] at hB'
        have hP2 : Hid (mapP fold s = (⟨T.toArray⟩, 0)) := by
          show _ = _
          rw [hP.out, hT]
        clear hst hst2 hall hT
        go_wp2_with fail
        refine (Tryd.Builder_String_any_f _ _ _ _ hB'.out hb0.out.size).mono ?_
        rintro e w3 ⟨rfl, hx⟩
        have hb3 := Lib.hid hx.2
        clear hx
        go_wp2_with fail
        go_ret2
        rw [hP2.out]
        exact ⟨rfl, hb2'.out.trans ((hb0.out.trans hb3.out).mono hb2'.out.size)⟩
end Go.Proofs.YtcoddeemfdnjpaaDoor.PrepPlain
