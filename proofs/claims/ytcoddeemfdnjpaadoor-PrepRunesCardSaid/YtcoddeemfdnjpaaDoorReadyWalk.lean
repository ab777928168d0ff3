/- The walks of prep.Ready, Phone, Same, and of the examples. -/
import Derived.Test.YtcoddeemfdnjpaaDoorMapWalk
import Derived.Lib.SplitLaws
namespace Go.Proofs.YtcoddeemfdnjpaaDoor.PrepPlain
open Go.RowKit
open Go.Proofs.YtcoddeemfdnjpaaDoorW.PrintMore
open Go.Proofs.YtcoddeemfdnjpaaDoorW.PrintWords hiding nums nums_length nums_append
/-- a text's pieces between blanks -/
def pieces (s : ByteArray) : List ByteArray := Lib.splitB ⟨#[32]⟩ 0 (Lib.countB s ⟨#[32]⟩) s
theorem pieces_length (s : ByteArray) : (pieces s).length = Lib.countB s ⟨#[32]⟩ + 1 := Lib.splitB_all ⟨#[32]⟩ (by decide) 0 _ s rfl
theorem pieces_le (s : ByteArray) : (pieces s).length ≤ s.size + 2 := by
  rw [pieces_length]
  exact Nat.succ_le_succ (Lib.count_le s.data.toList [32])
/-- is it a word? -/
def wordB (x : ByteArray) : Bool := decide (x.data.toList ≠ [])
theorem pieces_words (s : ByteArray) : ((pieces s).filter wordB).map (·.data.toList) = words (32 : UInt8) s.data.toList := by
  rw [words_split]
  have e : (pieces s).map (·.data.toList) = Lib.split s.data.toList [32] := Lib.splitB_data _ _ _ _
  rw [← e]
  rw [List.filter_map]
  rfl
theorem split_any (s : ByteArray) (m : Int) (w : World) (hs : s.size ≤ 100000) (hm : w.cell? ⟨1, 0, none⟩ = some (.int .i64 m)) :
    Calls Tryd.prog 95 #[.string s, .string ⟨#[32]⟩] w fun e w' => e = .returned (.slice (some ⟨w.heap.size, 0, none⟩) (pieces s).length (pieces s).length) ∧ w' = w.alloc (.cells ((pieces s).map Value.string).toArray 9) := by
  rw [pieces_length]
  exact Tryd.strings_Split s ⟨#[32]⟩ m w (by omega) hm (by decide)
theorem below_cell1 {w w' : World} {m : Int} (hm : w.cell? ⟨1, 0, none⟩ = some (.int .i64 m)) (hb : Below w.heap.size w w') : w'.cell? ⟨1, 0, none⟩ = some (.int .i64 m) := by
  have hpos : 1 < w.heap.size := by
    rcases Nat.lt_or_ge 1 w.heap.size with hz | hz
    · exact hz
    · simp [World.cell?, Array.getElem?_eq_none hz] at hm
  rw [hb.cell (p := ⟨1, 0, none⟩) hpos]; exact hm
/-- what a call of Ready tells, and of Phone -/
def toP (o : Option (List UInt8)) : ByteArray × Int := match o with
  | none => (⟨#[]⟩, 19)
  | some t => (⟨t.toArray⟩, 0)
theorem mapP_toP (fold : Bool) (s : ByteArray) : mapP fold s = toP (mapT fold s.data.toList) := by
  unfold mapP toP
  cases mapT fold s.data.toList <;> rfl
theorem map_length {fold : Bool} {s t : List UInt8} (h : mapT fold s = some t) : t.length ≤ s.length := by
  unfold mapT at h
  rw [Option.map_eq_some_iff] at h
  obtain ⟨l, hl, rfl⟩ := h
  obtain ⟨hok, rfl⟩ := (runesL_iff _ _).1 hl
  exact text_len_map fold l hok
theorem ready_length {fold : Bool} {s t : List UInt8} (h : readyT fold s = some t) : t.length ≤ s.length := (once fold s t h).2.1
theorem joinW_le (t : List UInt8) : (joinW 32 (words 32 t)).length ≤ t.length := (joinW_words_sub 32 t).length_le
/-- the words so far -/
def WordSt (P : List ByteArray) (w3 : World) (k : Nat) (v : Value) (wr : World) : Prop :=
  Below w3.heap.size w3 wr ∧ Kd.R Kd.string 9 wr w3.heap.size (fun _ => True) v ((P.take k).filter wordB)
theorem word_snoc (P : List ByteArray) (k : Nat) (x : ByteArray) (h : P[k]? = some x) : (P.take (k + 1)).filter wordB = (P.take k).filter wordB ++ (if wordB x = true then [x] else []) := by
  rw [List.take_add_one, h, List.filter_append]
  congr 1
  show [x].filter wordB = _
  rw [List.filter_cons]
  split <;> rfl
set_option maxHeartbeats 2000000 in
set_option maxRecDepth 100000 in
theorem ready_any (s : ByteArray) (fold : Bool) (m : Int) (w : World) (hs : s.size ≤ 100000) (hm : w.cell? ⟨1, 0, none⟩ = some (.int .i64 m)) :
    Calls Tryd.prog 70 #[.string s, .bool fold] w fun e w' => e = .returned (.tuple #[.string (toP (readyT fold s.data.toList)).1, .int .i64 (toP (readyT fold s.data.toList)).2]) ∧ Below w.heap.size w w' := by
  have hm' := Lib.hid hm
  have hma : Hid (∀ v : World, Calls Tryd.prog 68 #[.string s, .bool fold] v fun e w' => e = .returned (.tuple #[.string (toP (mapT fold s.data.toList)).1, .int .i64 (toP (mapT fold s.data.toList)).2]) ∧ Below v.heap.size v w') := by
    intro v
    rw [← mapP_toP]
    exact map_any s fold v hs
  clear hm
  cases hr : mapT fold s.data.toList with
  | none =>
    have hP := Lib.hid (ready_none fold _ hr)
    rw [hr] at hma
    clear hr
    rw [hP.out]
    go_enter Tryd.func70, Tryd.ntmps70
    go_wp2_with fail
    refine (hma.out _).mono ?_
    rintro e w2 ⟨rfl, hb2⟩
    have hb2' := Lib.hid hb2
    clear hb2
    go_wp2
    go_ret2
    exact ⟨rfl, hb2'.out⟩
  | some t =>
    have hP := Lib.hid (ready_of_map fold _ _ hr)
    have htl := map_length hr
    have hs2 : s.data.toList.length = s.size := rfl
    rw [hr] at hma
    clear hr
    rw [hP.out]
    obtain ⟨T, hT⟩ : ∃ T : ByteArray, T = ⟨t.toArray⟩ := ⟨_, rfl⟩
    have hTt : T.data.toList = t := by rw [hT]
    have hTs : T.size ≤ 100000 := by
      have h3 : T.data.toList.length = T.size := rfl
      rw [hTt] at h3
      omega
    have hmb : Hid (∀ v : World, Calls Tryd.prog 68 #[.string s, .bool fold] v fun e w' => e = .returned (.tuple #[.string T, .int .i64 0]) ∧ Below v.heap.size v w') := by
      intro v
      have h := hma.out v
      have e : toP (some t) = (T, 0) := by rw [hT]; rfl
      rw [e] at h
      exact h
    obtain ⟨out, hout⟩ : ∃ out : ByteArray, out = ⟨(joinW 32 (words 32 t)).toArray⟩ := ⟨_, rfl⟩
    have hpost : toP (some (joinW (32 : UInt8) (words 32 t))) = (out, 0) := by rw [hout]; rfl
    rw [hpost]
    have hsp : Hid (∀ v : World, v.cell? ⟨1, 0, none⟩ = some (.int .i64 m) → Calls Tryd.prog 95 #[.string T, .string ⟨#[32]⟩] v fun e w' => e = .returned (.slice (some ⟨v.heap.size, 0, none⟩) (pieces T).length (pieces T).length) ∧ w' = v.alloc (.cells ((pieces T).map Value.string).toArray 9)) := fun v hv => split_any T m v hTs hv
    have hpw := pieces_words T
    rw [hTt] at hpw
    have hpl := pieces_le T
    obtain ⟨P, hPP⟩ : ∃ P, P = pieces T := ⟨_, rfl⟩
    rw [← hPP] at hsp hpw hpl
    obtain ⟨n, hn⟩ : ∃ n, P.length = n := ⟨_, rfl⟩
    rw [hn] at hsp hpl
    have hn' := Lib.hid hn
    have hpw' := Lib.hid hpw
    have hout' := Lib.hid hout
    have hjl : Hid ((joinW (32 : UInt8) (words 32 t)).length ≤ 140737488355328) := by
      have h1 := joinW_le t
      show _ ≤ _
      omega
    clear hma hT hTt hout hpost hpw hPP hn htl hs2
    go_enter Tryd.func70, Tryd.ntmps70
    go_wp2_with fail
    refine (hmb.out _).mono ?_
    rintro e w2 ⟨rfl, hb2⟩
    have hm2 := Lib.hid (below_cell1 hm'.out hb2)
    have hb2' := Lib.hid hb2
    clear hb2
    go_wp2_with fail
    refine (hsp.out _ hm2.out).mono ?_
    rintro e w3 ⟨rfl, hw3⟩
    have hcell3 : Hid (∀ (j : Nat) x, P[j]? = some x → w3.cell? ⟨w2.heap.size, j, none⟩ = some (.string x)) := by
      intro j x hx
      rw [hw3]
      simp [World.alloc, -World.alloc_eq, World.cell?, hx]
    have hlt3 : w2.heap.size < w3.heap.size := by rw [hw3]; simp [World.alloc, -World.alloc_eq]
    have hb3' : Hid (Below w.heap.size w w3) := by
      show Below _ _ _
      rw [hw3]
      exact hb2'.out.alloc (Below.size hb2'.out) _
    clear hw3 hb2'
    go_wp2_with fail
    go_loopw [8, 23] (fun v i wr => ∃ k : Nat, k ≤ n ∧ i = .int .i64 k ∧ Hid (WordSt P w3 k v wr)) (fun _ i _ => n - (intOf i).toNat)
    case atStart => exact ⟨0, by omega, rfl, Below.refl _ _, Kd.R_nil _ _ _ _ _⟩
    case round =>
      obtain ⟨k, hk, rfl, hst⟩ := hrel
      obtain ⟨A, c, rfl⟩ := Kd.R_slice hst.out.2
      by_cases hlt : k < n
      · obtain ⟨x, hx⟩ : ∃ x, P[k]? = some x := ⟨P[k]'(by rw [hn'.out]; exact hlt), List.getElem?_eq_getElem _⟩
        have hcell : wr.cell? ⟨w2.heap.size, k, none⟩ = some (.string x) := by
          rw [hst.out.1.cell (p := ⟨w2.heap.size, k, none⟩) hlt3]
          exact hcell3.out k x hx
        have hsn := word_snoc P k x hx
        obtain ⟨L, hL⟩ : ∃ L, L = (P.take k).filter wordB := ⟨_, rfl⟩
        have hRL := hst.out.2
        rw [← hL] at hRL hsn ⊢
        have hRL' := Lib.hid hRL
        have hbr := Lib.hid hst.out.1
        have hLn : Hid ((L.length + 1) * 16 ≤ 140737488355328) := by
          have h1 : L.length ≤ (P.take k).length := by rw [hL]; exact List.length_filter_le _ _
          have h2 : (P.take k).length ≤ k := by rw [List.length_take]; omega
          show _ ≤ _
          omega
        by_cases hw : wordB x = true
        · rw [if_pos hw] at hsn
          have hsn' := Lib.hid hsn
          have he : x.toList.isEmpty = false := by
            unfold wordB at hw
            have := of_decide_eq_true hw
            rw [Lib.toList_data]
            cases hc : x.data.toList with
            | nil => exact absurd hc this
            | cons _ _ => rfl
          clear hsn hw hRL hst hx hL
          go_wp2_with (at_builtin; refine Kd.R_append Kd.string (w0 := w3) w3.heap.size rfl (.tmp 29) (.tmp 31) 62 9 (.string ⟨#[]⟩) 16 rfl Tryd.underlying62 Fn.info9 rfl (by decide) (by omega) (.slice A L.length c) L x [.string x] (fun _ => True) (fun _ => False) rfl rfl ?aP (fun _ hk => hk.elim) ?aF ?aO ?aB ?aS ?aL ?_; (case aP => exact rfl); (case aB => exact hbr.out); (case aF => exact (fun _ _ => trivial)); (case aO => exact hRL'.out); (case aS => exact hbr.out.size); (case aL => exact hLn.out); intro v4 w4 ho hb hg hat; have ho' := Lib.hid ho; have hb4' := Lib.hid hb; clear ho hb hg hat)
          go_roundw
          case rel =>
            refine ⟨k + 1, by omega, by go_num, hb4'.out, ?_⟩
            rw [hsn'.out]
            exact ho'.out
          case measure => simp [intOf]; omega
        · rw [if_neg hw, List.append_nil] at hsn
          have hsn' := Lib.hid hsn
          have he : x.toList.isEmpty = true := by
            unfold wordB at hw
            have : x.data.toList = [] := Decidable.byContradiction fun h => hw (decide_eq_true h)
            rw [Lib.toList_data, this]
            rfl
          clear hsn hw hRL hst hx hL
          go_wp2_with fail
          go_roundw
          case rel =>
            refine ⟨k + 1, by omega, by go_num, hbr.out, ?_⟩
            rw [hsn'.out]
            exact hRL'.out
          case measure => simp [intOf]; omega
      · have hall : P.take k = P := List.take_of_length_le (by rw [hn'.out]; omega)
        have hRL := hst.out.2
        rw [hall] at hRL ⊢
        have hbr := Lib.hid hst.out.1
        obtain ⟨L, hL⟩ : ∃ L, L = P.filter wordB := ⟨_, rfl⟩
        rw [← hL] at hRL ⊢
        have hLw : Hid ((Lib.join (L.map (·.data.toList)) [32]) = joinW (32 : UInt8) (words 32 t)) := by
          show _ = _
          rw [hL, hpw'.out, join_is]
        have hLn : L.length ≤ 100002 := by
          have h1 : L.length ≤ P.length := by rw [hL]; exact List.length_filter_le _ _
          rw [hn'.out] at h1
          omega
        have hRL' := Lib.hid hRL
        have hbt := Lib.hid (hb3'.out.trans (hbr.out.mono hb3'.out.size))
        clear hst hall hRL hL
        by_cases h0 : L = []
        · have hj : Hid (out = ⟨#[]⟩) := by
            show _ = _
            rw [hout'.out, ← hLw.out, h0]
            rfl
          subst h0
          have hjn : Hid (∀ v : World, Calls Tryd.prog 96 #[.slice A 0 c, .string ⟨#[32]⟩] v fun e w' => e = .returned (.string ⟨#[]⟩) ∧ w' = v) := fun v => Tryd.strings_Join_none A c _ v
          go_wp2_with fail
          refine (hjn.out _).mono ?_
          rintro e w5 ⟨rfl, rfl⟩
          go_wp2_with fail
          go_ret2
          rw [hj.out]
          exact ⟨rfl, hbt.out⟩
        · have hpos : 0 < L.length := by
            cases L with
            | nil => exact absurd rfl h0
            | cons _ _ => simp
          obtain ⟨g, cap, hv, -, hgl, -⟩ := Kd.R_form hRL'.out hpos
          injection hv with e1 e2 e3
          subst e1
          clear e2 e3
          obtain ⟨-, hcc, hC⟩ := Kd.R_reads' hRL'.out
          have hjo : Hid (Calls Tryd.prog 96 #[.slice (some ⟨g, 0, none⟩) L.length c, .string ⟨#[32]⟩] wr fun e w' => e = .returned (.string out) ∧ Below wr.heap.size wr w') := by
            have h := Tryd.strings_Join g 0 c L ⟨#[32]⟩ wr (by
              intro j x hx
              obtain ⟨ad, had, hcl⟩ := Kd.at_string hC (j : Int) (by omega) (by have := (List.getElem?_eq_some_iff.1 hx).1; omega)
              injection had with had
              subst had
              have hrd : rdOf ByteArray.empty L (j : Int) = x := by
                simp only [rdOf, Int.toNat_natCast, List.getD_eq_getElem?_getD, hx, Option.getD_some]
              rw [hrd, Int.toNat_natCast, Addr.add_lit] at hcl
              exact hcl) hgl (by omega) hcc (by
              show (Lib.join _ [32]).length ≤ _
              rw [hLw.out]
              exact hjl.out)
            have e : (⟨(Lib.join (L.map (·.data.toList)) (⟨#[32]⟩ : ByteArray).data.toList).toArray⟩ : ByteArray) = out := by
              rw [hout'.out, ← hLw.out]
            rw [e] at h
            exact h
          clear hC hcc hgl h0
          go_wp2_with fail
          refine hjo.out.mono ?_
          rintro e w5 ⟨rfl, hb5⟩
          have hb5' := Lib.hid (hbt.out.trans (hb5.mono hbt.out.size))
          clear hb5
          go_wp2_with fail
          go_ret2
          exact ⟨rfl, hb5'.out⟩
end Go.Proofs.YtcoddeemfdnjpaaDoor.PrepPlain
