/- The walk of field.Tuple: a list of parts laid as one text, or refused. -/
import Derived.Test.YtcoddeemfdnjpaaDoorShelf
import Derived.Test.YtcoddeemfdnjpaaDoorTextPlain
import Derived.Test.YtcoddeemfdnjpaaDoorTakeWalk
import Derived.Test.YtcoddeemfdnjpaaDoorFnBase
import Derived.Lib.OthersKept
namespace Go.Proofs.YtcoddeemfdnjpaaDoor
open Go.RowKit CrcPlain TextPlain Go.Proofs.YtcoddeemfdnjpaaDoorW.PrintWords
def lists (l : List ByteArray) : List (List UInt8) := l.map (·.data.toList)
def tupleF (l : List ByteArray) : ByteArray × Int :=
  if 16 < l.length then (⟨#[]⟩, 1) else if 4096 < (tupL (lists l)).length then (⟨#[]⟩, 5) else (⟨(tupL (lists l)).toArray⟩, 0)
theorem builderAt_below {T e : TypeId} {B b : Nat} {p : Value} {bs : List Value} {W W' : World} (h : Lib.BuilderAtF T e B b p bs W) (hb : Below W.heap.size W W') : Lib.BuilderAtF T e B b p bs W' := by
  have hlt := h.lt
  obtain ⟨hB, v, hv, hown, hne⟩ := h
  exact ⟨hB, v, (hb.block b hlt).trans hv, hown.kept (row := none) ⟨hb.os, hb.tape, hb.output, hb.size, fun k hk _ => hb.block k hk⟩ (Classical.em _), hne⟩
theorem builder_below {T e : TypeId} {B b : Nat} {bs : List Value} {W W' : World} (h : Lib.IsBuilderF T e B b bs W) (hb : Below W.heap.size W W') : Lib.IsBuilderF T e B b bs W' :=
  h.elim (fun x => .inl (builderAt_below x hb)) (fun x => .inr (builderAt_below x hb))
theorem cells1 (l : List UInt8) (p : List UInt8) : Lib.byteCells l ++ Lib.strCells ⟨p.toArray⟩ = Lib.byteCells (l ++ p) := by simp [Lib.byteCells, Lib.strCells]
theorem rd_lists (l : List ByteArray) (k : Nat) (h : k < l.length) : (lists l).take (k + 1) = (lists l).take k ++ [(rdOf ByteArray.empty l (k : Int)).data.toList] := by
  rw [List.take_succ_eq_append_getElem (by simpa [lists] using h)]
  simp [lists, rdOf, List.getD_eq_getElem?_getD, List.getElem?_eq_getElem h]
theorem rd_mem (l : List ByteArray) (k : Nat) (h : k < l.length) : (rdOf ByteArray.empty l (k : Int)).data.toList ∈ lists l := by
  simp only [lists, rdOf, Int.toNat_natCast, List.getD_eq_getElem?_getD, List.getElem?_eq_getElem h, Option.getD_some]
  exact List.mem_map.2 ⟨_, List.getElem_mem h, rfl⟩
theorem tuple_long (l : List ByteArray) (h16 : l.length ≤ 16) (h : 4096 < (tupL (lists l)).length) : tupleF l = (⟨#[]⟩, 5) := by
  unfold tupleF; rw [if_neg (by omega), if_pos h]
theorem tuple_fits (l : List ByteArray) (h16 : l.length ≤ 16) (h : ¬ 4096 < (tupL (lists l)).length) : tupleF l = (⟨(tupL (lists l)).toArray⟩, 0) := by
  unfold tupleF; rw [if_neg (by omega), if_neg h]
/-- what the builder holds behind k parts -/
def Built (l : List ByteArray) (w : World) (k : Nat) (wr : World) : Prop := Below w.heap.size w wr ∧ Lib.IsBuilderF 93 5 w.heap.size w.heap.size (Lib.byteCells (tupL ((lists l).take k))) wr ∧ (tupL ((lists l).take k)).length ≤ 8194 * k
theorem fresh_builder (w : World) : Lib.IsBuilderF 93 5 w.heap.size w.heap.size (Lib.byteCells []) (w.alloc (.cells #[.pointer none, .slice none 0 0] 93)) :=
  .inl ⟨Nat.le_refl _, .slice none 0 0, by simp [World.alloc, -World.alloc_eq], World.ownsRowF_nil _ _ _ _, by simp [Value.ownBlock]⟩
set_option maxHeartbeats 400000 in
set_option maxRecDepth 100000 in
theorem tuple_go (A : Option Addr) (c : Nat) (l : List ByteArray) (m : Int) (w : World) (hr : Kd.C Kd.string w A l.length l) (_hc : l.length ≤ c) (hm : w.cell? ⟨1, 0, none⟩ = some (.int .i64 m)) (h16 : l.length ≤ 16) :
    Calls Tryd.prog 55 #[.slice A l.length c] w fun e w' => e = .returned (.tuple #[.string (tupleF l).1, .int .i64 (tupleF l).2]) ∧ Below w.heap.size w w' := by
  have hr' := Lib.hid hr
  have hm' := Lib.hid hm
  clear hr hm
  obtain ⟨n, hn⟩ : ∃ n, l.length = n := ⟨_, rfl⟩
  rw [hn] at h16 _hc
  have hn' := Lib.hid hn
  rw [hn]
  clear hn
  go_enter Tryd.func55, Tryd.ntmps55
  go_wp2_with fail
  go_loopw [12] (fun i wr => ∃ k : Nat, k ≤ n ∧ i = .int .i64 k ∧ Built l w k wr) (fun i _ => n - (intOf i).toNat)
  case atStart => exact ⟨0, by omega, rfl, (Below.refl _ _).alloc (Nat.le_refl _) _, fresh_builder w, by simp [tupL]⟩
  case round =>
    obtain ⟨k, hk, rfl, hst⟩ := hrel
    by_cases hlt : k < n
    · have hC := Kd.C_below hr'.out hst.1
      rw [hn'.out] at hC
      obtain ⟨ad, rfl, hcell⟩ := Kd.at_string hC (k : Int) (by omega) (by omega)
      obtain ⟨p, hp⟩ : ∃ p, p = rdOf ByteArray.empty l (k : Int) := ⟨_, rfl⟩
      rw [← hp, Int.toNat_natCast] at hcell
      have hp' := Lib.hid hp
      clear hp hC
      by_cases hbig : 4096 < p.size
      · have hfin : tupleF l = (⟨#[]⟩, 5) := by
          refine tuple_long l (by rw [hn'.out]; omega) ?_
          have h1 := tupL_le (lists l) p.data.toList (by rw [hp'.out]; exact rd_mem l k (by rw [hn'.out]; exact hlt))
          have h2 : p.data.toList.length = p.size := Lib.size_eq p
          omega
        have hfin' := Lib.hid hfin
        have hbel := Lib.hid hst.1
        clear hfin hst
        go_wp2_with fail
        go_ret2
        rw [hfin'.out]
        exact ⟨rfl, hbel.out⟩
      · have hb0 := Lib.hid hst.1
        have hB := Lib.hid hst.2.1
        have hL := Lib.hid hst.2.2
        have hmr : wr.cell? ⟨1, 0, none⟩ = some (.int .i64 m) := by
          have hpos : 1 < w.heap.size := by
            have := hm'.out
            rcases Nat.lt_or_ge 1 w.heap.size with hz | hz
            · exact hz
            · simp [World.cell?, Array.getElem?_eq_none hz] at this
          rw [hb0.out.cell (p := ⟨1, 0, none⟩) hpos]; exact hm'.out
        have hmr' := Lib.hid hmr
        clear hst hmr
        have hcnt : Hid (p.size + Lib.countB p ⟨#[0]⟩ * 2 ≤ 140737488355328) := by
          have := Lib.count_le p.data.toList [0]
          have h2 : p.data.toList.length = p.size := Lib.size_eq p
          show p.size + Lib.count p.data.toList [0] * 2 ≤ _
          omega
        go_wp2_with fail
        refine (Tryd.strings_ReplaceAll _ _ _ m _ (by omega) hmr'.out (by decide) hcnt.out).mono ?_
        rintro e w2 ⟨rfl, hb2⟩
        rw [show (⟨#[0]⟩ : ByteArray).data.toList = [0] from rfl, show (⟨#[0, 255]⟩ : ByteArray).data.toList = [0, 255] from rfl, rep_esc]
        have hb2' := Lib.hid hb2
        clear hb2
        go_wp2_with fail
        refine (Tryd.Builder_WriteString_k w.heap.size w.heap.size _ _ _ (builder_below hB.out hb2'.out) ?_ ?_).mono ?_
        · have h1 := hL.out
          have h2 : p.data.toList.length = p.size := Lib.size_eq p
          have h3 := escL_length p.data.toList
          have h4 := List.count_le_length (a := (0 : UInt8)) (l := p.data.toList)
          have h5 : (⟨(escL p.data.toList).toArray⟩ : ByteArray).size = (escL p.data.toList).length := by show Array.size _ = _; simp
          rw [Lib.byteCells_length, h5]
          omega
        · have h1 := hb0.out.size
          have h2 := hb2'.out.size
          omega
        rintro e w3 ⟨rfl, hB3, hb3, -⟩
        rw [cells1] at hB3
        have hB3' := Lib.hid hB3
        have hb3' := Lib.hid hb3
        clear hB3 hb3
        go_wp2_with fail
        refine (Tryd.Builder_WriteString_k w.heap.size w.heap.size _ _ _ (.inr hB3'.out) ?_ ?_).mono ?_
        · have h1 := hL.out
          have h2 : p.data.toList.length = p.size := Lib.size_eq p
          have h3 := escL_length p.data.toList
          have h4 := List.count_le_length (a := (0 : UInt8)) (l := p.data.toList)
          rw [Lib.byteCells_length, List.length_append, show (⟨#[0, 1]⟩ : ByteArray).size = 2 from rfl]
          omega
        · have h1 := hb0.out.size
          have h2 := hb2'.out.size
          have h3 := hb3'.out.size
          omega
        rintro e w4 ⟨rfl, hB4, hb4, -⟩
        have hnew : Hid (Built l w (k + 1) w4) := by
          have e1 : tupL ((lists l).take (k + 1)) = tupL ((lists l).take k) ++ (escL p.data.toList ++ [0, 1]) := by
            rw [rd_lists l k (by rw [hn'.out]; exact hlt), tupL_snoc, hp'.out]
          refine ⟨((hb0.out.trans (hb2'.out.mono ?_)).trans hb3'.out).trans hb4, ?_, ?_⟩
          · have h1 := hb0.out.size; omega
          · rw [e1]
            have e2 := cells1 (tupL ((lists l).take k) ++ escL p.data.toList) [0, 1]
            rw [show (⟨[(0 : UInt8), 1].toArray⟩ : ByteArray) = ⟨#[0, 1]⟩ from rfl] at e2
            rw [e2, List.append_assoc] at hB4
            exact .inr hB4
          · have h1 := hL.out
            have h2 : p.data.toList.length = p.size := Lib.size_eq p
            have h3 := escL_length p.data.toList
            have h4 := List.count_le_length (a := (0 : UInt8)) (l := p.data.toList)
            rw [e1]
            simp only [List.length_append, List.length_cons, List.length_nil]
            omega
        clear hB4 hb4
        go_wp2_with fail
        go_roundw
        case rel => exact ⟨k + 1, by omega, by go_num, hnew.out⟩
        case measure => simp [intOf]; omega
    · have hall : (lists l).take k = lists l := List.take_of_length_le (by simp only [lists, List.length_map]; rw [hn'.out]; omega)
      have hb0 := Lib.hid hst.1
      have hB := hst.2.1
      rw [hall] at hB
      have hB' := Lib.hid hB
      clear hst hB
      obtain ⟨T, hT⟩ : ∃ T, T = tupL (lists l) := ⟨_, rfl⟩
      rw [← hT] at hB'
      have hTl := Lib.hid hT
      clear hT
      go_wp2_with fail
      refine (Tryd.Builder_Len_f _ _ _ _ hB'.out).mono ?_
      rintro e w2 ⟨rfl, rfl⟩
      rw [Lib.byteCells_length]
      by_cases hbig : 4096 < T.length
      · have hfin := Lib.hid (tuple_long l (by rw [hn'.out]; omega) (by rw [← hTl.out]; exact hbig))
        go_wp2_with fail
        go_ret2
        rw [hfin.out]
        exact ⟨rfl, hb0.out⟩
      · have hfin := Lib.hid (tuple_fits l (by rw [hn'.out]; omega) (by rw [← hTl.out]; exact hbig))
        go_wp2_with fail
        refine (Tryd.Builder_String_any_f _ _ _ _ hB'.out hb0.out.size).mono ?_
        rintro e w3 ⟨rfl, hx⟩
        have hb3 := Lib.hid hx.2
        clear hx
        go_wp2_with fail
        go_ret2
        rw [hfin.out, ← hTl.out]
        exact ⟨rfl, hb0.out.trans hb3.out⟩
set_option maxHeartbeats 400000 in
set_option maxRecDepth 100000 in
theorem tuple_many (A : Option Addr) (c n : Nat) (w : World) (h16 : 16 < n) :
    Calls Tryd.prog 55 #[.slice A n c] w fun e w' => e = .returned (.tuple #[.string ⟨#[]⟩, .int .i64 1]) ∧ Below w.heap.size w w' := by
  go_enter Tryd.func55, Tryd.ntmps55
  go_wp2
  go_ret2
  exact ⟨rfl, Below.refl _ _⟩
/-- field.Tuple, whatever it is handed. -/
theorem tuple_any (A : Option Addr) (c : Nat) (l : List ByteArray) (m : Int) (w : World) (hr : Kd.C Kd.string w A l.length l) (hc : l.length ≤ c) (hm : w.cell? ⟨1, 0, none⟩ = some (.int .i64 m)) :
    Calls Tryd.prog 55 #[.slice A l.length c] w fun e w' => e = .returned (.tuple #[.string (tupleF l).1, .int .i64 (tupleF l).2]) ∧ Below w.heap.size w w' := by
  by_cases h : 16 < l.length
  · have e : tupleF l = (⟨#[]⟩, 1) := if_pos h
    rw [e]
    exact tuple_many A c l.length w h
  · exact tuple_go A c l m w hr hc hm (by omega)
end Go.Proofs.YtcoddeemfdnjpaaDoor
