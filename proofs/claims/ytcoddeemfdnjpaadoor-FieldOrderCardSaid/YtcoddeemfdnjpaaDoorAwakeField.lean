/- The walk of the chapter's examples: Tuple, Put and After at what the law hands them. -/
import Derived.Test.YtcoddeemfdnjpaaDoorTupleWalk
import Derived.Test.YtcoddeemfdnjpaaDoorFn48
namespace Go.Proofs.YtcoddeemfdnjpaaDoor
open Go.RowKit CrcPlain TextPlain Go.Proofs.YtcoddeemfdnjpaaDoorW.PrintWords
theorem suf_yes : Lib.hasSuffix [97, 255] [255] = true := by decide
theorem suf_no : Lib.hasSuffix [97] [255] = false := by decide
set_option maxHeartbeats 400000 in
set_option maxRecDepth 100000 in
theorem after_awake (w : World) :
    Calls Tryd.prog 82 #[.string ⟨#[97, 255]⟩] w fun e w' => e = .returned (.tuple #[.string ⟨#[98]⟩, .bool true]) ∧ Below w.heap.size w w' := by
  go_enter Tryd.func82, Tryd.ntmps82
  go_wp2
  go_loop [0] (fun v => v = .string ⟨#[97, 255]⟩ ∨ v = .string ⟨#[97]⟩) (fun v => match v with | .string s => s.size | _ => 0)
  case atStart => exact .inl rfl
  case round =>
    rcases hrel with rfl | rfl
    · go_wp2_with fail
      refine (Tryd.strings_HasSuffix _ _ _ (by decide)).mono ?_
      rintro e w2 ⟨rfl, rfl⟩
      rw [show (⟨#[97, 255]⟩ : ByteArray).data.toList = [97, 255] from rfl, show (⟨#[255]⟩ : ByteArray).data.toList = [255] from rfl, suf_yes]
      have ex : (({ data := #[97, 255] } : ByteArray).extract 0 1) = ⟨#[97]⟩ := by decide
      go_wp2
      exact ⟨.inr rfl, by decide⟩
    · go_wp2_with fail
      refine (Tryd.strings_HasSuffix _ _ _ (by decide)).mono ?_
      rintro e w2 ⟨rfl, rfl⟩
      rw [show (⟨#[97]⟩ : ByteArray).data.toList = [97] from rfl, show (⟨#[255]⟩ : ByteArray).data.toList = [255] from rfl, suf_no]
      have hcv : (convert 28 9 (.slice (some ⟨w2.heap.size, 0, none⟩) 1 1)).run Tryd.prog ((w2.alloc (.cells #[.int .u8 ((((({ data := #[97] } : ByteArray)[0]).toNat : Int) + 1) % 256)] 5)).drew) = .ok (.string ⟨#[98]⟩) ((w2.alloc (.cells #[.int .u8 ((((({ data := #[97] } : ByteArray)[0]).toNat : Int) + 1) % 256)] 5)).drew) := by
        refine run_convert_bytes_arg (P := Tryd.prog) _ 28 5 Tryd.underlying28 Tryd.underlying5 w2.heap.size 0 1 1 [98] rfl ?_ 9 Tryd.underlying9
        intro i hi
        obtain rfl : i = 0 := by omega
        simp [World.cell?, World.alloc, World.drew, -World.alloc_eq, -World.drew_eq]
        decide
      go_wp2
      go_region
      go_wp2
      go_ret2
      exact ⟨rfl, ((Below.refl _ _).alloc (Nat.le_refl _) _).drew⟩
/-- a row of texts, out of its cells -/
theorem strRow (w : World) (ad : Addr) (l : List ByteArray) (hn : l.length ≤ 9223372036854775807) (h : ∀ i x, l[i]? = some x → w.cell? (ad.add i) = some (.string x)) : Kd.C Kd.string w (some ad) l.length l := by
  refine ⟨rfl, hn, fun _ => ⟨ad, rfl, fun j p hj => ⟨[.string p], rfl, rfl, fun i u hi => ?_⟩⟩⟩
  match i with
  | 0 =>
    simp only [List.getElem?_cons_zero, Option.some.injEq] at hi
    subst hi
    show w.cell? (ad.add (j * 1 + 0)) = _
    rw [show j * 1 + 0 = j by omega]
    exact h j p hj
  | i + 1 => simp at hi
theorem put_awake : Fn.field_Put.f 10 ⟨#[120]⟩ 258 2 = some (⟨#[120, 1, 2]⟩, 0) := by decide +kernel
theorem tuple_awake : tupleF [⟨#[97]⟩, ⟨#[]⟩] = (⟨#[97, 0, 1, 0, 1]⟩, 0) := by decide +kernel
set_option maxHeartbeats 400000 in
set_option maxRecDepth 100000 in
theorem awake01 (m : Int) (w : World) (hm : w.cell? ⟨1, 0, none⟩ = some (.int .i64 m)) :
    Calls Tryd.prog 47 #[] w fun e w' => e = .returned (.bool true) ∧ Below w.heap.size w w' := by
  have hm' := Lib.hid hm
  clear hm
  go_enter Tryd.func47, Tryd.ntmps47
  have hrow : Hid (Kd.C Kd.string (w.alloc (.cells #[.string ⟨#[97]⟩, .string ⟨#[]⟩] 9)) (some ⟨w.heap.size, 0, none⟩) 2 [⟨#[97]⟩, ⟨#[]⟩]) := by
    refine strRow _ _ [⟨#[97]⟩, ⟨#[]⟩] (by decide) (fun i x hx => ?_)
    match i with
    | 0 => simp at hx; subst hx; simp [Addr.add, World.cell?, World.alloc, -World.alloc_eq]
    | 1 => simp at hx; subst hx; simp [Addr.add, World.cell?, World.alloc, -World.alloc_eq]
    | i + 2 => simp at hx
  have hmr : Hid ((w.alloc (.cells #[.string ⟨#[97]⟩, .string ⟨#[]⟩] 9)).cell? ⟨1, 0, none⟩ = some (.int .i64 m)) := by
    have hpos : 1 < w.heap.size := by
      have := hm'.out
      rcases Nat.lt_or_ge 1 w.heap.size with hz | hz
      · exact hz
      · simp [World.cell?, Array.getElem?_eq_none hz] at this
    have hb : Below w.heap.size w (w.alloc (.cells #[.string ⟨#[97]⟩, .string ⟨#[]⟩] 9)) := (Below.refl _ _).alloc (Nat.le_refl _) _
    show _ = _
    rw [hb.cell (p := ⟨1, 0, none⟩) hpos]
    exact hm'.out
  have hb0 : Hid (Below w.heap.size w (w.alloc (.cells #[.string ⟨#[97]⟩, .string ⟨#[]⟩] 9))) := (Below.refl _ _).alloc (Nat.le_refl _) _
  go_wp2_with fail
  refine (tuple_any _ 2 [⟨#[97]⟩, ⟨#[]⟩] m _ hrow.out (by decide) hmr.out).mono ?_
  rintro e w2 ⟨rfl, hb2⟩
  rw [tuple_awake]
  have hb2' := Lib.hid hb2
  clear hb2
  go_wp2_with fail
  refine (Fn.field_Put.calls 10 _ _ _ _ _ _ put_awake).mono ?_
  rintro e w3 ⟨rfl, hb3⟩
  have hb3' := Lib.hid hb3
  clear hb3
  go_wp2_with fail
  refine (after_awake _).mono ?_
  rintro e w4 ⟨rfl, hb4⟩
  have hb4' := Lib.hid hb4
  clear hb4
  go_wp2
  go_ret
  refine ⟨rfl, ((hb0.out.trans (hb2'.out.mono ?_)).trans (hb3'.out.mono ?_)).trans (hb4'.out.mono ?_)⟩
  · have h1 := hb0.out.size; exact h1
  · have h1 := hb0.out.size; have h2 := hb2'.out.size; omega
  · have h1 := hb0.out.size; have h2 := hb2'.out.size; have h3 := hb3'.out.size; omega
end Go.Proofs.YtcoddeemfdnjpaaDoor
