/- The walk of prep.Runes. -/
import Derived.Test.YtcoddeemfdnjpaaDoorPrepDecode
import Derived.Test.YtcoddeemfdnjpaaDoorShelf
import Derived.Test.YtcoddeemfdnjpaaDoorFnBase
import Derived.Lib.OthersKept
import Derived.WalkSmall
import Derived.Lib.Hide
namespace Go.Proofs.YtcoddeemfdnjpaaDoor.PrepPlain
open Go.RowKit
open Go.Proofs.YtcoddeemfdnjpaaDoorW.PrintWords hiding nums nums_length nums_append
/-- what a call of Runes tells: the runes, the error -/
def runesP (s : ByteArray) : List Int × Int := match runesL s.data.toList with
  | none => ([], 19)
  | some l => (l.map Int.ofNat, 0)
theorem extract_list (s : ByteArray) (i : Nat) : (s.extract i s.size).data.toList = s.data.toList.drop i := Lib.extract_to_end s i
theorem iter_ne {W : World} {b : Nat} {v : Value} {xs : List Int} {base : Nat} (h : Kd.R (Kd.int .i32) 21 W base (fun k => k ≠ b) v xs) : some b ≠ v.ownBlock := fun e => h.1 b e.symm rfl
set_option maxHeartbeats 2000000 in
set_option maxRecDepth 100000 in
theorem runes_any (s : ByteArray) (w : World) (hs : s.size ≤ 100000) :
    Calls Tryd.prog 36 #[.string s] w fun e w' => ∃ v, e = .returned (.tuple #[v, .int .i64 (runesP s).2]) ∧ Kd.R (Kd.int .i32) 21 w' w.heap.size (fun _ => True) v (runesP s).1 ∧ Below w.heap.size w w' := by
  go_enter Tryd.func36, Tryd.ntmps36
  go_wp2_with fail
  go_loopw [4] (fun v wr => ∃ (pos : Nat) (acc : List Nat), Hid (wr.heap[w.heap.size]? = some (.stringIter s pos)) ∧ Hid (Below w.heap.size w wr ∧ Kd.R (Kd.int .i32) 21 wr w.heap.size (fun k => k ≠ w.heap.size) v (acc.map Int.ofNat) ∧ runesL s.data.toList = (runesL (s.data.toList.drop pos)).map (acc ++ ·) ∧ acc.length ≤ pos)) (fun _ wr => s.size - wr.iterPos w.heap.size)
  case atStart =>
    refine ⟨0, [], ?_, (Below.refl _ w).alloc (Nat.le_refl _) _, Kd.R_nil _ _ _ _ _, by rw [List.drop_zero]; cases runesL s.data.toList <;> rfl, Nat.le_refl _⟩
    have := World.iter_heap w s 0
    exact (by simpa using this : (w.iter s 0).heap[w.heap.size]? = some (.stringIter s 0))
  case round =>
    obtain ⟨pos, acc, hit, hst⟩ := hrel
    have hb0 := Lib.hid hst.out.1
    obtain ⟨L, hL⟩ : ∃ L, L = acc.map Int.ofNat := ⟨_, rfl⟩
    have hR0 := hst.out.2.1
    rw [← hL] at hR0
    have hR := Lib.hid hR0
    have hL' := Lib.hid hL
    have hLn : L.length = acc.length := by rw [hL, List.length_map]
    have hLn' := Lib.hid hLn
    have hru := Lib.hid hst.out.2.2.1
    have hlen := Lib.hid hst.out.2.2.2
    clear hst hL hLn hR0
    have hsz : w.heap.size < wr.heap.size := (Array.getElem?_eq_some_iff.1 hit.out).1
    by_cases hp : pos < s.size
    · cases ho : one (s.data.toList.drop pos) with
      | some q =>
        obtain ⟨v, n⟩ := q
        have ho' := Lib.hid ho
        have hdec := decode_some s pos v n ho
        have hen := enc_one ho
        have hn1 : 1 ≤ n := by have := (enc_length v).1; omega
        have hn2 : Hid (pos + n ≤ s.size) := by
          have h3 := congrArg List.length hen.2.2
          rw [List.length_append, List.length_drop, List.length_drop, ← hen.2.1] at h3
          have h4 : s.data.toList.length = s.size := rfl
          show _ ≤ _
          omega
        have hv1 : v ≤ 1114111 := hen.1.1
        have hnx : ∀ ty, (Instr.next (.pointer (some ⟨w.heap.size, 0, none⟩)) true ty).run Tryd.prog wr = .ok (.tuple #[.bool true, .int .i64 (pos : Int), .int .i32 (v : Int)]) (wr.iterAt w.heap.size s (pos + n)) := by
          intro ty
          rw [Lib.run_next_any_at wr w.heap.size s pos ty hit.out hp, hdec]
        have hstep := Lib.hid (runes_step ho)
        have hitW := Lib.hid (Lib.iterAt_heap wr w.heap.size s pos (pos + n) hit.out)
        have hbW := Lib.hid (Lib.below_iterAt hb0.out (k := w.heap.size) (Nat.le_refl _) s (pos + n))
        have hRW := Lib.hid (Kd.R_step hR.out (w1 := wr.iterAt w.heap.size s (pos + n)) (fun k hk _ => Lib.iterAt_other wr w.heap.size k s (pos + n) hk))
        have hszW : w.heap.size < (wr.iterAt w.heap.size s (pos + n)).heap.size := by rw [Lib.iterAt_size]; exact hsz
        obtain ⟨W, hW⟩ : ∃ W, W = wr.iterAt w.heap.size s (pos + n) := ⟨_, rfl⟩
        rw [← hW] at hnx hitW hbW hRW hszW
        obtain ⟨A, c, rfl⟩ := Kd.R_slice hR.out
        have hpre : Hid (Lib.hasPrefix (s.extract pos s.size).data.toList (⟨#[239, 191, 189]⟩ : ByteArray).data.toList = true ∨ v ≠ 65533) := by
          by_cases h5 : v = 65533
          · refine .inl ?_
            rw [extract_list]
            subst h5
            exact bad_prefix ho
          · exact .inr h5
        have hl4 : Hid ((acc.length + 1) * 4 ≤ 140737488355328) := by
          have h5 := hlen.out
          show _ ≤ _
          omega
        clear hW ho hdec hen hb0 hR hsz
        have hfin : ∀ (v4 : Value) (w4 : World), Kd.R (Kd.int .i32) 21 w4 w.heap.size (fun k => k ≠ w.heap.size) v4 (L ++ [(v : Int)]) → Below w.heap.size w w4 → W.grownBy w4 (Value.slice A L.length c).ownBlock →
            Hid (w4.heap[w.heap.size]? = some (.stringIter s (pos + n))) ∧ Hid (Below w.heap.size w w4 ∧ Kd.R (Kd.int .i32) 21 w4 w.heap.size (fun k => k ≠ w.heap.size) v4 ((acc ++ [v]).map Int.ofNat) ∧ runesL s.data.toList = (runesL (s.data.toList.drop (pos + n))).map ((acc ++ [v]) ++ ·) ∧ (acc ++ [v]).length ≤ pos + n) := by
          intro v4 w4 h1 h2 h3
          refine ⟨?_, h2, by rw [List.map_append, ← hL'.out]; exact h1, ?_, ?_⟩
          · show _ = _
            rw [h3.block w.heap.size hszW (iter_ne hRW.out)]
            exact hitW.out
          · rw [hru.out, hstep.out, List.drop_drop]
            cases runesL (s.data.toList.drop (pos + n)) with
            | none => rfl
            | some r => simp
          · have h5 := hlen.out
            simp only [List.length_append, List.length_cons, List.length_nil]
            omega
        have hfin' := Lib.hid hfin
        clear hfin
        by_cases h5 : v = 65533
        · subst h5
          have hpf : Hid (∀ X : World, Calls Tryd.prog 78 #[.string (s.extract pos s.size), .string ⟨#[239, 191, 189]⟩] X fun e w' => e = .returned (.bool true) ∧ w' = X) := by
            intro X
            have h := Tryd.strings_HasPrefix (s.extract pos s.size) ⟨#[239, 191, 189]⟩ X
            rw [hpre.out.resolve_right (fun h => h rfl)] at h
            exact h
          have hle : (pos : Int) ≤ (s.size : Int) := by omega
          go_wp2_with fail
          refine (hpf.out _).mono ?_
          rintro e w5 ⟨rfl, rfl⟩
          go_wp2_with (at_builtin; refine Kd.R_append (Kd.int .i32) (w0 := w) w.heap.size rfl (.tmp 22) (.tmp 24) 41 21 (.int .i32 0) 4 rfl Tryd.underlying41 Fn.info21 rfl (by decide) (by omega) (.slice A L.length c) L (65533 : Int) [.int .i32 65533] (fun k => k ≠ w.heap.size) (fun _ => False) rfl rfl ?aP (fun _ hk => hk.elim) ?aF ?aO ?aB ?aS ?aL ?_; (case aP => exact rfl); (case aB => exact hbW.out); (case aF => exact (fun k hk => (show k ≠ w.heap.size by omega))); (case aO => exact hRW.out); (case aS => exact hbW.out.size); (case aL => have := hl4.out; have := hLn'.out; omega); intro v4 w4 ho hb hg hat; have hf4 := Lib.hid (hfin'.out v4 w4 ho hb hg); clear ho hb hg hat)
          go_roundw
          case rel => exact ⟨pos + n, acc ++ [65533], hf4.out.1, hf4.out.2⟩
          case measure =>
            simp only [World.iterPos, hf4.out.1.out, hit.out]
            omega
        · have hne : ((v : Int) == 65533) = false := by rw [beq_eq_false_iff_ne]; omega
          clear h5
          go_wp2_with (at_builtin; refine Kd.R_append (Kd.int .i32) (w0 := w) w.heap.size rfl (.tmp 22) (.tmp 24) 41 21 (.int .i32 0) 4 rfl Tryd.underlying41 Fn.info21 rfl (by decide) (by omega) (.slice A L.length c) L (v : Int) [.int .i32 (v : Int)] (fun k => k ≠ w.heap.size) (fun _ => False) rfl rfl ?aP (fun _ hk => hk.elim) ?aF ?aO ?aB ?aS ?aL ?_; (case aP => exact rfl); (case aB => exact hbW.out); (case aF => exact (fun k hk => (show k ≠ w.heap.size by omega))); (case aO => exact hRW.out); (case aS => exact hbW.out.size); (case aL => have := hl4.out; have := hLn'.out; omega); intro v4 w4 ho hb hg hat; have hf4 := Lib.hid (hfin'.out v4 w4 ho hb hg); clear ho hb hg hat)
          go_roundw
          case rel => exact ⟨pos + n, acc ++ [v], hf4.out.1, hf4.out.2⟩
          case measure =>
            simp only [World.iterPos, hf4.out.1.out, hit.out]
            omega
      | none =>
        have hdec := decode_none s pos hp ho
        have hne0 : s.data.toList.drop pos ≠ [] := fun h => by
          have h3 := congrArg List.length h
          rw [List.length_drop, List.length_nil] at h3
          have h4 : s.data.toList.length = s.size := rfl
          omega
        have hno : runesP s = ([], 19) := by
          unfold runesP
          rw [hru.out, runes_stop hne0 ho]
          rfl
        have hno' := Lib.hid hno
        have hnx : ∀ ty, (Instr.next (.pointer (some ⟨w.heap.size, 0, none⟩)) true ty).run Tryd.prog wr = .ok (.tuple #[.bool true, .int .i64 (pos : Int), .int .i32 65533]) (wr.iterAt w.heap.size s (pos + 1)) := by
          intro ty
          rw [Lib.run_next_any_at wr w.heap.size s pos ty hit.out hp, hdec]
          rfl
        have hbW := Lib.hid (Lib.below_iterAt hb0.out (k := w.heap.size) (Nat.le_refl _) s (pos + 1))
        have hpf : Hid (∀ X : World, Calls Tryd.prog 78 #[.string (s.extract pos s.size), .string ⟨#[239, 191, 189]⟩] X fun e w' => e = .returned (.bool false) ∧ w' = X) := by
          intro X
          have h := Tryd.strings_HasPrefix (s.extract pos s.size) ⟨#[239, 191, 189]⟩ X
          have h2 : Lib.hasPrefix (s.extract pos s.size).data.toList (⟨#[239, 191, 189]⟩ : ByteArray).data.toList = false := by
            rw [extract_list]
            exact bad_no_prefix ho
          rw [h2] at h
          exact h
        have hle : (pos : Int) ≤ (s.size : Int) := by omega
        clear hdec hne0 hno ho
        go_wp2_with fail
        refine (hpf.out _).mono ?_
        rintro e w5 ⟨rfl, rfl⟩
        go_wp2
        go_ret2
        refine ⟨.slice none 0 0, ?_, ?_, hbW.out⟩
        · rw [hno'.out]; rfl
        · rw [hno'.out]; exact Kd.R_nil _ _ _ _ _
    · have hnx : ∀ ty, (Instr.next (.pointer (some ⟨w.heap.size, 0, none⟩)) true ty).run Tryd.prog wr = _ := fun ty => Lib.run_next_end_at wr w.heap.size s pos ty hit.out hp
      have hyes : runesP s = (L, 0) := by
        have h0 : s.data.toList.drop pos = [] := by
          apply List.drop_eq_nil_of_le
          have h4 : s.data.toList.length = s.size := rfl
          omega
        unfold runesP
        rw [hru.out, h0]
        show ((acc ++ []).map Int.ofNat, (0 : Int)) = _
        rw [List.append_nil, hL'.out]
      have hyes' := Lib.hid hyes
      obtain ⟨A, c, rfl⟩ := Kd.R_slice hR.out
      have hRf := Lib.hid (Kd.R_mono hR.out (ok' := fun _ => True) (fun _ _ => trivial))
      clear hyes
      go_wp2
      go_ret2
      refine ⟨.slice A L.length c, ?_, ?_, hb0.out⟩
      · rw [hyes'.out]; rfl
      · rw [hyes'.out]; exact hRf.out
end Go.Proofs.YtcoddeemfdnjpaaDoor.PrepPlain
