/- The walk of field.Parts: a text cut into parts, and held against its own tuple. -/
import Derived.Test.YtcoddeemfdnjpaaDoorAwakeField
import Derived.Test.YtcoddeemfdnjpaaDoorPartsPlain
namespace Go.Proofs.YtcoddeemfdnjpaaDoor
open Go.RowKit TextPlain
open Go.Proofs.YtcoddeemfdnjpaaDoorW.PrintWords hiding nums nums_length nums_append
def toB (l : List UInt8) : ByteArray := ⟨l.toArray⟩
/-- what a call of Parts tells: the list, the error -/
def partsF (s : ByteArray) : List ByteArray × Int :=
  match cuts s.data.toList with
  | none => ([], 4)
  | some l => if tupleF (l.map toB) = (s, 0) then (l.map toB, 0) else ([], 4)
set_option maxHeartbeats 1000000 in
set_option maxRecDepth 100000 in
theorem parts_any (s : ByteArray) (m : Int) (w : World) (hs : s.size ≤ 9000) (hm : w.cell? ⟨1, 0, none⟩ = some (.int .i64 m)) :
    Calls Tryd.prog 60 #[.string s] w fun e w' => ∃ v, e = .returned (.tuple #[v, .int .i64 (partsF s).2]) ∧ Kd.R Kd.string 9 w' w.heap.size (fun _ => True) v (partsF s).1 ∧ Below w.heap.size w w' := by
  have hm' := Lib.hid hm
  clear hm
  go_enter Tryd.func60, Tryd.ntmps60
  go_wp2_with fail
  go_outline
  go_loopw [4, 5] (fun v r wr => ∃ (acc : List ByteArray) (rest : List UInt8), r = .string (toB rest) ∧ Hid (Below w.heap.size w wr ∧ Kd.R Kd.string 9 wr w.heap.size (fun _ => True) v acc ∧ cuts s.data.toList = (cuts rest).map (fun x => acc.map (·.data.toList) ++ x) ∧ acc.length + rest.length ≤ 9000)) (fun _ r _ => match r with | .string t => t.size | _ => 0)
  case atStart => exact ⟨[], s.data.toList, rfl, Below.refl _ _, Kd.R_nil _ _ _ _ _, by cases cuts s.data.toList <;> rfl, by have h := Lib.size_eq s; simp only [List.length_nil]; omega⟩
  case round =>
    obtain ⟨acc, rest, rfl, hst⟩ := hrel
    by_cases hne : rest = []
    · subst hne
      have hb0 := Lib.hid hst.out.1
      have hR := Lib.hid hst.out.2.1
      have hcuts := hst.out.2.2.1
      have hlen := Lib.hid hst.out.2.2.2
      have hmr : Hid (wr.cell? ⟨1, 0, none⟩ = some (.int .i64 m)) := by
        have hpos : 1 < w.heap.size := by
          have := hm'.out
          rcases Nat.lt_or_ge 1 w.heap.size with hz | hz
          · exact hz
          · simp [World.cell?, Array.getElem?_eq_none hz] at this
        show _ = _
        rw [hb0.out.cell (p := ⟨1, 0, none⟩) hpos]; exact hm'.out
      obtain ⟨A, c, rfl, hc, hC⟩ := Kd.R_reads hR.out
      have hC' := Lib.hid hC
      have hpf : partsF s = if tupleF acc = (s, 0) then (acc, 0) else ([], 4) := by
        have e : (acc.map (·.data.toList)).map toB = acc := by
          rw [List.map_map]
          conv => rhs; rw [← List.map_id acc]
          rfl
        unfold partsF
        rw [hcuts, cuts_nil]
        simp only [Option.map_some, List.append_nil]
        rw [e]
      have he : ((toB []).toList.isEmpty) = true := by rw [Lib.toList_data]; rfl
      clear hst hcuts hC
      by_cases hT : tupleF acc = (s, 0)
      · rw [if_pos hT] at hpf
        have hpf' := Lib.hid hpf
        have hT' := Lib.hid hT
        clear hpf hT
        go_wp2_with fail
        refine (tuple_any A c acc m _ hC'.out hc hmr.out).mono ?_
        rw [hT'.out]
        rintro e w2 ⟨rfl, hb2⟩
        have hb2' : Hid (Below w.heap.size w w2) := hb0.out.trans (hb2.mono hb0.out.size)
        have hR2 : Hid (Kd.R Kd.string 9 w2 w.heap.size (fun _ => True) (.slice A acc.length c) acc) := Kd.R_below hR.out hb2
        clear hb2
        go_wp2_with fail
        go_ret2
        refine ⟨.slice A acc.length c, ?_, ?_, hb2'.out⟩
        · rw [hpf'.out]; rfl
        · rw [hpf'.out]; exact hR2.out
      · rw [if_neg hT] at hpf
        have hpf' := Lib.hid hpf
        obtain ⟨x, hx⟩ : ∃ x, x = (tupleF acc).1 := ⟨_, rfl⟩
        obtain ⟨q, hq⟩ : ∃ q, q = (tupleF acc).2 := ⟨_, rfl⟩
        have hxq : Hid (tupleF acc = (x, q)) := by
          show _ = _
          rw [hx, hq]
        have hor : q ≠ 0 ∨ ¬ x.toList = s.toList := by
          by_cases h0 : q = 0
          · refine .inr fun e => hT ?_
            rw [hxq.out, h0]
            rw [Lib.toList_data, Lib.toList_data] at e
            congr 1
            cases x with
            | mk d => cases s with | mk d' => simpa using e
          · exact .inl h0
        clear hpf hT hx hq
        by_cases h0 : q = 0
        · have h1 : (x.toList == s.toList) = false := by
            rw [beq_eq_false_iff_ne]
            rcases hor with h | h
            · exact absurd h0 h
            · exact h
          subst h0
          clear hor
          go_wp2_with fail
          refine (tuple_any A c acc m _ hC'.out hc hmr.out).mono ?_
          rw [hxq.out]
          rintro e w2 ⟨rfl, hb2⟩
          have hb2' : Hid (Below w.heap.size w w2) := hb0.out.trans (hb2.mono hb0.out.size)
          clear hb2
          go_wp2_with fail
          go_ret2
          refine ⟨.slice none 0 0, ?_, ?_, hb2'.out⟩
          · rw [hpf'.out]; rfl
          · rw [hpf'.out]; exact Kd.R_nil _ _ _ _ _
        · have h1 : (q != 0) = true := by rw [bne_iff_ne]; exact h0
          have h2 : (q == 0) = false := by rw [beq_eq_false_iff_ne]; exact h0
          clear hor h0
          go_wp2_with fail
          refine (tuple_any A c acc m _ hC'.out hc hmr.out).mono ?_
          rw [hxq.out]
          rintro e w2 ⟨rfl, hb2⟩
          have hb2' : Hid (Below w.heap.size w w2) := hb0.out.trans (hb2.mono hb0.out.size)
          clear hb2
          go_wp2_with fail
          go_ret2
          refine ⟨.slice none 0 0, ?_, ?_, hb2'.out⟩
          · rw [hpf'.out]; rfl
          · rw [hpf'.out]; exact Kd.R_nil _ _ _ _ _
    · have hb : ((toB rest).toList.isEmpty) = false := by
        have e : (toB rest).toList = rest := by rw [Lib.toList_data]; rfl
        rw [e]
        cases rest with
        | nil => exact absurd rfl hne
        | cons _ _ => rfl
      have hb0 := Lib.hid hst.out.1
      have hR := Lib.hid hst.out.2.1
      have hcuts := Lib.hid hst.out.2.2.1
      have hlen := Lib.hid hst.out.2.2.2
      clear hst
      have hmr : Hid (wr.cell? ⟨1, 0, none⟩ = some (.int .i64 m)) := by
        have hpos : 1 < w.heap.size := by
          have := hm'.out
          rcases Nat.lt_or_ge 1 w.heap.size with hz | hz
          · exact hz
          · simp [World.cell?, Array.getElem?_eq_none hz] at this
        show _ = _
        rw [hb0.out.cell (p := ⟨1, 0, none⟩) hpos]; exact hm'.out
      have hrs : Hid ((toB rest).size < 4294967281) := by
        have h1 := hlen.out
        have e : (toB rest).size = rest.length := by show Array.size _ = _; simp
        show _ < _
        omega
      go_wp2_with fail
      refine (Tryd.strings_Cut _ _ m _ hrs.out hmr.out).mono ?_
      rintro e w2 ⟨rfl, k2, rfl⟩
      rw [show (⟨#[0, 1]⟩ : ByteArray).data.toList = [0, 1] from rfl, show (toB rest).data.toList = rest from rfl]
      by_cases hok : (Lib.cut rest [0, 1]).2.2 = true
      · have hlt := cut_rest_lt rest hok
        have hstep := Lib.hid (cuts_step rest hne hok)
        obtain ⟨fi, hfi⟩ : ∃ x, x = (Lib.cut rest [0, 1]).1 := ⟨_, rfl⟩
        obtain ⟨mo, hmo⟩ : ∃ x, x = (Lib.cut rest [0, 1]).2.1 := ⟨_, rfl⟩
        rw [hok, ← hfi, ← hmo]
        rw [← hfi, ← hmo] at hstep
        rw [← hmo] at hlt
        have hfl : Hid (fi.length ≤ rest.length) := by
          show _ ≤ _
          rw [hfi]
          unfold Lib.cut
          split
          · rw [List.length_take]; omega
          · exact Nat.le_refl _
        clear hfi hmo hok
        have hcnt : Hid ((toB fi).size + Lib.countB (toB fi) ⟨#[0, 255]⟩ * 1 ≤ 140737488355328) := by
          have h1 := Lib.count_le (toB fi).data.toList [0, 255]
          have h2 : (toB fi).data.toList.length = fi.length := rfl
          have h3 : (toB fi).size = fi.length := by show Array.size _ = _; simp
          have h4 := hfl.out
          have h5 := hlen.out
          show (toB fi).size + Lib.count (toB fi).data.toList [0, 255] * 1 ≤ _
          omega
        have hfs : Hid ((toB fi).size < 4294967281) := by
          have h3 : (toB fi).size = fi.length := by show Array.size _ = _; simp
          have h4 := hfl.out
          have h5 := hlen.out
          show _ < _
          omega
        go_wp2_with fail
        have hmr2 : Hid ((wr.drewN k2).cell? ⟨1, 0, none⟩ = some (.int .i64 m)) := hmr.out
        refine (Tryd.strings_ReplaceAll (toB fi) ⟨#[0, 255]⟩ ⟨#[0]⟩ m _ hfs.out hmr2.out (by decide) hcnt.out).mono ?_
        rintro e w3 ⟨rfl, hb3⟩
        rw [show (⟨#[0, 255]⟩ : ByteArray).data.toList = [0, 255] from rfl, show (⟨#[0]⟩ : ByteArray).data.toList = [0] from rfl, show (toB fi).data.toList = fi from rfl]
        have hb3' : Hid (Below w.heap.size w w3) := (pw_below_drewN hb0.out k2).trans (hb3.mono hb0.out.size)
        have hR3 : Hid (Kd.R Kd.string 9 w3 w.heap.size (fun _ => True) u4 acc) := Kd.R_below (Kd.R_drewN hR.out _) hb3
        clear hb3
        have hl16 : Hid ((acc.length + 1) * 16 ≤ 140737488351232) := by
          have h5 := hlen.out
          show _ ≤ _
          omega
        have hun : (Lib.replaceAll fi [0, 255] [0]) = unescL fi := rfl
        rw [hun]
        obtain ⟨A, c, rfl⟩ := Kd.R_slice hR.out
        go_wp2_with (at_builtin; refine Kd.R_append Kd.string (w0 := w) w.heap.size rfl (.tmp 22) (.tmp 25) 62 9 (.string ⟨#[]⟩) 16 rfl Tryd.underlying62 Fn.info9 rfl (by decide) (by omega) (.slice A acc.length c) acc (toB (unescL fi)) [.string (toB (unescL fi))] (fun _ => True) (fun _ => False) rfl rfl ?aP (fun _ hk => hk.elim) ?aF ?aO ?aB ?aS ?aL ?_; (case aP => exact rfl); (case aB => exact hb3'.out); (case aF => exact (fun _ _ => trivial)); (case aO => exact hR3.out); (case aS => exact hb3'.out.size); (case aL => have := hl16.out; omega); intro v4 w4 ho hb hg hat; have ho' := Lib.hid ho; have hb4' := Lib.hid hb; clear ho hb hg hat)
        refine ⟨⟨acc ++ [toB (unescL fi)], mo, rfl, hb4'.out, ho'.out, ?_, ?_⟩, ?_⟩
        · rw [hcuts.out, hstep.out]
          cases cuts mo with
          | none => rfl
          | some x => simp [toB]
        · have h5 := hlen.out
          simp only [List.length_append, List.length_cons, List.length_nil]
          omega
        · show (toB mo).size < (toB rest).size
          have h1 : (toB mo).size = mo.length := by show Array.size _ = _; simp
          have h2 : (toB rest).size = rest.length := by show Array.size _ = _; simp
          omega
      · have hno : partsF s = ([], 4) := by
          unfold partsF
          rw [hcuts.out, cuts_stop rest hne hok]
          rfl
        have hno' := Lib.hid hno
        have hok' : (Lib.cut rest [0, 1]).2.2 = false := by simpa using hok
        rw [hok']
        clear hno hok hok'
        go_wp2_with fail
        go_ret2
        refine ⟨.slice none 0 0, ?_, ?_, pw_below_drewN hb0.out k2⟩
        · rw [hno'.out]; rfl
        · rw [hno'.out]; exact Kd.R_nil _ _ _ _ _
end Go.Proofs.YtcoddeemfdnjpaaDoor
