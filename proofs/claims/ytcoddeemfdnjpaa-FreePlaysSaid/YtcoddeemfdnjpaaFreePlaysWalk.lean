/- The walk of FreePlays: whatever the list of calls, it returns true and writes no block that was there. -/
import Derived.Test.YtcoddeemfdnjpaaFreePlaySt
import Derived.Test.YtcoddeemfdnjpaaFreeOpen
set_option linter.unusedVariables false
namespace Go.Proofs.Ytcoddeemfdnjpaa.Free
open Go.RowKit Go.Lib Go.Proofs.Ytcoddeemfdnjpaa.Fn
open Go.Proofs.YtcoddeemfdnjpaaW.PrintWords
theorem play_start (w w1 : World) (h : Below w.heap.size w w1) : PlaySt w (w1.heap.size + 1) w1.heap.size [] [] ((w1.alloc (.cells newCells 55)).alloc (.cells #[.slice none 0 0] 41)) := by
  have z2 : (w1.alloc (.cells newCells 55)).heap.size = w1.heap.size + 1 := by simp
  have hs := h.size
  refine ⟨fun _ => False, fun _ => False, [], (h.alloc h.size _).alloc (by omega) _, h.size, by omega, by omega, ?_, ⟨⟨.slice none 0 0, ?_, .inl ⟨rfl, rfl⟩⟩, ?_, fun h => h⟩, .refl _, .nil, by simp, fun _ h => h.elim, fun _ h => h.elim⟩
  · exact (new_list w1 (fun _ => False) (fun h => h)).keep (Below.heap_alloc _ _ _ (by omega)) (fun k hk _ => hk.elim) (fun h => h)
  · rw [← z2, World.cell?_alloc_at _ _ _ _ rfl]; rfl
  · rw [← z2]; exact World.frozen?_alloc_at _ _ _ _ rfl
set_option maxHeartbeats 6400000 in
set_option maxRecDepth 100000 in
theorem plays_walk (w : World) (A : Option Addr) (c : Nat) (L : List Act) (hc : L.length ≤ c) (hA : Acts w A L) : Calls Try.prog 5 #[.slice A L.length c] w fun e w' => e = .returned (.bool true) ∧ Below w.heap.size w w' := by
  have ha := Lib.hid (awake_any w)
  have hnew := Lib.hid new_any
  go_enter Try.func5, Try.ntmps5
  go_wp2_with fail
  refine ha.out.mono ?_
  rintro e w1 ⟨rfl, hb1⟩
  have S0 := Lib.hid (play_start w w1 hb1)
  clear hb1
  go_wp2_with fail
  refine (hnew.out _).mono ?_
  rintro e w2 ⟨rfl, hw2⟩
  have z2 : w2.heap.size = w1.heap.size + 1 := by rw [hw2]; simp
  rw [← hw2, ← z2] at S0
  clear hw2
  have z2' := Lib.hid z2
  clear z2
  obtain ⟨b, hb⟩ : ∃ b, b = w1.heap.size := ⟨_, rfl⟩
  rw [← hb] at S0 z2' ⊢
  clear hb
  obtain ⟨rb, hrb⟩ : ∃ rb, rb = w2.heap.size := ⟨_, rfl⟩
  rw [← hrb] at S0
  obtain ⟨w3, hw3⟩ : ∃ w3, w3 = w2.alloc (.cells #[.slice none 0 0] 41) := ⟨_, rfl⟩
  rw [← hw3] at S0
  have hrb' := Lib.hid hrb
  have hw3' := Lib.hid hw3
  clear hrb hw3 ha hnew z2'
  go_wp2_with fail
  rw [← hw3'.out, ← hrb'.out]
  clear hrb' hw3'
  obtain ⟨hLn, hAc⟩ := hA
  obtain ⟨n, hn⟩ : ∃ n, n = L.length := ⟨_, rfl⟩
  have hn' := Lib.hid hn
  rw [← hn] at hc hLn ⊢
  clear hn
  go_loopw [3, 5] (fun x i wr => ∃ (k b : Nat) (l : List S28), k ≤ 80 ∧ x = .pointer (some ⟨b, 0, none⟩) ∧ i = .int .i64 k ∧ Hid (PlaySt w rb b l l wr)) (fun _ i _ => 80 - (RowKit.intOf i).toNat)
  case atStart => exact ⟨0, b, [], by omega, rfl, rfl, S0.out⟩
  case round =>
    clear S0
    obtain ⟨k, b, l, hk, rfl, rfl, hS⟩ := hrel
    by_cases hlt : k < n
    · by_cases h80 : k < 80
      · have hacts := hAc.resolve_left (fun e => by rw [hn'.out, e] at hlt; simp at hlt)
        obtain ⟨g, off, rfl, hcells⟩ := hacts
        have hk' : k < L.length := by rw [← hn'.out]; exact hlt
        obtain ⟨a0, a1, a2, a3⟩ := hcells k hk'
        obtain ⟨x, hx⟩ : ∃ x, x = L[k] := ⟨_, rfl⟩
        rw [← hx] at a0 a1 a2 a3
        clear hx hcells hAc hk'
        have hg : g < w.heap.size := block_lt_of_cell a0
        have hCb := Lib.hid (fun (u : World) (hu : Below w.heap.size w u) => (⟨(hu.cell (p := ⟨g, off + k * 4, none⟩) hg).trans a0, (hu.cell (p := ⟨g, off + k * 4 + 1, none⟩) hg).trans a1, (hu.cell (p := ⟨g, off + k * 4 + 2, none⟩) hg).trans a2, (hu.cell (p := ⟨g, off + k * 4 + 3, none⟩) hg).trans a3⟩ :
          u.cell? ⟨g, off + k * 4, none⟩ = some (.int .i64 x.k) ∧ u.cell? ⟨g, off + k * 4 + 1, none⟩ = some (.int .i64 x.f.f0) ∧ u.cell? ⟨g, off + k * 4 + 2, none⟩ = some (.int .i64 x.f.f1) ∧ u.cell? ⟨g, off + k * 4 + 3, none⟩ = some (.int .i64 x.n)))
        clear a0 a1 a2 a3
        obtain ⟨r0, r1, r2, r3⟩ := hCb.out _ hS.out.below
        have q1 : (k : Int) < (n : Int) := by omega
        have q2 : (k : Int) < 80 := by omega
        by_cases h1 : x.k = 1
        · have d0 := Lib.hid (show PlaySt w rb b l l wr.drew from hS.out.later (Below.refl _ _).drew)
          have hadd := Lib.hid (fun (u : World) (hu : PlaySt w rb b l l u) => (play_add x.f hu).mono (fun e w' h => (⟨h.1, h.2, h.2.below⟩ : e = .returned (.int .i64 (addE l x.f)) ∧ PlaySt w rb b (addL l x.f) l w' ∧ Below w.heap.size w w')))
          have hrad := Lib.hid (fun (u : World) (hu : PlaySt w rb b (addL l x.f) l u) => (play_refAdd x.f hu).mono (fun e w' h => (⟨h.1, h.2, h.2.below⟩ : e = .returned (.int .i64 (addE l x.f)) ∧ PlaySt w rb b (addL l x.f) (addL l x.f) w' ∧ Below w.heap.size w w')))
          have HC := Lib.hid (fun (u : World) (hu : Below w.heap.size w u) => (⟨(hCb.out u hu).2.1, (hCb.out u hu).2.2.1, hu⟩ : u.cell? ⟨g, off + k * 4 + 1, none⟩ = some (.int .i64 x.f.f0) ∧ u.cell? ⟨g, off + k * 4 + 2, none⟩ = some (.int .i64 x.f.f1) ∧ Hid (Below w.heap.size w u)))
          obtain ⟨E, hE⟩ : ∃ E, E = addE l x.f := ⟨_, rfl⟩
          rw [← hE] at hadd hrad
          obtain ⟨l2, hl2⟩ : ∃ l2, l2 = addL l x.f := ⟨_, rfl⟩
          rw [← hl2] at hadd hrad
          clear hE hl2
          go_wp2_with fail
          go_region_held3 (fun u => u.cell? ⟨g, off + k * 4 + 1, none⟩ = some (.int .i64 x.f.f0) ∧ u.cell? ⟨g, off + k * 4 + 2, none⟩ = some (.int .i64 x.f.f1) ∧ Hid (Below w.heap.size w u))
            (first | exact HC.out _ d0.out.below | exact HC.out _ (by assumption))
            (first | (go_at_call 11; refine (hadd.out _ ?_).mono ?_; (first | exact d0.out | assumption); rintro e w4 ⟨rfl, hP4, hB4⟩) | (go_at_call 15; refine (hrad.out _ ?_).mono ?_; (assumption); rintro e w5 ⟨rfl, hP5, hB5⟩))
          all_goals
            have hT := Lib.hid hP5
            clear hP5 hB5 hP4 hB4
            obtain ⟨r0, r1, r2, r3⟩ := hCb.out _ hT.out.below
            obtain ⟨A9, c9, hrow, -⟩ := play_row hT.out
            obtain ⟨hv, hhv⟩ : ∃ hv : Int → Bool, hv = hasB l2 := ⟨_, rfl⟩
            obtain ⟨t3, ht3⟩ : ∃ t3, t3 = l2.length := ⟨_, rfl⟩
            have H1 := Lib.hid (fun (q : Int) (j : Nat) => (by rw [hhv]; exact play_has q (hT.out.later (below_drewN j (Below.refl _ _))) : Calls Try.prog 18 #[.pointer (some ⟨b, 0, none⟩), .int .i64 q] (World.drewN _ j) fun e w' => e = .returned (.bool (hv q)) ∧ w' = World.drewN _ j))
            have H2 := Lib.hid (fun (q : Int) (j : Nat) => (by rw [hhv]; exact play_refHas q (hT.out.later (below_drewN j (Below.refl _ _))) : Calls Try.prog 19 #[.pointer (some ⟨rb, 0, none⟩), .int .i64 q] (World.drewN _ j) fun e w' => e = .returned (.bool (hv q)) ∧ w' = World.drewN _ j))
            have H5 := Lib.hid (fun (j : Nat) => play_count (hT.out.later (below_drewN j (Below.refl _ _))))
            rw [← ht3] at H5 hrow
            clear ht3 hhv r0 r1
            go_wp2_with fail
            go_quiet (first | (go_at_call 18; with_reducible refine Calls.quiet_of_same (H1.out _ _)) | (go_at_call 19; with_reducible refine Calls.quiet_of_same (H2.out _ _)) | (go_at_call 20; with_reducible refine Calls.quiet_of_same (H5.out _)))
            have hU := Lib.hid (hT.out.later (below_drewN nq (Below.refl _ _)))
            go_wp2
            exact ⟨⟨k + 1, b, l2, by omega, rfl, by go_num, hU.out⟩, by simp [RowKit.intOf]; omega⟩
        · by_cases h2 : x.k = 2
          · have htk := Lib.hid (play_take x.n hS.out)
            have hrtk := Lib.hid (fun (u : World) (hu : PlaySt w rb b (takeL l x.n) l u) => play_refTake x.n hu)
            obtain ⟨P, hP⟩ : ∃ P, P = takeP l x.n := ⟨_, rfl⟩
            obtain ⟨V, hV⟩ : ∃ V, V = takeB l x.n := ⟨_, rfl⟩
            obtain ⟨l2, hl2⟩ : ∃ l2, l2 = takeL l x.n := ⟨_, rfl⟩
            rw [← hP, ← hV, ← hl2] at htk hrtk
            clear hP hV hl2
            go_wp2_with fail
            refine htk.out.mono ?_
            rintro e w4 ⟨rfl, hP4⟩
            have P4 := Lib.hid hP4
            clear hP4 r0 r1 r2 r3
            obtain ⟨r0, r1, r2, r3⟩ := hCb.out _ P4.out.below
            go_wp2_with fail
            refine (hrtk.out _ P4.out).mono ?_
            rintro e w5 ⟨rfl, hP5⟩
            have hT := Lib.hid hP5
            clear hP5 r0 r1 r2 r3
            obtain ⟨r0, r1, r2, r3⟩ := hCb.out _ hT.out.below
            obtain ⟨A9, c9, hrow, -⟩ := play_row hT.out
            obtain ⟨hv, hhv⟩ : ∃ hv : Int → Bool, hv = hasB l2 := ⟨_, rfl⟩
            obtain ⟨t3, ht3⟩ : ∃ t3, t3 = l2.length := ⟨_, rfl⟩
            have H1 := Lib.hid (fun (q : Int) (j : Nat) => (by rw [hhv]; exact play_has q (hT.out.later (below_drewN j (Below.refl _ _))) : Calls Try.prog 18 #[.pointer (some ⟨b, 0, none⟩), .int .i64 q] (World.drewN _ j) fun e w' => e = .returned (.bool (hv q)) ∧ w' = World.drewN _ j))
            have H2 := Lib.hid (fun (q : Int) (j : Nat) => (by rw [hhv]; exact play_refHas q (hT.out.later (below_drewN j (Below.refl _ _))) : Calls Try.prog 19 #[.pointer (some ⟨rb, 0, none⟩), .int .i64 q] (World.drewN _ j) fun e w' => e = .returned (.bool (hv q)) ∧ w' = World.drewN _ j))
            have H5 := Lib.hid (fun (j : Nat) => play_count (hT.out.later (below_drewN j (Below.refl _ _))))
            rw [← ht3] at H5 hrow
            clear ht3 hhv r0 r1
            go_wp2_with fail
            go_quiet (first | (go_at_call 18; with_reducible refine Calls.quiet_of_same (H1.out _ _)) | (go_at_call 19; with_reducible refine Calls.quiet_of_same (H2.out _ _)) | (go_at_call 20; with_reducible refine Calls.quiet_of_same (H5.out _)))
            have hU := Lib.hid (hT.out.later (below_drewN nq (Below.refl _ _)))
            go_wp2
            exact ⟨⟨k + 1, b, l2, by omega, rfl, by go_num, hU.out⟩, by simp [RowKit.intOf]; omega⟩
          · by_cases h3 : x.k = 3
            · have hcp := Lib.hid (play_copy hS.out)
              have hct := Lib.hid (fun (u : World) (B : Nat) (hu : CopySt w rb b B l l u) => copy_take 1099511627776 hu)
              go_wp2_with fail
              refine hcp.out.mono ?_
              rintro e w4 ⟨B, rfl, hP4⟩
              have P4 := Lib.hid hP4
              clear hP4 r0 r1 r2 r3
              go_wp2_with fail
              refine (hct.out _ _ P4.out).mono ?_
              rintro e w5 ⟨rfl, hP5⟩
              have hT := Lib.hid hP5
              clear hP5
              obtain ⟨r0, r1, r2, r3⟩ := hCb.out _ hT.out.below
              obtain ⟨A9, c9, hrow, -⟩ := play_row hT.out
              obtain ⟨hv, hhv⟩ : ∃ hv : Int → Bool, hv = hasB l := ⟨_, rfl⟩
              obtain ⟨t3, ht3⟩ : ∃ t3, t3 = l.length := ⟨_, rfl⟩
              have H1 := Lib.hid (fun (q : Int) (j : Nat) => (by rw [hhv]; exact play_has q (hT.out.later (below_drewN j (Below.refl _ _))) : Calls Try.prog 18 #[.pointer (some ⟨B, 0, none⟩), .int .i64 q] (World.drewN _ j) fun e w' => e = .returned (.bool (hv q)) ∧ w' = World.drewN _ j))
              have H2 := Lib.hid (fun (q : Int) (j : Nat) => (by rw [hhv]; exact play_refHas q (hT.out.later (below_drewN j (Below.refl _ _))) : Calls Try.prog 19 #[.pointer (some ⟨rb, 0, none⟩), .int .i64 q] (World.drewN _ j) fun e w' => e = .returned (.bool (hv q)) ∧ w' = World.drewN _ j))
              have H5 := Lib.hid (fun (j : Nat) => play_count (hT.out.later (below_drewN j (Below.refl _ _))))
              rw [← ht3] at H5 hrow
              clear ht3 hhv r0 r1
              go_wp2_with fail
              go_quiet (first | (go_at_call 18; with_reducible refine Calls.quiet_of_same (H1.out _ _)) | (go_at_call 19; with_reducible refine Calls.quiet_of_same (H2.out _ _)) | (go_at_call 20; with_reducible refine Calls.quiet_of_same (H5.out _)))
              have hU := Lib.hid (hT.out.later (below_drewN nq (Below.refl _ _)))
              go_wp2
              exact ⟨⟨k + 1, B, l, by omega, rfl, by go_num, hU.out⟩, by simp [RowKit.intOf]; omega⟩
            · have hT := hS
              clear r0 r1 r2 r3 hS
              obtain ⟨r0, r1, r2, r3⟩ := hCb.out _ hT.out.below
              obtain ⟨r0, r1, r2, r3⟩ := hCb.out _ hT.out.below
              obtain ⟨A9, c9, hrow, -⟩ := play_row hT.out
              obtain ⟨hv, hhv⟩ : ∃ hv : Int → Bool, hv = hasB l := ⟨_, rfl⟩
              obtain ⟨t3, ht3⟩ : ∃ t3, t3 = l.length := ⟨_, rfl⟩
              have H1 := Lib.hid (fun (q : Int) (j : Nat) => (by rw [hhv]; exact play_has q (hT.out.later (below_drewN j (Below.refl _ _))) : Calls Try.prog 18 #[.pointer (some ⟨b, 0, none⟩), .int .i64 q] (World.drewN _ j) fun e w' => e = .returned (.bool (hv q)) ∧ w' = World.drewN _ j))
              have H2 := Lib.hid (fun (q : Int) (j : Nat) => (by rw [hhv]; exact play_refHas q (hT.out.later (below_drewN j (Below.refl _ _))) : Calls Try.prog 19 #[.pointer (some ⟨rb, 0, none⟩), .int .i64 q] (World.drewN _ j) fun e w' => e = .returned (.bool (hv q)) ∧ w' = World.drewN _ j))
              have H5 := Lib.hid (fun (j : Nat) => play_count (hT.out.later (below_drewN j (Below.refl _ _))))
              rw [← ht3] at H5 hrow
              clear ht3 hhv r0 r1
              go_wp2_with fail
              go_quiet (first | (go_at_call 18; with_reducible refine Calls.quiet_of_same (H1.out _ _)) | (go_at_call 19; with_reducible refine Calls.quiet_of_same (H2.out _ _)) | (go_at_call 20; with_reducible refine Calls.quiet_of_same (H5.out _)))
              have hU := Lib.hid (hT.out.later (below_drewN nq (Below.refl _ _)))
              go_wp2
              exact ⟨⟨k + 1, b, l, by omega, rfl, by go_num, hU.out⟩, by simp [RowKit.intOf]; omega⟩
      · have q1 : (k : Int) < (n : Int) := by omega
        have q2 : ¬ ((k : Int) < 80) := by omega
        have hT := Lib.hid (show PlaySt w rb b l l wr.drew from hS.out.later (Below.refl _ _).drew)
        obtain ⟨f1, f2, f3⟩ := play_facts hS.out
        obtain ⟨A9, c9, hrow, Z, r, hperm, hLst⟩ := play_row hT.out
        have hbrb := play_rb hT.out
        have HS := Lib.hid (fun (u : World) (hu : Below wr.drew.heap.size wr.drew u) => (⟨(hu.cell (p := ⟨rb, 0, none⟩) hbrb).trans hrow, hu⟩ : u.cell? ⟨rb, 0, none⟩ = some (.slice A9 l.length c9) ∧ Hid (Below wr.drew.heap.size wr.drew u)))
        have hall := Lib.hid ((play_all hT.out).mono (fun e w' h => h))
        have hsort := Lib.hid (fun (u : World) (B : Option Addr) (hu : Below wr.drew.heap.size wr.drew u) (hB : Kd.C k28 u B l.length l) => (sorted_any u Z A9 l.length c9 r l (hLst.keep (fun q hq hlt => ⟨hu.block q hlt, hq⟩)) hperm f1 f2 f3).mono (fun e w' ⟨C, d', h1, h2, h3, h4⟩ => (⟨C, d', h1, h2, h3, Kd.C_below hB h4, hu.trans (h4.mono hu.size)⟩ :
          ∃ C d', e = Ending.returned (.slice C l.length d') ∧ l.length ≤ d' ∧ Kd.C k28 w' C l.length l ∧ Kd.C k28 w' B l.length l ∧ Below wr.drew.heap.size wr.drew w')))
        have hsame := Lib.hid (fun (u : World) (B C : Option Addr) (d d' : Nat) (hu : Below wr.drew.heap.size wr.drew u) (h1 : l.length ≤ d) (h2 : l.length ≤ d') (h3 : Kd.C k28 u B l.length l) (h4 : Kd.C k28 u C l.length l) => (same_list B C d d' l u f3 h1 h2 h3 h4).mono (fun e w' h => (⟨h.1, hu.trans (h.2.mono hu.size)⟩ : e = .returned (.bool true) ∧ Below wr.drew.heap.size wr.drew w')))
        have hB0 := Lib.hid hT.out.below
        obtain ⟨m, hm⟩ : ∃ m, m = l.length := ⟨_, rfl⟩
        rw [← hm] at hall hsort hsame HS
        have d0 := Lib.hid (Below.refl wr.drew.heap.size wr.drew)
        clear f1 f2 f3 hrow hperm hLst hbrb hm hT
        go_wp2_with fail
        go_region_held3 (fun u => u.cell? ⟨rb, 0, none⟩ = some (.slice A9 m c9) ∧ Hid (Below wr.drew.heap.size wr.drew u))
          (first | exact HS.out _ d0.out | exact HS.out _ (by assumption))
          (first | (go_at_call 22; refine hall.out.mono ?_; rintro e w4 ⟨B, d, rfl, hd4, hC4, hB4⟩) | (go_at_call 23; refine (hsort.out _ _ hB4 hC4).mono ?_; rintro e w5 ⟨C, d', rfl, hd5, hC5, hC45, hB5⟩) | (go_at_call 21; refine (hsame.out _ _ _ _ _ hB5 hd4 hd5 hC45 hC5).mono ?_; rintro e w6 ⟨rfl, hB6⟩))
        all_goals
          have hfin := Lib.hid (hB0.out.trans (hB6.mono hB0.out.size))
          clear hC4 hC5 hC45 hd4 hd5 hB4 hB5 hB6
          go_wp2
          go_ret
          exact ⟨rfl, hfin.out⟩
    · have q1 : ¬ ((k : Int) < (n : Int)) := by omega
      have hT := Lib.hid (show PlaySt w rb b l l wr.drew from hS.out.later (Below.refl _ _).drew)
      obtain ⟨f1, f2, f3⟩ := play_facts hS.out
      obtain ⟨A9, c9, hrow, Z, r, hperm, hLst⟩ := play_row hT.out
      have hbrb := play_rb hT.out
      have HS := Lib.hid (fun (u : World) (hu : Below wr.drew.heap.size wr.drew u) => (⟨(hu.cell (p := ⟨rb, 0, none⟩) hbrb).trans hrow, hu⟩ : u.cell? ⟨rb, 0, none⟩ = some (.slice A9 l.length c9) ∧ Hid (Below wr.drew.heap.size wr.drew u)))
      have hall := Lib.hid ((play_all hT.out).mono (fun e w' h => h))
      have hsort := Lib.hid (fun (u : World) (B : Option Addr) (hu : Below wr.drew.heap.size wr.drew u) (hB : Kd.C k28 u B l.length l) => (sorted_any u Z A9 l.length c9 r l (hLst.keep (fun q hq hlt => ⟨hu.block q hlt, hq⟩)) hperm f1 f2 f3).mono (fun e w' ⟨C, d', h1, h2, h3, h4⟩ => (⟨C, d', h1, h2, h3, Kd.C_below hB h4, hu.trans (h4.mono hu.size)⟩ :
        ∃ C d', e = Ending.returned (.slice C l.length d') ∧ l.length ≤ d' ∧ Kd.C k28 w' C l.length l ∧ Kd.C k28 w' B l.length l ∧ Below wr.drew.heap.size wr.drew w')))
      have hsame := Lib.hid (fun (u : World) (B C : Option Addr) (d d' : Nat) (hu : Below wr.drew.heap.size wr.drew u) (h1 : l.length ≤ d) (h2 : l.length ≤ d') (h3 : Kd.C k28 u B l.length l) (h4 : Kd.C k28 u C l.length l) => (same_list B C d d' l u f3 h1 h2 h3 h4).mono (fun e w' h => (⟨h.1, hu.trans (h.2.mono hu.size)⟩ : e = .returned (.bool true) ∧ Below wr.drew.heap.size wr.drew w')))
      have hB0 := Lib.hid hT.out.below
      obtain ⟨m, hm⟩ : ∃ m, m = l.length := ⟨_, rfl⟩
      rw [← hm] at hall hsort hsame HS
      have d0 := Lib.hid (Below.refl wr.drew.heap.size wr.drew)
      clear f1 f2 f3 hrow hperm hLst hbrb hm hT
      go_wp2_with fail
      go_region_held3 (fun u => u.cell? ⟨rb, 0, none⟩ = some (.slice A9 m c9) ∧ Hid (Below wr.drew.heap.size wr.drew u))
        (first | exact HS.out _ d0.out | exact HS.out _ (by assumption))
        (first | (go_at_call 22; refine hall.out.mono ?_; rintro e w4 ⟨B, d, rfl, hd4, hC4, hB4⟩) | (go_at_call 23; refine (hsort.out _ _ hB4 hC4).mono ?_; rintro e w5 ⟨C, d', rfl, hd5, hC5, hC45, hB5⟩) | (go_at_call 21; refine (hsame.out _ _ _ _ _ hB5 hd4 hd5 hC45 hC5).mono ?_; rintro e w6 ⟨rfl, hB6⟩))
      all_goals
        have hfin := Lib.hid (hB0.out.trans (hB6.mono hB0.out.size))
        clear hC4 hC5 hC45 hd4 hd5 hB4 hB5 hB6
        go_wp2
        go_ret
        exact ⟨rfl, hfin.out⟩
#print axioms plays_walk
end Go.Proofs.Ytcoddeemfdnjpaa.Free
