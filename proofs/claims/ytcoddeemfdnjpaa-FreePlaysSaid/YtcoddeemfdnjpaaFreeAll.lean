/- List.Has and List.Count. -/
import Derived.Test.YtcoddeemfdnjpaaFreeTake
namespace Go.Proofs.Ytcoddeemfdnjpaa.Free
open Go.RowKit Go.Lib Go.Proofs.Ytcoddeemfdnjpaa.Fn
/-- is a page in the list? -/
def hasB (l : List S28) (n : Int) : Bool := l.any (fun x => x.f1 == n)
theorem hasB_nat (l : List S28) (p : Nat) : hasB l (p : Int) = isIn l p := rfl
theorem hasB_out {l : List S28} {n : Int} (h : ∀ x ∈ l, right x) (hn : n < 0 ∨ 512 ≤ n) : hasB l n = false := by
  unfold hasB
  rw [List.any_eq_false]
  intro x hx
  have := h x hx
  unfold right at this
  simp
  omega
set_option maxHeartbeats 800000 in
set_option maxRecDepth 100000 in
theorem has_any (w : World) (ok : Nat → Prop) (b : Nat) (l : List S28) (n : Int) (H : ListAt w b ok l) :
    Calls Try.prog 18 #[.pointer (some ⟨b, 0, none⟩), .int .i64 n] w fun e w' => e = .returned (.bool (hasB l n)) ∧ w' = w := by
  by_cases h0 : n < 0
  · rw [hasB_out H.rights (.inl h0)]
    clear H
    have q : ¬ (0 ≤ n) := by omega
    go_enter Try.func18, Try.ntmps18
    go_wp2
    go_ret
    exact ⟨rfl, rfl⟩
  · by_cases h1 : 512 ≤ n
    · rw [hasB_out H.rights (.inr h1)]
      clear H
      have q : ¬ (n < 512) := by omega
      have q2 : 0 ≤ n := by omega
      go_enter Try.func18, Try.ntmps18
      go_wp2
      go_ret
      exact ⟨rfl, rfl⟩
    · obtain ⟨p, rfl⟩ := Int.eq_ofNat_of_zero_le (a := n) (by omega)
      have hp : p < 512 := by omega
      have hc := H.here p hp
      rw [hasB_nat]
      obtain ⟨t, ht⟩ : ∃ t, t = isIn l p := ⟨_, rfl⟩
      rw [← ht] at hc ⊢
      have q : (p : Int) < 512 := by omega
      clear H ht h0 h1
      go_enter Try.func18, Try.ntmps18
      go_wp2
      go_ret
      exact ⟨rfl, rfl⟩
set_option maxHeartbeats 800000 in
set_option maxRecDepth 100000 in
theorem count_any (w : World) (ok : Nat → Prop) (b : Nat) (l : List S28) (H : ListAt w b ok l) :
    Calls Try.prog 20 #[.pointer (some ⟨b, 0, none⟩)] w fun e w' => e = .returned (.int .i64 (l.length : Int)) ∧ w' = w := by
  obtain ⟨v, hv, L⟩ := H.row
  have hvs : ∃ A c, v = .slice A l.length c := by
    rcases L with ⟨rfl, rfl⟩ | ⟨g, off, c, rfl, _, _⟩
    · exact ⟨_, _, rfl⟩
    · exact ⟨_, _, rfl⟩
  obtain ⟨A, c, rfl⟩ := hvs
  obtain ⟨n, hn⟩ : ∃ n, n = l.length := ⟨_, rfl⟩
  rw [← hn] at hv ⊢
  clear L H hn
  go_enter Try.func20, Try.ntmps20
  go_wp2
  go_ret
  exact ⟨rfl, rfl⟩
end Go.Proofs.Ytcoddeemfdnjpaa.Free

namespace Go.Proofs.Ytcoddeemfdnjpaa.Free
open Go.RowKit Go.Lib Go.Proofs.Ytcoddeemfdnjpaa.Fn
theorem lst_of_owns {w : World} {B : Nat} {v : Value} {l : List S28} (h : w.ownsRow B 28 2 v l.length (flat l)) : Lst w (fun k => B ≤ k) v l := by
  obtain ⟨h1, h2⟩ := h
  rcases h2 with ⟨rfl, hn⟩ | ⟨g, cap, cur, rfl, hg, hh, hle, hm, hs, hp⟩
  · exact .inl ⟨rfl, List.length_eq_zero_iff.1 (by simpa using hn)⟩
  · refine .inr ⟨g, 0, cap, rfl, hg, hle, by unfold maxLen at hm; omega, fun j u hj => ?_, fun j hj => ?_, fun j => ?_, cap * 2, ?_, fun h0 => by omega⟩
    · rw [← hp, List.getElem?_take] at hj
      split at hj
      · simp only [World.cell?, hh, Nat.zero_add]
        simpa using hj
      · cases hj
    · simp only [World.cell?, hh, Nat.zero_add]
      simp
      omega
    · simp [World.frozen?, hh]
    · simp [World.shape?, hh, hs]
set_option maxHeartbeats 2000000 in
set_option maxRecDepth 100000 in
theorem clone_row (w : World) (g off c : Nat) (l : List S28) (R : Row w g off c l) (hn : l.length ≤ 1000) :
    Calls Try.prog 34 #[.slice (some ⟨g, off, none⟩) l.length c] w fun e w' => ∃ v', e = .returned v' ∧ Lst w' (fun k => w.heap.size ≤ k) v' l ∧ Below w.heap.size w w' := by
  have q22 : ∀ (w : World) (a : Option Addr) (n c n' c' : Nat), (binOp .eql 39 (.slice a n c) (.slice none n' c')).run Try.prog w = .ok (.bool a.isNone) w := fun w a n c n' c' => Lib.run_eql_slice_nil w _ _ a n c n' c' Try.underlying39
  obtain ⟨i0, hi0, hz0, hzs, hzb⟩ := info_parts info28
  have A := Lib.hid R.cells
  have hfl := flat_length l
  have hone := flat_one l
  have hrow := Lib.hid (fun (v' : Value) (w' : World) (h : w'.ownsRow w.heap.size 28 2 v' l.length (flat l)) => lst_of_owns h)
  have hm : l.length ≤ maxLen := by unfold maxLen; omega
  have hbig : l.length * 16 ≤ 140737488355328 := by omega
  have mixed : Try.prog.follows Departure.mixedOrders = true := by kernel_rfl
  obtain ⟨n, hn'⟩ : ∃ n, n = l.length := ⟨_, rfl⟩
  rw [← hn'] at hfl hrow hm hbig ⊢
  have hone' := Lib.hid hone
  have hfl' := Lib.hid hfl
  clear R hn hn' hone hfl
  go_enter Try.func34, Try.ntmps34
  go_wp2_with (at_builtin; refine wpList_append_own _ rfl _ _ 39 rfl w.heap.size 28 i0 (.agg #[.int .i64 0, .int .i64 0]) 2 16 Try.underlying39 hi0 hz0 hzs hzb rfl (by decide) _ _ _ rfl (World.ownsRow_made w #[] 0 (Nat.le_refl _) (Nat.zero_le _) (by simp)) ⟨g, off, none⟩ n c (flat l) rfl ?qc1 ?qc2 ?qc3 ?qc4 ?qc5 ?qc6 ?_)
  case qc1 => exact hfl'.out
  case qc2 =>
    intro j u hj
    rw [Addr.add_lit]
    exact Lib.cell?_alloc_some _ (A.out j u hj)
  case qc3 => exact hone'.out
  case qc4 => rw [Nat.zero_add]; exact hm
  case qc5 => rw [Nat.zero_add]; exact hbig
  case qc6 => simp
  intro v' w1 hown hgrow hnil
  have hown' := Lib.hid hown
  have hgrow' := Lib.hid hgrow
  clear hown hgrow hnil
  go_wp2
  go_ret
  refine ⟨v', rfl, hrow.out v' w1 (by simpa using hown'.out), ?_⟩
  exact ((Below.refl _ w).alloc (Nat.le_refl _) _).grown hgrow'.out (by simp) (by intro k hk; simp [Value.ownBlock] at hk; omega)
set_option maxHeartbeats 1000000 in
theorem clone_nil (w : World) : Calls Try.prog 34 #[.slice none 0 0] w fun e w' => e = .returned (.slice none 0 0) ∧ w' = w := by
  have q22 : ∀ (w : World) (a : Option Addr) (n c n' c' : Nat), (binOp .eql 39 (.slice a n c) (.slice none n' c')).run Try.prog w = .ok (.bool a.isNone) w := fun w a n c n' c' => Lib.run_eql_slice_nil w _ _ a n c n' c' Try.underlying39
  go_enter Try.func34, Try.ntmps34
  go_wp2
  go_ret
  exact ⟨rfl, rfl⟩
theorem clone_any (w : World) (ok : Nat → Prop) (v : Value) (l : List S28) (H : Lst w ok v l) (hn : l.length ≤ 1000) :
    Calls Try.prog 34 #[v] w fun e w' => ∃ v', e = .returned v' ∧ Lst w' (fun k => w.heap.size ≤ k) v' l ∧ Below w.heap.size w w' := by
  rcases H with ⟨rfl, rfl⟩ | ⟨g, off, c, rfl, hg, R⟩
  · refine (clone_nil w).mono ?_
    rintro e w' ⟨rfl, rfl⟩
    exact ⟨_, rfl, .inl ⟨rfl, rfl⟩, Below.refl _ _⟩
  · exact clone_row w g off c l R hn
#print axioms clone_any
end Go.Proofs.Ytcoddeemfdnjpaa.Free

namespace Go.Proofs.Ytcoddeemfdnjpaa.Free
open Go.RowKit Go.Lib Go.Proofs.Ytcoddeemfdnjpaa.Fn
set_option maxHeartbeats 1000000 in
set_option maxRecDepth 100000 in
theorem all_any (w : World) (ok : Nat → Prop) (b : Nat) (l : List S28) (H : ListAt w b ok l) :
    Calls Try.prog 22 #[.pointer (some ⟨b, 0, none⟩)] w fun e w' => ∃ v', e = .returned v' ∧ Lst w' (fun k => w.heap.size ≤ k) v' l ∧ Below w.heap.size w w' := by
  obtain ⟨v, hv, L⟩ := H.row
  have hl := length_le H.rights H.apart
  have hcl := Lib.hid (clone_any w ok v l L (by omega))
  have hvs := Lib.hid L.slice
  clear H L hl
  obtain ⟨A, n, c, rfl⟩ := hvs.out
  go_enter Try.func22, Try.ntmps22
  go_wp2_with fail
  refine hcl.out.mono ?_
  rintro e w2 ⟨v', rfl, hL, hb⟩
  have hL' := Lib.hid hL
  have hb' := Lib.hid hb
  clear hL hb
  go_wp2
  go_ret
  exact ⟨v', rfl, hL'.out, hb'.out⟩
#print axioms all_any
end Go.Proofs.Ytcoddeemfdnjpaa.Free
