/- The walk of List.Copy. -/
import Derived.Test.YtcoddeemfdnjpaaFreeBuild
import Derived.Deep.RegionHeld3
namespace Go.Proofs.Ytcoddeemfdnjpaa.Free
open Go.RowKit Go.Lib Go.Proofs.Ytcoddeemfdnjpaa.Fn
/-- the table's cells -/
def tabL (l : List S28) : List Value := (List.range 512).map fun p => .bool (isIn l p)
theorem tabL_length (l : List S28) : (tabL l).length = 512 := by simp [tabL]
theorem tab_range {w : World} {b : Nat} {ok : Nat → Prop} {l : List S28} (h : ListAt w b ok l) : w.rangeAt b 1 (tabL l) := by
  intro j v hj
  obtain ⟨hlt, hv⟩ := List.getElem?_eq_some_iff.1 hj
  rw [tabL_length] at hlt
  simp [tabL] at hv
  rw [← hv]
  exact h.here j hlt
theorem info53s : (Try.prog.info? 53).map (·.size) = some 512 := by kernel_rfl
/-- the building of a list, under a name of its own: the walk meets it as it stands -/
def buildList (xs : Array (Nat × Value)) : Sem Value := Instr.build 55 xs
theorem buildList_eq (xs : Array (Nat × Value)) : Instr.build 55 xs = buildList xs := rfl
attribute [local go_sem ↓] buildList_eq
set_option maxHeartbeats 1600000 in
set_option maxRecDepth 100000 in
theorem copy_raw (w : World) (ok : Nat → Prop) (b : Nat) (l : List S28) (H : ListAt w b ok l) :
    Calls Try.prog 17 #[.pointer (some ⟨b, 0, none⟩)] w fun e w' => ∃ v' w2, e = .returned (.pointer (some ⟨w2.heap.size, 0, none⟩)) ∧ Lst w2 (fun k => w.heap.size ≤ k) v' l ∧ Below w.heap.size w w2 ∧
      w' = w2.alloc (.cells (#[v'] ++ (tabL l).toArray) 55) := by
  obtain ⟨v, hv, L⟩ := H.row
  have hl := length_le H.rights H.apart
  have hb := H.lt
  have hcl := Lib.hid (fun (u : World) (hu : Below w.heap.size w u) => (clone_any u ok v l (L.keep (fun k hk hlt => ⟨hu.block k hlt, hk⟩)) (by omega)).mono (fun e w' h => (by
    obtain ⟨v', h1, h2, h3⟩ := h
    obtain ⟨A, n, c, rfl⟩ := h2.slice
    exact ⟨A, n, c, h1, h2.keep (fun k hk _ => ⟨rfl, Nat.le_trans hu.size hk⟩), hu.trans (h3.mono hu.size)⟩ : ∃ A n c, e = .returned (.slice A n c) ∧ Lst w' (fun k => w.heap.size ≤ k) (.slice A n c) l ∧ Below w.heap.size w w')))
  have hr := Lib.hid (fun (u : World) (hu : Below w.heap.size w u) => (fun j x hj => by rw [hu.cell (p := ⟨b, 1 + j, none⟩) hb]; exact tab_range H j x hj : u.rangeAt b 1 (tabL l)))
  have hvs := Lib.hid L.slice
  have hbu := Lib.hid (fun (u : World) (A : Option Addr) (n c : Nat) => (by exact build55 u (.slice A n c) rfl (tabL l) (tabL_length l) : (buildList #[(0, .slice A n c), (1, .agg (tabL l).toArray)]).run Try.prog u = .ok (.agg (#[.slice A n c] ++ (tabL l).toArray)) u))
  have hlen := tabL_length l
  obtain ⟨T, hT⟩ : ∃ T, T = tabL l := ⟨_, rfl⟩
  rw [← hT] at hr hlen hbu ⊢
  obtain ⟨A0, n0, c0, rfl⟩ := hvs.out
  have hcell := Lib.hid (fun (u : World) (hu : Below w.heap.size w u) => (hu.cell (p := ⟨b, 0, none⟩) hb).trans hv)
  have d0 := Lib.hid ((Below.refl w.heap.size w).drew)
  have hi53 : (Try.prog.info? 53).map (·.size) = some T.length := by rw [hlen]; exact info53s
  have hu53 := Try.underlying53
  have hbx := hbu.out
  clear H L hl hT hlen hvs hv hbu
  go_enter Try.func17, Try.ntmps17
  go_wp2_with fail
  go_region_held3 (fun u => u.cell? ⟨b, 0, none⟩ = some (.slice A0 n0 c0) ∧ u.rangeAt b 1 T ∧ Hid (Below w.heap.size w u))
    (first | exact ⟨hcell.out _ d0.out, hr.out _ d0.out, d0.out⟩ | exact ⟨hcell.out _ (by assumption), hr.out _ (by assumption), (by assumption)⟩ | exact ⟨hcell.out _ (hB2.alloc hB2.size _), hr.out _ (hB2.alloc hB2.size _), hB2.alloc hB2.size _⟩)
    (first | (go_at_call 34; refine (hcl.out _ ?_).mono ?_; (first | exact d0.out | exact (‹_ ∧ _ ∧ Hid (Below _ _ _)› : _ ∧ _ ∧ Hid (Below _ _ _)).2.2.out); rintro e w2 ⟨A, n, c, rfl, hL2, hB2⟩))
  all_goals
    go_wp2
    go_ret
    exact ⟨_, w2, rfl, hL2, hB2, by first | rfl | simp⟩
end Go.Proofs.Ytcoddeemfdnjpaa.Free
