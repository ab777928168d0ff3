/- A list of free pages as it lies in memory. -/
import Derived.Test.YtcoddeemfdnjpaaFreeSearch
namespace Go.Proofs.Ytcoddeemfdnjpaa.Free
open Go.RowKit Go.Lib Go.Proofs.Ytcoddeemfdnjpaa.Fn
/-- the cells of an empty list -/
def newCells : Array Value := #[.slice none 0 0] ++ Array.replicate 512 (.bool false)
theorem info55 : (Try.prog.info? 55).map (fun i => (i.zero, i.size)) = some (some (.agg newCells), 513) := by kernel_rfl
theorem zero55 (w : World) : (zeroValue 55).run Try.prog w = .ok (.agg newCells) w := by
  have h := info55
  cases hi : Try.prog.info? 55 with
  | none => rw [hi] at h; cases h
  | some i =>
    rw [hi] at h
    simp only [Option.map_some, Option.some.injEq, Prod.mk.injEq] at h
    simp [zeroValue, typeInfo, hi, h.1]
set_option maxHeartbeats 400000 in
set_option maxRecDepth 100000 in
theorem new_any (w : World) : Calls Try.prog 10 #[] w fun e w' => e = .returned (.pointer (some ⟨w.heap.size, 0, none⟩)) ∧ w' = w.alloc (.cells newCells 55) := by
  have hz := zero55 w
  obtain ⟨A, hA⟩ : ∃ A : Array Value, A = newCells := ⟨_, rfl⟩
  rw [← hA] at hz ⊢
  clear hA
  go_enter Try.func10, Try.ntmps10
  go_wp2
  go_ret
  exact ⟨rfl, rfl⟩
theorem new_cell0 (w : World) : (w.alloc (.cells newCells 55)).cell? ⟨w.heap.size, 0, none⟩ = some (.slice none 0 0) := by
  rw [World.cell?_alloc_at _ _ _ _ rfl]
  simp [newCells]
theorem new_cell (w : World) (p : Nat) (hp : p < 512) : (w.alloc (.cells newCells 55)).cell? ⟨w.heap.size, 1 + p, none⟩ = some (.bool false) := by
  rw [World.cell?_alloc_at _ _ _ _ rfl]
  simp [newCells, Array.getElem?_append, show ¬ (1 + p < 1) by omega, hp]
/-- a free page that may be -/
def right (x : S28) : Prop := 0 ≤ x.f0 ∧ x.f0 ≤ 1099511627776 ∧ 1 ≤ x.f1 ∧ x.f1 < 512
instance (x : S28) : Decidable (right x) := by unfold right; exact inferInstance
/-- who is here -/
def isIn (l : List S28) (p : Nat) : Bool := l.any (fun x => x.f1 == (p : Int))
/-- a list of free pages in block b; its row lies in a block that 'ok' allows -/
structure ListAt (w : World) (b : Nat) (ok : Nat → Prop) (l : List S28) : Prop where
  row : ∃ v, w.cell? ⟨b, 0, none⟩ = some v ∧ Lst w ok v l
  here : ∀ p, p < 512 → w.cell? ⟨b, 1 + p, none⟩ = some (.bool (isIn l p))
  froz : ∀ j, w.frozen? ⟨b, j, none⟩ = false
  notok : ¬ ok b
  rights : ∀ x ∈ l, right x
  sorted : l.Pairwise ltF
  apart : l.Pairwise (fun x y => x.f1 ≠ y.f1)
theorem ListAt.lt {w : World} {b : Nat} {ok : Nat → Prop} {l : List S28} (h : ListAt w b ok l) : b < w.heap.size := by
  obtain ⟨v, hv, _⟩ := h.row
  exact World.block_lt_of_cell? w _ hv
theorem ListAt.keep {w w' : World} {b : Nat} {ok ok' : Nat → Prop} {l : List S28} (h : ListAt w b ok l) (hb : w'.heap[b]? = w.heap[b]?) (hk : ∀ k, ok k → k < w.heap.size → w'.heap[k]? = w.heap[k]? ∧ ok' k) (hn : ¬ ok' b) : ListAt w' b ok' l := by
  obtain ⟨v, hv, hl⟩ := h.row
  exact ⟨⟨v, (World.cell?_of_block (a := ⟨b, 0, none⟩) hb).trans hv, hl.keep hk⟩, fun p hp => (World.cell?_of_block (a := ⟨b, 1 + p, none⟩) hb).trans (h.here p hp),
    fun j => (World.frozen?_of_block (a := ⟨b, j, none⟩) hb).trans (h.froz j), hn, h.rights, h.sorted, h.apart⟩
/-- 'new' leaves an empty list -/
theorem new_list (w : World) (ok : Nat → Prop) (h : ¬ ok w.heap.size) : ListAt (w.alloc (.cells newCells 55)) w.heap.size ok [] :=
  ⟨⟨_, new_cell0 w, .inl ⟨rfl, rfl⟩⟩, fun p hp => (by rw [new_cell w p hp]; rfl), fun j => World.frozen?_alloc_at _ _ _ _ rfl, h, fun x hx => (by cases hx), .nil, .nil⟩
theorem ltF_trans {a b c : S28} (h : ltF a b) (k : ltF b c) : ltF a c := by unfold ltF at *; omega
theorem sorted_get {l : List S28} (h : l.Pairwise ltF) {a b : Nat} (hab : a < b) (hb : b < l.length) : ltF (l.getD a zS) (l.getD b zS) := by
  rw [getD_at _ _ _ (by omega), getD_at _ _ _ hb]
  exact List.pairwise_iff_getElem.1 h a b (by omega) hb hab
theorem mono_of {l : List S28} (h : l.Pairwise ltF) (f : S28) : Mono l f := by
  intro a b hab hb hf
  rcases Nat.lt_or_ge a b with h1 | h1
  · exact ltF_trans (sorted_get h h1 hb) hf
  · have : a = b := by omega
    rw [this]; exact hf
theorem length_le {l : List S28} (h1 : ∀ x ∈ l, right x) (h2 : l.Pairwise (fun x y => x.f1 ≠ y.f1)) : l.length ≤ 511 := by
  have hn : (l.map (fun x => x.f1.toNat)).Nodup := by
    rw [List.nodup_iff_pairwise_ne, List.pairwise_map]
    exact h2.imp_of_mem (fun {a b} ha hb hne => by have := h1 a ha; have := h1 b hb; unfold right at *; omega)
  have hs : l.map (fun x => x.f1.toNat) ⊆ (List.range 512).erase 0 := by
    intro y hy
    obtain ⟨x, hx, rfl⟩ := List.mem_map.1 hy
    have hr := h1 x hx
    unfold right at hr
    rw [List.Nodup.mem_erase_iff List.nodup_range]
    exact ⟨by omega, List.mem_range.2 (by omega)⟩
  have := hn.length_le_of_subset hs
  simpa using this
#print axioms length_le
end Go.Proofs.Ytcoddeemfdnjpaa.Free
