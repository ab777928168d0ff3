/- The walk of the law PageTells. -/
import Derived.Test.YtcoddeemfdnjpaaDoorTurnedWalk
import Derived.Test.YtcoddeemfdnjpaaDoorPagesWalk
import Derived.Test.YtcoddeemfdnjpaaDoorMetaUnpack
namespace Go.Proofs.YtcoddeemfdnjpaaDoor.PagePlain
open Go.RowKit CrcPlain NumPlain FieldPlain
open Go.Proofs.YtcoddeemfdnjpaaDoorW.PrintMore
open Go.Proofs.YtcoddeemfdnjpaaDoorW.PrintWords hiding nums nums_length nums_append
theorem packT_cases (k no txn : Int) (body : ByteArray) : (∃ x, packF k no txn body = (x, 0) ∧ packP ⟨k, no, txn, body⟩ = (x, 0) ∧ x.size = 512) ∨ packF k no txn body = (⟨#[]⟩, 4) := by
  by_cases h : rightF k no txn body = true
  · have e : packF k no txn body = (packB k.toNat no.toNat txn.toNat body, 0) := if_pos h
    exact .inl ⟨_, e, e, packB_size _ _ _ _ ((right_iff _ _ _ _).1 h).2.2.2.2.2.2⟩
  · exact .inr (if_neg h)
theorem packMT_cases (m : Mt) : (∃ x, packM m = (x, 0) ∧ x.size = 128) ∨ packM m = (⟨#[]⟩, 4) := by
  by_cases h : rightM m = true
  · have e : packM m = (metaB m.txn.toNat m.root.toNat m.free.toNat m.pages.toNat m.limit.toNat, 0) := if_pos h
    exact .inl ⟨_, e, metaB_size _ _ _ _ _⟩
  · exact .inr (if_neg h)
theorem mix_or (x y : Bool) (h : ¬ (x && y) = true) : x = false ∨ y = false := by cases x <;> cases y <;> simp_all
def HoldsT (w0 : World) (g h : Nat) (a b : Array Value) (v : World) : Prop := Below w0.heap.size w0 v ∧ v.heap[g]? = some (.cells a 31 (0, 0)) ∧ v.heap[h]? = some (.cells b 46 (0, 0))
theorem HoldsT.below {w0 v v' : World} {g h : Nat} {a b : Array Value} (H : HoldsT w0 g h a b v) (hb : Below v.heap.size v v') : HoldsT w0 g h a b v' :=
  ⟨H.1.trans (hb.mono H.1.size), blk_below H.2.1 hb, blk_below H.2.2 hb⟩
theorem HoldsT.alloc {w0 v : World} {g h : Nat} {a b : Array Value} (H : HoldsT w0 g h a b v) (o : Obj) : HoldsT w0 g h a b (v.alloc o) :=
  H.below ((Below.refl _ _).alloc (Nat.le_refl _) o)
theorem HoldsT.page {w0 v : World} {g h : Nat} {a0 a1 a2 a3 : Value} {b : Array Value} (H : HoldsT w0 g h #[a0, a1, a2, a3] b v) :
    v.cell? ⟨g, 0, none⟩ = some a0 ∧ v.cell? ⟨g, 1, none⟩ = some a1 ∧ v.cell? ⟨g, 2, none⟩ = some a2 ∧ v.cell? ⟨g, 3, none⟩ = some a3 :=
  ⟨blk_cell H.2.1 0, blk_cell H.2.1 1, blk_cell H.2.1 2, blk_cell H.2.1 3⟩
set_option maxHeartbeats 8000000 in
set_option maxRecDepth 100000 in
theorem pageTells_walk (k no txn : Int) (body : ByteArray) (t r f p l : Int) (i : Int) (b : Nat) (w : World) (hT : HasTab w) (hb : b < 4294967296) :
    Calls Tryd.prog 12 #[.agg #[.int .i64 k, .int .i64 no, .int .i64 txn, .string body], .agg #[.int .i64 t, .int .i64 r, .int .i64 f, .int .i64 p, .int .i64 l], .int .i64 i, .int .u32 (b : Int)] w fun e w' => e = .returned (.bool true) ∧ Below w.heap.size w w' := by
  have hT' := Lib.hid hT
  have hu31 := Tryd.underlying31
  have hu46 := Tryd.underlying46
  clear hT
  have hH0 : Hid (HoldsT w w.heap.size (w.heap.size + 1) #[.int .i64 k, .int .i64 no, .int .i64 txn, .string body] #[.int .i64 t, .int .i64 r, .int .i64 f, .int .i64 p, .int .i64 l]
      ((w.alloc (Obj.cells #[.int .i64 k, .int .i64 no, .int .i64 txn, .string body] 31)).alloc (Obj.cells #[.int .i64 t, .int .i64 r, .int .i64 f, .int .i64 p, .int .i64 l] 46))) :=
    ⟨((Below.refl w.heap.size w).alloc (Nat.le_refl _) _).alloc (by simp [World.alloc, -World.alloc_eq]) _, blk_alloc (blk_new w _) _, by
      have h := blk_new (w.alloc (Obj.cells #[.int .i64 k, .int .i64 no, .int .i64 txn, .string body] 31)) (Obj.cells #[.int .i64 t, .int .i64 r, .int .i64 f, .int .i64 p, .int .i64 l] 46)
      have e : (w.alloc (Obj.cells #[.int .i64 k, .int .i64 no, .int .i64 txn, .string body] 31)).heap.size = w.heap.size + 1 := by simp [World.alloc, -World.alloc_eq]
      rw [e] at h
      exact h⟩
  have haw : Hid (∀ v : World, HoldsT w w.heap.size (w.heap.size + 1) #[.int .i64 k, .int .i64 no, .int .i64 txn, .string body] #[.int .i64 t, .int .i64 r, .int .i64 f, .int .i64 p, .int .i64 l] v →
      Calls Tryd.prog 26 #[] v fun e w' => e = .returned (.bool true) ∧ HoldsT w w.heap.size (w.heap.size + 1) #[.int .i64 k, .int .i64 no, .int .i64 txn, .string body] #[.int .i64 t, .int .i64 r, .int .i64 f, .int .i64 p, .int .i64 l] w') := by
    intro v hv
    exact (awake04 v (hT'.out.below hv.1 hT'.out.pos)).mono fun _ _ ⟨h1, h2⟩ => ⟨h1, hv.below h2⟩
  by_cases hs : body.size ≤ 2000
  · by_cases hb0 : b = 0
    · subst hb0
      have hle : ((body.size : Int)) ≤ 2000 := by omega
      clear hb
      go_enter Tryd.func12, Tryd.ntmps12
      go_wp2_with fail
      refine (haw.out _ hH0.out).mono ?_
      rintro e w2 ⟨rfl, hH2⟩
      have hH2' := Lib.hid hH2
      clear hH2
      obtain ⟨c0, c1, c2, c3⟩ := hH2'.out.page
      go_wp2
      go_ret
      exact ⟨rfl, hH2'.out.1⟩
    · have hle : ((body.size : Int)) ≤ 2000 := by omega
      have hbz : ((b : Int) == 0) = false := by rw [beq_eq_false_iff_ne]; omega
      have hpk : Hid (∀ v : World, HoldsT w w.heap.size (w.heap.size + 1) #[.int .i64 k, .int .i64 no, .int .i64 txn, .string body] #[.int .i64 t, .int .i64 r, .int .i64 f, .int .i64 p, .int .i64 l] v →
          Calls Tryd.prog 27 #[.agg #[.int .i64 k, .int .i64 no, .int .i64 txn, .string body]] v fun e w' => e = .returned (.tuple #[.string (packF k no txn body).1, .int .i64 (packF k no txn body).2]) ∧ HoldsT w w.heap.size (w.heap.size + 1) #[.int .i64 k, .int .i64 no, .int .i64 txn, .string body] #[.int .i64 t, .int .i64 r, .int .i64 f, .int .i64 p, .int .i64 l] w') := by
        intro v hv
        exact (pack_any k no txn body v (hT'.out.below hv.1 hT'.out.pos) hs).mono fun _ _ ⟨h1, h2⟩ => ⟨h1, hv.below h2⟩
      have hpm : Hid (∀ v : World, HoldsT w w.heap.size (w.heap.size + 1) #[.int .i64 k, .int .i64 no, .int .i64 txn, .string body] #[.int .i64 t, .int .i64 r, .int .i64 f, .int .i64 p, .int .i64 l] v →
          Calls Tryd.prog 39 #[.agg #[.int .i64 t, .int .i64 r, .int .i64 f, .int .i64 p, .int .i64 l]] v fun e w' => e = .returned (.tuple #[.string (packM ⟨t, r, f, p, l⟩).1, .int .i64 (packM ⟨t, r, f, p, l⟩).2]) ∧ HoldsT w w.heap.size (w.heap.size + 1) #[.int .i64 k, .int .i64 no, .int .i64 txn, .string body] #[.int .i64 t, .int .i64 r, .int .i64 f, .int .i64 p, .int .i64 l] w') := by
        intro v hv
        exact (packMeta_any t r f p l v (hT'.out.below hv.1 hT'.out.pos)).mono fun _ _ ⟨h1, h2⟩ => ⟨h1, hv.below h2⟩
      have htd : Hid (∀ (s : ByteArray) (v : World), 4 ≤ s.size → s.size ≤ 2000 → HoldsT w w.heap.size (w.heap.size + 1) #[.int .i64 k, .int .i64 no, .int .i64 txn, .string body] #[.int .i64 t, .int .i64 r, .int .i64 f, .int .i64 p, .int .i64 l] v →
          Calls Tryd.prog 45 #[.string s, .int .i64 i, .int .u32 (b : Int)] v fun e w' => e = .returned (.string (turned s (placeN i s.size) b 4)) ∧ HoldsT w w.heap.size (w.heap.size + 1) #[.int .i64 k, .int .i64 no, .int .i64 txn, .string body] #[.int .i64 t, .int .i64 r, .int .i64 f, .int .i64 p, .int .i64 l] w') := by
        intro s v h1 h2 hv
        exact (turned_any s i b v h1 h2).mono fun _ _ ⟨h1, h2⟩ => ⟨h1, hv.below h2⟩
      have hmx : Hid (∀ (s : ByteArray) (sum : Nat) (v : World), 4 ≤ s.size → s.size ≤ 2000 → sum ≤ 100 → (mixB (placeN i s.size) b sum && outB (placeN i s.size) b sum) = true → HoldsT w w.heap.size (w.heap.size + 1) #[.int .i64 k, .int .i64 no, .int .i64 txn, .string body] #[.int .i64 t, .int .i64 r, .int .i64 f, .int .i64 p, .int .i64 l] v →
          Calls Tryd.prog 46 #[.string s, .int .i64 i, .int .u32 (b : Int), .int .i64 (sum : Int)] v fun e w' => e = .returned (.bool true) ∧ HoldsT w w.heap.size (w.heap.size + 1) #[.int .i64 k, .int .i64 no, .int .i64 txn, .string body] #[.int .i64 t, .int .i64 r, .int .i64 f, .int .i64 p, .int .i64 l] w') := by
        intro s sum v h1 h2 h3 h4 hv
        have h := mixed_any s i b sum v h1 h2 h3
        rw [h4] at h
        exact h.mono fun _ _ ⟨h1, h2⟩ => ⟨h1, hv.below h2⟩
      have hup : Hid (∀ (s : ByteArray) (v : World), s.size ≤ 2000 → HoldsT w w.heap.size (w.heap.size + 1) #[.int .i64 k, .int .i64 no, .int .i64 txn, .string body] #[.int .i64 t, .int .i64 r, .int .i64 f, .int .i64 p, .int .i64 l] v →
          Calls Tryd.prog 31 #[.string s] v fun e w' => e = .returned (.tuple #[.agg #[.int .i64 (unpackF s).1.kind, .int .i64 (unpackF s).1.no, .int .i64 (unpackF s).1.txn, .string (unpackF s).1.body], .int .i64 (unpackF s).2]) ∧ HoldsT w w.heap.size (w.heap.size + 1) #[.int .i64 k, .int .i64 no, .int .i64 txn, .string body] #[.int .i64 t, .int .i64 r, .int .i64 f, .int .i64 p, .int .i64 l] w') := by
        intro s v h1 hv
        exact (unpack_any s v (hT'.out.below hv.1 hT'.out.pos) h1).mono fun _ _ ⟨h1, h2⟩ => ⟨h1, hv.below h2⟩
      have hum : Hid (∀ (s : ByteArray) (v : World), s.size ≤ 2000 → HoldsT w w.heap.size (w.heap.size + 1) #[.int .i64 k, .int .i64 no, .int .i64 txn, .string body] #[.int .i64 t, .int .i64 r, .int .i64 f, .int .i64 p, .int .i64 l] v →
          Calls Tryd.prog 37 #[.string s] v fun e w' => e = .returned (.tuple #[.agg #[.int .i64 (unpackM s).1.txn, .int .i64 (unpackM s).1.root, .int .i64 (unpackM s).1.free, .int .i64 (unpackM s).1.pages, .int .i64 (unpackM s).1.limit], .int .i64 (unpackM s).2]) ∧ HoldsT w w.heap.size (w.heap.size + 1) #[.int .i64 k, .int .i64 no, .int .i64 txn, .string body] #[.int .i64 t, .int .i64 r, .int .i64 f, .int .i64 p, .int .i64 l] w') := by
        intro s v h1 hv
        exact (unpackMeta_any s v (hT'.out.below hv.1 hT'.out.pos) h1).mono fun _ _ ⟨h1, h2⟩ => ⟨h1, hv.below h2⟩
      have hcs := Lib.hid (packT_cases k no txn body)
      have hcm := Lib.hid (packMT_cases ⟨t, r, f, p, l⟩)
      obtain ⟨⟨x, e⟩, hz⟩ : ∃ z, packF k no txn body = z := ⟨_, rfl⟩
      obtain ⟨⟨y, g⟩, hzm⟩ : ∃ z, packM ⟨t, r, f, p, l⟩ = z := ⟨_, rfl⟩
      rw [hz] at hpk hcs
      rw [hzm] at hpm hcm
      have hb0' := Lib.hid hb0
      have hzm' := Lib.hid hzm
      clear hz hzm hb0
      go_enter Tryd.func12, Tryd.ntmps12
      go_wp2_with fail
      refine (haw.out _ hH0.out).mono ?_
      rintro e w2 ⟨rfl, hH2⟩
      have hH2' := Lib.hid hH2
      clear hH2
      obtain ⟨c0, c1, c2, c3⟩ := hH2'.out.page
      go_wp2_with fail
      refine (hpk.out _ hH2'.out).mono ?_
      clear c0 c1 c2 c3 hH2'
      rintro e w3 ⟨rfl, hH3⟩
      have hHm := Lib.hid hH3
      clear hH3
      rcases hcs.out with ⟨x', hx, hpp, hx5⟩ | hx
      · injection hx with hx1 hx2
        subst hx1 hx2
        have hpp' := Lib.hid hpp
        have hx5' := Lib.hid hx5
        have hx6 : 4 ≤ x.size := by omega
        have hx7 : x.size ≤ 2000 := by omega
        clear hpp hx5
        go_wp2_with fail
        refine (htd.out x _ hx6 hx7 hHm.out).mono ?_
        rintro e w4 ⟨rfl, hH4⟩
        have hH4' := Lib.hid hH4
        clear hH4 hHm
        have hts : (turned x (placeN i x.size) b 4).size ≤ 2000 := by rw [turned_size]; exact hx7
        have hmix : Hid ((unpackF (turned x (placeN i x.size) b 4)).2 = 4 ∨ (mixB (placeN i x.size) b 18 && outB (placeN i x.size) b 18) = true) := by
          by_cases hM : (mixB (placeN i x.size) b 18 && outB (placeN i x.size) b 18) = true
          · exact .inr hM
          · refine .inl ?_
            have hlt := placeN_lt i x.size hx6
            rw [page_tells ⟨k, no, txn, body⟩ x hpp'.out (placeN i x.size) b (by rw [← hx5'.out]; exact hlt) hb hb0'.out (mix_or _ _ hM)]
        have hun := Lib.hid (hup.out (turned x (placeN i x.size) b 4) w4 hts hH4'.out)
        obtain ⟨T, hTt⟩ : ∃ T, T = turned x (placeN i x.size) b 4 := ⟨_, rfl⟩
        rw [← hTt] at hun hmix hts ⊢
        clear hTt
        obtain ⟨⟨⟨u0, u1, u2, u3⟩, u4⟩, hU⟩ : ∃ U, unpackF T = U := ⟨_, rfl⟩
        rw [hU] at hun hmix
        clear hU
        simp only at hun hmix
        go_wp2_with fail
        refine hun.out.mono ?_
        rintro e w5 ⟨rfl, hH5⟩
        have hH5' := Lib.hid (hH5.alloc (Obj.cells #[.int .i64 u0, .int .i64 u1, .int .i64 u2, .string u3] 31))
        clear hH5 hH4' hun
        obtain ⟨d0, d1, d2, d3, d4⟩ := cells5 hH5'.out.2.2
        by_cases h4 : u4 = 4
        · subst h4
          clear hmix
          go_wp2_with fail
          refine (hpm.out _ hH5'.out).mono ?_
          clear d0 d1 d2 d3 d4 hH5'
          rintro e w3 ⟨rfl, hH3⟩
          have hHm := Lib.hid hH3
          clear hH3
          rcases hcm.out with ⟨y', hy, hy5⟩ | hy
          · injection hy with hy1 hy2
            subst hy1 hy2
            have hy5' := Lib.hid hy5
            have hy6 : 4 ≤ y.size := by omega
            have hy7 : y.size ≤ 2000 := by omega
            clear hy5
            go_wp2_with fail
            refine (htd.out y _ hy6 hy7 hHm.out).mono ?_
            rintro e w14 ⟨rfl, hH14⟩
            have hH14' := Lib.hid hH14
            clear hH14 hHm
            have hts2 : (turned y (placeN i y.size) b 4).size ≤ 2000 := by rw [turned_size]; exact hy7
            have hmix2 : Hid ((unpackM (turned y (placeN i y.size) b 4)).2 = 4 ∨ (mixB (placeN i y.size) b 32 && outB (placeN i y.size) b 32) = true) := by
              by_cases hM : (mixB (placeN i y.size) b 32 && outB (placeN i y.size) b 32) = true
              · exact .inr hM
              · refine .inl ?_
                have hlt := placeN_lt i y.size hy6
                rw [meta_tells ⟨t, r, f, p, l⟩ y hzm'.out (placeN i y.size) b (by rw [← hy5'.out]; exact hlt) hb hb0'.out (mix_or _ _ hM)]
            have hun2 := Lib.hid (hum.out (turned y (placeN i y.size) b 4) w14 hts2 hH14'.out)
            obtain ⟨T2, hTt2⟩ : ∃ T, T = turned y (placeN i y.size) b 4 := ⟨_, rfl⟩
            rw [← hTt2] at hun2 hmix2 hts2 ⊢
            clear hTt2
            obtain ⟨⟨⟨v0, v1, v2, v3, v4⟩, v5⟩, hU2⟩ : ∃ U, unpackM T2 = U := ⟨_, rfl⟩
            rw [hU2] at hun2 hmix2
            clear hU2
            simp only at hun2 hmix2
            go_wp2_with fail
            refine hun2.out.mono ?_
            rintro e w15 ⟨rfl, hH15⟩
            have hH15' := Lib.hid (hH15.alloc (Obj.cells #[.int .i64 v0, .int .i64 v1, .int .i64 v2, .int .i64 v3, .int .i64 v4] 46))
            clear hH15 hH14' hun2
            by_cases h45 : v5 = 4
            · subst h45
              clear hmix2
              go_wp2
              go_ret
              exact ⟨rfl, hH15'.out.1⟩
            · have hM2 := Lib.hid (hmix2.out.resolve_left h45)
              have hne2 : (v5 != 4) = true := by simpa using h45
              clear h45 hmix2
              go_wp2_with fail
              refine (hmx.out y 32 _ hy6 hy7 (by decide) hM2.out hH15'.out).mono ?_
              rintro e w16 ⟨rfl, hH16⟩
              go_wp2
              go_ret
              exact ⟨rfl, hH16.1⟩
          · injection hy with hy1 hy2
            subst hy1 hy2
            go_wp2
            go_ret
            exact ⟨rfl, hHm.out.1⟩
        · have hM := Lib.hid (hmix.out.resolve_left h4)
          have hne : (u4 != 4) = true := by simpa using h4
          clear h4 hmix d0 d1 d2 d3 d4
          go_wp2_with fail
          refine (hmx.out x 18 _ hx6 hx7 (by decide) hM.out hH5'.out).mono ?_
          clear hH5'
          rintro e w6 ⟨rfl, hH6⟩
          have hH6' := Lib.hid hH6
          clear hH6
          obtain ⟨d0, d1, d2, d3, d4⟩ := cells5 hH6'.out.2.2
          go_wp2_with fail
          refine (hpm.out _ hH6'.out).mono ?_
          clear d0 d1 d2 d3 d4 hH6'
          rintro e w3 ⟨rfl, hH3⟩
          have hHm := Lib.hid hH3
          clear hH3
          rcases hcm.out with ⟨y', hy, hy5⟩ | hy
          · injection hy with hy1 hy2
            subst hy1 hy2
            have hy5' := Lib.hid hy5
            have hy6 : 4 ≤ y.size := by omega
            have hy7 : y.size ≤ 2000 := by omega
            clear hy5
            go_wp2_with fail
            refine (htd.out y _ hy6 hy7 hHm.out).mono ?_
            rintro e w14 ⟨rfl, hH14⟩
            have hH14' := Lib.hid hH14
            clear hH14 hHm
            have hts2 : (turned y (placeN i y.size) b 4).size ≤ 2000 := by rw [turned_size]; exact hy7
            have hmix2 : Hid ((unpackM (turned y (placeN i y.size) b 4)).2 = 4 ∨ (mixB (placeN i y.size) b 32 && outB (placeN i y.size) b 32) = true) := by
              by_cases hM : (mixB (placeN i y.size) b 32 && outB (placeN i y.size) b 32) = true
              · exact .inr hM
              · refine .inl ?_
                have hlt := placeN_lt i y.size hy6
                rw [meta_tells ⟨t, r, f, p, l⟩ y hzm'.out (placeN i y.size) b (by rw [← hy5'.out]; exact hlt) hb hb0'.out (mix_or _ _ hM)]
            have hun2 := Lib.hid (hum.out (turned y (placeN i y.size) b 4) w14 hts2 hH14'.out)
            obtain ⟨T2, hTt2⟩ : ∃ T, T = turned y (placeN i y.size) b 4 := ⟨_, rfl⟩
            rw [← hTt2] at hun2 hmix2 hts2 ⊢
            clear hTt2
            obtain ⟨⟨⟨v0, v1, v2, v3, v4⟩, v5⟩, hU2⟩ : ∃ U, unpackM T2 = U := ⟨_, rfl⟩
            rw [hU2] at hun2 hmix2
            clear hU2
            simp only at hun2 hmix2
            go_wp2_with fail
            refine hun2.out.mono ?_
            rintro e w15 ⟨rfl, hH15⟩
            have hH15' := Lib.hid (hH15.alloc (Obj.cells #[.int .i64 v0, .int .i64 v1, .int .i64 v2, .int .i64 v3, .int .i64 v4] 46))
            clear hH15 hH14' hun2
            by_cases h45 : v5 = 4
            · subst h45
              clear hmix2
              go_wp2
              go_ret
              exact ⟨rfl, hH15'.out.1⟩
            · have hM2 := Lib.hid (hmix2.out.resolve_left h45)
              have hne2 : (v5 != 4) = true := by simpa using h45
              clear h45 hmix2
              go_wp2_with fail
              refine (hmx.out y 32 _ hy6 hy7 (by decide) hM2.out hH15'.out).mono ?_
              rintro e w16 ⟨rfl, hH16⟩
              go_wp2
              go_ret
              exact ⟨rfl, hH16.1⟩
          · injection hy with hy1 hy2
            subst hy1 hy2
            go_wp2
            go_ret
            exact ⟨rfl, hHm.out.1⟩
      · injection hx with hx1 hx2
        subst hx1 hx2
        obtain ⟨d0, d1, d2, d3, d4⟩ := cells5 hHm.out.2.2
        go_wp2_with fail
        refine (hpm.out _ hHm.out).mono ?_
        clear d0 d1 d2 d3 d4 hHm
        rintro e w13 ⟨rfl, hH3⟩
        have hHm := Lib.hid hH3
        clear hH3
        rcases hcm.out with ⟨y', hy, hy5⟩ | hy
        · injection hy with hy1 hy2
          subst hy1 hy2
          have hy5' := Lib.hid hy5
          have hy6 : 4 ≤ y.size := by omega
          have hy7 : y.size ≤ 2000 := by omega
          clear hy5
          go_wp2_with fail
          refine (htd.out y _ hy6 hy7 hHm.out).mono ?_
          rintro e w14 ⟨rfl, hH14⟩
          have hH14' := Lib.hid hH14
          clear hH14 hHm
          have hts2 : (turned y (placeN i y.size) b 4).size ≤ 2000 := by rw [turned_size]; exact hy7
          have hmix2 : Hid ((unpackM (turned y (placeN i y.size) b 4)).2 = 4 ∨ (mixB (placeN i y.size) b 32 && outB (placeN i y.size) b 32) = true) := by
            by_cases hM : (mixB (placeN i y.size) b 32 && outB (placeN i y.size) b 32) = true
            · exact .inr hM
            · refine .inl ?_
              have hlt := placeN_lt i y.size hy6
              rw [meta_tells ⟨t, r, f, p, l⟩ y hzm'.out (placeN i y.size) b (by rw [← hy5'.out]; exact hlt) hb hb0'.out (mix_or _ _ hM)]
          have hun2 := Lib.hid (hum.out (turned y (placeN i y.size) b 4) w14 hts2 hH14'.out)
          obtain ⟨T2, hTt2⟩ : ∃ T, T = turned y (placeN i y.size) b 4 := ⟨_, rfl⟩
          rw [← hTt2] at hun2 hmix2 hts2 ⊢
          clear hTt2
          obtain ⟨⟨⟨v0, v1, v2, v3, v4⟩, v5⟩, hU2⟩ : ∃ U, unpackM T2 = U := ⟨_, rfl⟩
          rw [hU2] at hun2 hmix2
          clear hU2
          simp only at hun2 hmix2
          go_wp2_with fail
          refine hun2.out.mono ?_
          rintro e w15 ⟨rfl, hH15⟩
          have hH15' := Lib.hid (hH15.alloc (Obj.cells #[.int .i64 v0, .int .i64 v1, .int .i64 v2, .int .i64 v3, .int .i64 v4] 46))
          clear hH15 hH14' hun2
          by_cases h45 : v5 = 4
          · subst h45
            clear hmix2
            go_wp2
            go_ret
            exact ⟨rfl, hH15'.out.1⟩
          · have hM2 := Lib.hid (hmix2.out.resolve_left h45)
            have hne2 : (v5 != 4) = true := by simpa using h45
            clear h45 hmix2
            go_wp2_with fail
            refine (hmx.out y 32 _ hy6 hy7 (by decide) hM2.out hH15'.out).mono ?_
            rintro e w16 ⟨rfl, hH16⟩
            go_wp2
            go_ret
            exact ⟨rfl, hH16.1⟩
        · injection hy with hy1 hy2
          subst hy1 hy2
          go_wp2
          go_ret
          exact ⟨rfl, hHm.out.1⟩
  · have hs2 : (2000 : Int) < (body.size : Int) := by omega
    go_enter Tryd.func12, Tryd.ntmps12
    go_wp2_with fail
    refine (haw.out _ hH0.out).mono ?_
    rintro e w2 ⟨rfl, hH2⟩
    have hH2' := Lib.hid hH2
    clear hH2
    obtain ⟨c0, c1, c2, c3⟩ := hH2'.out.page
    go_wp2
    go_ret
    exact ⟨rfl, hH2'.out.1⟩
end Go.Proofs.YtcoddeemfdnjpaaDoor.PagePlain
