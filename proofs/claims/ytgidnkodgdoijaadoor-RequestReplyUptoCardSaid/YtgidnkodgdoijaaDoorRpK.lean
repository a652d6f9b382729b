/- The walk of keep.Record. -/
import Derived.Test.YtgidnkodgdoijaaDoorSrcR
import Derived.Deep.RegionWith
import Derived.Deep.DeepCutAuto
import Derived.Deep.CutBlock
namespace Go.Proofs.YtgidnkodgdoijaaDoor
open Go Go.RowKit
set_option linter.unusedVariables false

/-- The source over xs in block g, the empty record in block g - 1; all that was there is as it was. -/
def NxI (W : World) (g : Nat) (A : Option Addr) (c : Nat) (xs : List Int) (w : World) (i : Nat) : Prop :=
  Src w g A xs.length c i ∧ Bk w W.heap.size 24 #[.int .i64 0, .int .i64 0, .string ⟨#[]⟩, .int .i64 0] ∧ Rd w W.heap.size 1 A xs.length (ints xs) ∧ Below W.heap.size W w ∧ W.heap.size < g
theorem NxI.alloc {W : World} {g : Nat} {A : Option Addr} {c : Nat} {xs : List Int} {w : World} {i : Nat} (h : NxI W g A c xs w i) (o : Obj) : NxI W g A c xs (w.alloc o) i :=
  ⟨Bk.alloc h.1 o, h.2.1.alloc o, h.2.2.1.alloc h.2.2.2.1.size o, h.2.2.2.1.alloc h.2.2.2.1.size o, h.2.2.2.2⟩
theorem NxI.drewN {W : World} {g : Nat} {A : Option Addr} {c : Nat} {xs : List Int} {w : World} {i : Nat} (h : NxI W g A c xs w i) (n : Nat) : NxI W g A c xs (w.drewN n) i :=
  ⟨Bk.drewN h.1 n, h.2.1.drewN n, h.2.2.1.drewN n, below_drewN h.2.2.2.1 n, h.2.2.2.2⟩
theorem NxI.drew {W : World} {g : Nat} {A : Option Addr} {c : Nat} {xs : List Int} {w : World} {i : Nat} (h : NxI W g A c xs w i) : NxI W g A c xs w.drew i := h.drewN 1
/-- The call returns a number below m. -/
def RetN (W : World) (g : Nat) (A : Option Addr) (c : Nat) (xs : List Int) (m : Int) (w : World) (e : Ending) (w' : World) : Prop :=
  ∃ (v : Int) (i : Nat), e = .returned (.int .i64 v) ∧ 0 ≤ v ∧ v < m ∧ NxI W g A c xs w' i ∧ w.grownBy w' (some g)
theorem nxi {W : World} {g : Nat} {A : Option Addr} {c : Nat} {xs : List Int} {w : World} {i : Nat} (m : Int) (h : NxI W g A c xs w i) (hl : xs.length ≤ maxLen) (h1 : 1 ≤ m) (h2 : m ≤ 9223372036854775807) :
    Calls Tryd.prog 17 #[.pointer (some ⟨g, 0, none⟩), .int .i64 m] w (RetN W g A c xs m w) := by
  obtain ⟨k1, k2, k3, k4, k5⟩ := h
  refine (next_any g A c xs i m h1 h2 W.heap.size w k1 k3 (by omega) hl).mono ?_
  rintro e w' ⟨rfl, hs, hg⟩
  exact ⟨_, _, rfl, Kp.nx_lo xs i m h1, Kp.nx_hi xs i m h1, ⟨hs, k2.grown hg (by intro e; injection e; omega), k3.grown hg k4.size (fun q hq => by injection hq; omega), k4.grown hg k4.size (fun q hq => by injection hq; omega), k5⟩, hg⟩
/-- The call returns a record. -/
def RetRec (w : World) (e : Ending) (w' : World) : Prop :=
  ∃ (st ow dl : Int) (nm : ByteArray), e = .returned (.agg #[.int .i64 st, .int .i64 ow, .string nm, .int .i64 dl]) ∧ 0 ≤ st ∧ st ≤ 3 ∧ 0 ≤ ow ∧ ow ≤ 4 ∧ -1 ≤ dl ∧ dl ≤ 41 ∧ nm.size ≤ 3 ∧ Below w.heap.size w w'
/-- The record lies in block b. -/
def RcB (W : World) (g : Nat) (A : Option Addr) (c : Nat) (xs : List Int) (v : Value) (w : World) : Prop :=
  ∃ (b i : Nat) (st ow dl : Int) (nm : ByteArray), v = .pointer (some ⟨b, 0, none⟩) ∧ NxI W g A c xs w i ∧ Bk w b 24 #[.int .i64 st, .int .i64 ow, .string nm, .int .i64 dl] ∧ g < b ∧ 0 ≤ st ∧ st < 3 ∧ 0 ≤ ow ∧ ow ≤ 4 ∧ 1 ≤ dl ∧ dl ≤ 41 ∧ nm.size ≤ 3
theorem abc_size (k : Nat) : ((⟨#[97, 98, 99]⟩ : ByteArray).extract k 3).size ≤ 3 := by
  rw [ByteArray.size_extract]
  show min 3 3 - k ≤ 3
  omega
theorem NxI.set_ {W : World} {g b : Nat} {A : Option Addr} {c : Nat} {xs : List Int} {w : World} {i : Nat} (h : NxI W g A c xs w i) (hb : g < b) (j : Nat) (u : Value) : NxI W g A c xs (w.setCell ⟨b, j, none⟩ u) i :=
  ⟨Bk.far h.1 (by show g ≠ b; omega) u, h.2.1.far (by show W.heap.size ≠ b; have := h.2.2.2.2; omega) u, h.2.2.1.setCell (by show W.heap.size ≤ b; have := h.2.2.2.2; omega) u, h.2.2.2.1.setCell (by show W.heap.size ≤ b; have := h.2.2.2.2; omega) u, h.2.2.2.2⟩
theorem rc_new {W : World} {g : Nat} {A : Option Addr} {c : Nat} {xs : List Int} {w : World} {i : Nat} {v0 v1 d : Int} {k : Nat} (h : NxI W g A c xs w i) (hb : g.succ ≤ w.heap.size) (a0 : 0 ≤ v0) (b0 : v0 < 3) (a1 : 0 ≤ v1) (b1 : v1 ≤ 4) (a3 : 1 ≤ d) (b3 : d ≤ 41) :
    RcB W g A c xs (.pointer (some ⟨w.heap.size, 0, none⟩)) (w.alloc (.cells #[.int .i64 v0, .int .i64 v1, .string ((⟨#[97, 98, 99]⟩ : ByteArray).extract k 3), .int .i64 d] 24)) :=
  ⟨_, i, v0, v1, d, _, rfl, h.alloc _, Bk.new w _ _, hb, a0, b0, a1, b1, a3, b3, abc_size k⟩
theorem rc_set {W : World} {g b : Nat} {A : Option Addr} {c : Nat} {xs : List Int} {w : World} {i : Nat} {v0 v1 d : Int} {k : Nat} (h : NxI W g A c xs w i) (hk : Bk w b 24 #[.int .i64 0, .int .i64 0, .string ⟨#[]⟩, .int .i64 0]) (hb : g.succ ≤ b) (a0 : 0 ≤ v0) (b0 : v0 < 3) (a1 : 0 ≤ v1) (b1 : v1 ≤ 4) (a3 : 1 ≤ d) (b3 : d ≤ 41) :
    RcB W g A c xs (.pointer (some ⟨b, 0, none⟩)) ((((w.setCell ⟨b, 0, none⟩ (.int .i64 v0)).setCell ⟨b, 1, none⟩ (.int .i64 v1)).setCell ⟨b, 2, none⟩ (.string ((⟨#[97, 98, 99]⟩ : ByteArray).extract k 3))).setCell ⟨b, 3, none⟩ (.int .i64 d)) :=
  ⟨b, i, v0, v1, d, _, rfl, (((h.set_ hb _ _).set_ hb _ _).set_ hb _ _).set_ hb _ _, by simpa using (((hk.set_ 0 _).set_ 1 _).set_ 2 _).set_ 3 _, hb, a0, b0, a1, b1, a3, b3, abc_size k⟩
/-- The record in block b, as it is near the end. -/
def RcC (W : World) (g b : Nat) (A : Option Addr) (c : Nat) (xs : List Int) (w : World) : Prop :=
  ∃ (i : Nat) (st ow dl : Int) (nm : ByteArray), NxI W g A c xs w i ∧ Bk w b 24 #[.int .i64 st, .int .i64 ow, .string nm, .int .i64 dl] ∧ g < b ∧ 0 ≤ st ∧ st ≤ 3 ∧ 0 ≤ ow ∧ ow ≤ 4 ∧ -1 ≤ dl ∧ dl ≤ 41 ∧ nm.size ≤ 3
set_option maxRecDepth 100000 in
set_option maxHeartbeats 4000000 in
theorem record_any (A : Option Addr) (c : Nat) (xs : List Int) (w : World) (hr : Rd w w.heap.size 1 A xs.length (ints xs)) (hl : xs.length ≤ maxLen) :
    Calls Tryd.prog 8 #[.slice A xs.length c] w (RetRec w) := by
  have HL := Lib.hid hl
  have hn0 : NxI w (w.heap.size + 1) A c xs ((w.alloc (.cells #[.int .i64 0, .int .i64 0, .string ⟨#[]⟩, .int .i64 0] 24)).alloc (.cells #[.slice A xs.length c, .int .i64 0] 62)) 0 :=
    ⟨by have := src_new (w.alloc (.cells #[.int .i64 0, .int .i64 0, .string ⟨#[]⟩, .int .i64 0] 24)) A xs.length c; simpa using this, (Bk.new w _ _).alloc _, (hr.alloc (Nat.le_refl _) _).alloc (by simp) _, ((Below.refl _ _).alloc (Nat.le_refl _) _).alloc (by simp) _, by omega⟩
  clear hr hl
  go_enter Tryd.func8, Tryd.ntmps8
  go_wp2_with fail
  refine (from_any A xs.length c _).mono ?_
  rintro e w1 ⟨rfl, rfl⟩
  go_upto_region 2 with fail
  go_cut [4] (fun v4 wx => RcB w (w.heap.size + 1) A c xs v4 wx)
  case first =>
    have hz0 : w.heap.size + 1 < ((w.alloc (.cells #[.int .i64 0, .int .i64 0, .string ⟨#[]⟩, .int .i64 0] 24)).alloc (.cells #[.slice A xs.length c, .int .i64 0] 62)).drew.heap.size := by
      show w.heap.size + 1 < ((w.alloc _).alloc _).heap.size; simp
    have hn1 := hn0.drew
    clear hn0
    refine wp_region_any (by kernel_rfl) ?_
    change wpAny _ _ _ _ 13 #[false, false, false, false, false, false, false, false, false, false, false, false, false] _ (World.drew _)
    generalize ((w.alloc (.cells #[.int .i64 0, .int .i64 0, .string ⟨#[]⟩, .int .i64 0] 24)).alloc (.cells #[.slice A xs.length c, .int .i64 0] 62)).drew = W0 at hn1 hz0 ⊢
    have HN := Lib.hid hn1; have HZ := Lib.hid (Nat.succ_le_of_lt hz0)
    clear hn1 hz0
    refine wpAny_take (i := 0) (v := .pointer (some ⟨w.heap.size + 1, 0, none⟩)) rfl (by kernel_rfl) (by kernel_rfl) (by kernel_rfl) (fun _ _ _ h => h) (Or.inl ⟨by rfl, fun w => ?_⟩) ?_
    · go_simp
    try simp only [Act.put, List.setIfInBounds_toArray, List.set_cons_zero, List.set_cons_succ]
    refine wpAny_take (i := 2) (v := .pointer (some ⟨w.heap.size + 1, 0, none⟩)) rfl (by kernel_rfl) (by kernel_rfl) (by kernel_rfl) (fun _ _ _ h => h) (Or.inl ⟨by rfl, fun w => ?_⟩) ?_
    · go_simp
    try simp only [Act.put, List.setIfInBounds_toArray, List.set_cons_zero, List.set_cons_succ]
    refine wpAny_take (i := 4) (v := .pointer (some ⟨w.heap.size + 1, 0, none⟩)) rfl (by kernel_rfl) (by kernel_rfl) (by kernel_rfl) (fun _ _ _ h => h) (Or.inl ⟨by rfl, fun w => ?_⟩) ?_
    · go_simp
    try simp only [Act.put, List.setIfInBounds_toArray, List.set_cons_zero, List.set_cons_succ]
    refine wpAny_take (i := 7) (v := .pointer (some ⟨w.heap.size + 1, 0, none⟩)) rfl (by kernel_rfl) (by kernel_rfl) (by kernel_rfl) (fun _ _ _ h => h) (Or.inl ⟨by rfl, fun w => ?_⟩) ?_
    · go_simp
    try simp only [Act.put, List.setIfInBounds_toArray, List.set_cons_zero, List.set_cons_succ]
    refine wpAny_ready (rs := [1, 11]) (by kernel_rfl) (by simp) ?_
    refine AllReady.cons rfl (fun K hK => ?_) (AllReady.cons rfl (fun K hK => ?_) AllReady.nil)
    · skip
      go_simp
      refine (nxi 3 HN.out HL.out (by omega) (by omega)).mono ?_
      rintro e w0 ⟨v0, i0, rfl, a0, b0, hn, hg⟩
      have HN0 := Lib.hid hn
      have HZ0 := Lib.hid (Nat.le_trans HZ.out hg.size)
      clear hn hg
      refine hK _ _ ?_
      clear hK K
      try simp only [Act.put, List.setIfInBounds_toArray, List.set_cons_zero, List.set_cons_succ]
      refine wpAny_ready (rs := [3, 11]) (by kernel_rfl) (by simp) ?_
      refine AllReady.cons rfl (fun K hK => ?_) (AllReady.cons rfl (fun K hK => ?_) AllReady.nil)
      · skip
        go_simp
        refine (nxi 4 HN0.out HL.out (by omega) (by omega)).mono ?_
        rintro e w1 ⟨v1, i1, rfl, a1, b1, hn, hg⟩
        have HN1 := Lib.hid hn
        have HZ1 := Lib.hid (Nat.le_trans HZ0.out hg.size)
        clear hn hg
        refine hK _ _ ?_
        clear hK K
        try simp only [Act.put, List.setIfInBounds_toArray, List.set_cons_zero, List.set_cons_succ]
        refine wpAny_ready (rs := [5, 11]) (by kernel_rfl) (by simp) ?_
        refine AllReady.cons rfl (fun K hK => ?_) (AllReady.cons rfl (fun K hK => ?_) AllReady.nil)
        · skip
          go_simp
          refine (nxi 3 HN1.out HL.out (by omega) (by omega)).mono ?_
          rintro e w2 ⟨v2, i2, rfl, a2, b2, hn, hg⟩
          have HN2 := Lib.hid hn
          have HZ2 := Lib.hid (Nat.le_trans HZ1.out hg.size)
          clear hn hg
          refine hK _ _ ?_
          clear hK K
          try simp only [Act.put, List.setIfInBounds_toArray, List.set_cons_zero, List.set_cons_succ]
          have c2 : v2 ≤ 3 := by omega
          refine wpAny_take (i := 6) (v := .string ((⟨#[97, 98, 99]⟩ : ByteArray).extract v2.toNat 3)) rfl (by kernel_rfl) (by kernel_rfl) (by kernel_rfl) (fun _ _ _ h => h) (Or.inl ⟨by rfl, fun w => ?_⟩) ?_
          · go_simp
          try simp only [Act.put, List.setIfInBounds_toArray, List.set_cons_zero, List.set_cons_succ]
          clear c2
          refine wpAny_ready (rs := [8, 11]) (by kernel_rfl) (by simp) ?_
          refine AllReady.cons rfl (fun K hK => ?_) (AllReady.cons rfl (fun K hK => ?_) AllReady.nil)
          · skip
            go_simp
            refine (nxi 40 HN2.out HL.out (by omega) (by omega)).mono ?_
            rintro e w3 ⟨v3, i3, rfl, a3, b3, hn, hg⟩
            have HN3 := Lib.hid hn
            have HZ3 := Lib.hid (Nat.le_trans HZ2.out hg.size)
            clear hn hg
            refine hK _ _ ?_
            clear hK K
            try simp only [Act.put, List.setIfInBounds_toArray, List.set_cons_zero, List.set_cons_succ]
            have hwr : IntKind.i64.wrap (1 + v3) = 1 + v3 := IntWalk.i64_in _ (by omega)
            refine wpAny_take (i := 9) (v := .int .i64 (1 + v3)) rfl (by kernel_rfl) (by kernel_rfl) (by kernel_rfl) (fun _ _ _ h => h) (Or.inl ⟨by rfl, fun w => ?_⟩) ?_
            · go_simp
            try simp only [Act.put, List.setIfInBounds_toArray, List.set_cons_zero, List.set_cons_succ]
            clear hwr
            refine wpAny_take (i := 10) (v := .agg #[.int .i64 v0, .int .i64 v1, .string ((⟨#[97, 98, 99]⟩ : ByteArray).extract v2.toNat 3), .int .i64 (1 + v3)]) rfl (by kernel_rfl) (by kernel_rfl) (by kernel_rfl) (fun _ _ _ h => h) (Or.inl ⟨by rfl, fun w => ?_⟩) ?_
            · go_simp
            try simp only [Act.put, List.setIfInBounds_toArray, List.set_cons_zero, List.set_cons_succ]
            refine wpAny_ready (rs := [11]) (by kernel_rfl) (by simp) ?_
            refine AllReady.cons rfl (fun K hK => ?_) AllReady.nil
            have HGB := Lib.hid HZ3.out
            have HK := Lib.hid (Bk.new w3 24 #[.int .i64 0, .int .i64 0, .string ⟨#[]⟩, .int .i64 0])
            go_simp
            refine hK _ _ ?_
            clear hK K
            try simp only [Act.put, List.setIfInBounds_toArray, List.set_cons_zero, List.set_cons_succ]
            refine wpAny_ready (rs := [12]) (by kernel_rfl) (by simp) ?_
            refine AllReady.cons rfl (fun K hK => ?_) AllReady.nil
            go_simp
            refine hK _ _ ?_
            clear hK K
            try simp only [Act.put, List.setIfInBounds_toArray, List.set_cons_zero, List.set_cons_succ]
            refine wpAny_done (by kernel_rfl) ?_ _
            go_step
            go_wp2_with fail
            go_meet
            case rel => exact rc_new HN3.out HGB.out a0 b0 a1 (by omega) (by omega) (by omega)
          · skip
            have HGB := Lib.hid HZ2.out
            have HK := Lib.hid (Bk.new w2 24 #[.int .i64 0, .int .i64 0, .string ⟨#[]⟩, .int .i64 0])
            go_simp
            refine hK _ _ ?_
            clear hK K
            try simp only [Act.put, List.setIfInBounds_toArray, List.set_cons_zero, List.set_cons_succ]
            refine wpAny_ready (rs := [8]) (by kernel_rfl) (by simp) ?_
            refine AllReady.cons rfl (fun K hK => ?_) AllReady.nil
            go_simp
            refine (nxi 40 (NxI.alloc HN2.out (.cells #[.int .i64 0, .int .i64 0, .string ⟨#[]⟩, .int .i64 0] 24)) HL.out (by omega) (by omega)).mono ?_
            rintro e w3 ⟨v3, i3, rfl, a3, b3, hn, hg⟩
            have HN3 := Lib.hid hn
            have HK3 := Lib.hid (HK.out.grown hg (by intro e; injection e; have := HGB.out; omega))
            clear hn hg
            refine hK _ _ ?_
            clear hK K
            try simp only [Act.put, List.setIfInBounds_toArray, List.set_cons_zero, List.set_cons_succ]
            have hwr : IntKind.i64.wrap (1 + v3) = 1 + v3 := IntWalk.i64_in _ (by omega)
            refine wpAny_take (i := 9) (v := .int .i64 (1 + v3)) rfl (by kernel_rfl) (by kernel_rfl) (by kernel_rfl) (fun _ _ _ h => h) (Or.inl ⟨by rfl, fun w => ?_⟩) ?_
            · go_simp
            try simp only [Act.put, List.setIfInBounds_toArray, List.set_cons_zero, List.set_cons_succ]
            clear hwr
            refine wpAny_take (i := 10) (v := .agg #[.int .i64 v0, .int .i64 v1, .string ((⟨#[97, 98, 99]⟩ : ByteArray).extract v2.toNat 3), .int .i64 (1 + v3)]) rfl (by kernel_rfl) (by kernel_rfl) (by kernel_rfl) (fun _ _ _ h => h) (Or.inl ⟨by rfl, fun w => ?_⟩) ?_
            · go_simp
            try simp only [Act.put, List.setIfInBounds_toArray, List.set_cons_zero, List.set_cons_succ]
            refine wpAny_ready (rs := [12]) (by kernel_rfl) (by simp) ?_
            refine AllReady.cons rfl (fun K hK => ?_) AllReady.nil
            have k0 := (show _ = some (Value.int .i64 0) from HK3.out.cell 0)
            have f0 := HK3.out.frozen 0
            have k1 := (show _ = some (Value.int .i64 0) from HK3.out.cell 1)
            have f1 := HK3.out.frozen 1
            have k2 := (show _ = some (Value.string ⟨#[]⟩) from HK3.out.cell 2)
            have f2 := HK3.out.frozen 2
            have k3 := (show _ = some (Value.int .i64 0) from HK3.out.cell 3)
            have f3 := HK3.out.frozen 3
            go_simp
            clear k0 k1 k2 k3 f0 f1 f2 f3
            refine hK _ _ ?_
            clear hK K
            try simp only [Act.put, List.setIfInBounds_toArray, List.set_cons_zero, List.set_cons_succ]
            refine wpAny_done (by kernel_rfl) ?_ _
            go_step
            go_wp2_with fail
            go_meet
            case rel => exact rc_set HN3.out HK3.out HGB.out a0 b0 a1 (by omega) (by omega) (by omega)
        · skip
          have HGB := Lib.hid HZ1.out
          have HK := Lib.hid (Bk.new w1 24 #[.int .i64 0, .int .i64 0, .string ⟨#[]⟩, .int .i64 0])
          go_simp
          refine hK _ _ ?_
          clear hK K
          try simp only [Act.put, List.setIfInBounds_toArray, List.set_cons_zero, List.set_cons_succ]
          refine wpAny_ready (rs := [5]) (by kernel_rfl) (by simp) ?_
          refine AllReady.cons rfl (fun K hK => ?_) AllReady.nil
          go_simp
          refine (nxi 3 (NxI.alloc HN1.out (.cells #[.int .i64 0, .int .i64 0, .string ⟨#[]⟩, .int .i64 0] 24)) HL.out (by omega) (by omega)).mono ?_
          rintro e w2 ⟨v2, i2, rfl, a2, b2, hn, hg⟩
          have HN2 := Lib.hid hn
          have HK2 := Lib.hid (HK.out.grown hg (by intro e; injection e; have := HGB.out; omega))
          clear hn hg
          refine hK _ _ ?_
          clear hK K
          try simp only [Act.put, List.setIfInBounds_toArray, List.set_cons_zero, List.set_cons_succ]
          have c2 : v2 ≤ 3 := by omega
          refine wpAny_take (i := 6) (v := .string ((⟨#[97, 98, 99]⟩ : ByteArray).extract v2.toNat 3)) rfl (by kernel_rfl) (by kernel_rfl) (by kernel_rfl) (fun _ _ _ h => h) (Or.inl ⟨by rfl, fun w => ?_⟩) ?_
          · go_simp
          try simp only [Act.put, List.setIfInBounds_toArray, List.set_cons_zero, List.set_cons_succ]
          clear c2
          refine wpAny_ready (rs := [8]) (by kernel_rfl) (by simp) ?_
          refine AllReady.cons rfl (fun K hK => ?_) AllReady.nil
          go_simp
          refine (nxi 40 HN2.out HL.out (by omega) (by omega)).mono ?_
          rintro e w3 ⟨v3, i3, rfl, a3, b3, hn, hg⟩
          have HN3 := Lib.hid hn
          have HK3 := Lib.hid (HK2.out.grown hg (by intro e; injection e; have := HGB.out; omega))
          clear hn hg
          refine hK _ _ ?_
          clear hK K
          try simp only [Act.put, List.setIfInBounds_toArray, List.set_cons_zero, List.set_cons_succ]
          have hwr : IntKind.i64.wrap (1 + v3) = 1 + v3 := IntWalk.i64_in _ (by omega)
          refine wpAny_take (i := 9) (v := .int .i64 (1 + v3)) rfl (by kernel_rfl) (by kernel_rfl) (by kernel_rfl) (fun _ _ _ h => h) (Or.inl ⟨by rfl, fun w => ?_⟩) ?_
          · go_simp
          try simp only [Act.put, List.setIfInBounds_toArray, List.set_cons_zero, List.set_cons_succ]
          clear hwr
          refine wpAny_take (i := 10) (v := .agg #[.int .i64 v0, .int .i64 v1, .string ((⟨#[97, 98, 99]⟩ : ByteArray).extract v2.toNat 3), .int .i64 (1 + v3)]) rfl (by kernel_rfl) (by kernel_rfl) (by kernel_rfl) (fun _ _ _ h => h) (Or.inl ⟨by rfl, fun w => ?_⟩) ?_
          · go_simp
          try simp only [Act.put, List.setIfInBounds_toArray, List.set_cons_zero, List.set_cons_succ]
          refine wpAny_ready (rs := [12]) (by kernel_rfl) (by simp) ?_
          refine AllReady.cons rfl (fun K hK => ?_) AllReady.nil
          have k0 := (show _ = some (Value.int .i64 0) from HK3.out.cell 0)
          have f0 := HK3.out.frozen 0
          have k1 := (show _ = some (Value.int .i64 0) from HK3.out.cell 1)
          have f1 := HK3.out.frozen 1
          have k2 := (show _ = some (Value.string ⟨#[]⟩) from HK3.out.cell 2)
          have f2 := HK3.out.frozen 2
          have k3 := (show _ = some (Value.int .i64 0) from HK3.out.cell 3)
          have f3 := HK3.out.frozen 3
          go_simp
          clear k0 k1 k2 k3 f0 f1 f2 f3
          refine hK _ _ ?_
          clear hK K
          try simp only [Act.put, List.setIfInBounds_toArray, List.set_cons_zero, List.set_cons_succ]
          refine wpAny_done (by kernel_rfl) ?_ _
          go_step
          go_wp2_with fail
          go_meet
          case rel => exact rc_set HN3.out HK3.out HGB.out a0 b0 a1 (by omega) (by omega) (by omega)
      · skip
        have HGB := Lib.hid HZ0.out
        have HK := Lib.hid (Bk.new w0 24 #[.int .i64 0, .int .i64 0, .string ⟨#[]⟩, .int .i64 0])
        go_simp
        refine hK _ _ ?_
        clear hK K
        try simp only [Act.put, List.setIfInBounds_toArray, List.set_cons_zero, List.set_cons_succ]
        refine wpAny_ready (rs := [3]) (by kernel_rfl) (by simp) ?_
        refine AllReady.cons rfl (fun K hK => ?_) AllReady.nil
        go_simp
        refine (nxi 4 (NxI.alloc HN0.out (.cells #[.int .i64 0, .int .i64 0, .string ⟨#[]⟩, .int .i64 0] 24)) HL.out (by omega) (by omega)).mono ?_
        rintro e w1 ⟨v1, i1, rfl, a1, b1, hn, hg⟩
        have HN1 := Lib.hid hn
        have HK1 := Lib.hid (HK.out.grown hg (by intro e; injection e; have := HGB.out; omega))
        clear hn hg
        refine hK _ _ ?_
        clear hK K
        try simp only [Act.put, List.setIfInBounds_toArray, List.set_cons_zero, List.set_cons_succ]
        refine wpAny_ready (rs := [5]) (by kernel_rfl) (by simp) ?_
        refine AllReady.cons rfl (fun K hK => ?_) AllReady.nil
        go_simp
        refine (nxi 3 HN1.out HL.out (by omega) (by omega)).mono ?_
        rintro e w2 ⟨v2, i2, rfl, a2, b2, hn, hg⟩
        have HN2 := Lib.hid hn
        have HK2 := Lib.hid (HK1.out.grown hg (by intro e; injection e; have := HGB.out; omega))
        clear hn hg
        refine hK _ _ ?_
        clear hK K
        try simp only [Act.put, List.setIfInBounds_toArray, List.set_cons_zero, List.set_cons_succ]
        have c2 : v2 ≤ 3 := by omega
        refine wpAny_take (i := 6) (v := .string ((⟨#[97, 98, 99]⟩ : ByteArray).extract v2.toNat 3)) rfl (by kernel_rfl) (by kernel_rfl) (by kernel_rfl) (fun _ _ _ h => h) (Or.inl ⟨by rfl, fun w => ?_⟩) ?_
        · go_simp
        try simp only [Act.put, List.setIfInBounds_toArray, List.set_cons_zero, List.set_cons_succ]
        clear c2
        refine wpAny_ready (rs := [8]) (by kernel_rfl) (by simp) ?_
        refine AllReady.cons rfl (fun K hK => ?_) AllReady.nil
        go_simp
        refine (nxi 40 HN2.out HL.out (by omega) (by omega)).mono ?_
        rintro e w3 ⟨v3, i3, rfl, a3, b3, hn, hg⟩
        have HN3 := Lib.hid hn
        have HK3 := Lib.hid (HK2.out.grown hg (by intro e; injection e; have := HGB.out; omega))
        clear hn hg
        refine hK _ _ ?_
        clear hK K
        try simp only [Act.put, List.setIfInBounds_toArray, List.set_cons_zero, List.set_cons_succ]
        have hwr : IntKind.i64.wrap (1 + v3) = 1 + v3 := IntWalk.i64_in _ (by omega)
        refine wpAny_take (i := 9) (v := .int .i64 (1 + v3)) rfl (by kernel_rfl) (by kernel_rfl) (by kernel_rfl) (fun _ _ _ h => h) (Or.inl ⟨by rfl, fun w => ?_⟩) ?_
        · go_simp
        try simp only [Act.put, List.setIfInBounds_toArray, List.set_cons_zero, List.set_cons_succ]
        clear hwr
        refine wpAny_take (i := 10) (v := .agg #[.int .i64 v0, .int .i64 v1, .string ((⟨#[97, 98, 99]⟩ : ByteArray).extract v2.toNat 3), .int .i64 (1 + v3)]) rfl (by kernel_rfl) (by kernel_rfl) (by kernel_rfl) (fun _ _ _ h => h) (Or.inl ⟨by rfl, fun w => ?_⟩) ?_
        · go_simp
        try simp only [Act.put, List.setIfInBounds_toArray, List.set_cons_zero, List.set_cons_succ]
        refine wpAny_ready (rs := [12]) (by kernel_rfl) (by simp) ?_
        refine AllReady.cons rfl (fun K hK => ?_) AllReady.nil
        have k0 := (show _ = some (Value.int .i64 0) from HK3.out.cell 0)
        have f0 := HK3.out.frozen 0
        have k1 := (show _ = some (Value.int .i64 0) from HK3.out.cell 1)
        have f1 := HK3.out.frozen 1
        have k2 := (show _ = some (Value.string ⟨#[]⟩) from HK3.out.cell 2)
        have f2 := HK3.out.frozen 2
        have k3 := (show _ = some (Value.int .i64 0) from HK3.out.cell 3)
        have f3 := HK3.out.frozen 3
        go_simp
        clear k0 k1 k2 k3 f0 f1 f2 f3
        refine hK _ _ ?_
        clear hK K
        try simp only [Act.put, List.setIfInBounds_toArray, List.set_cons_zero, List.set_cons_succ]
        refine wpAny_done (by kernel_rfl) ?_ _
        go_step
        go_wp2_with fail
        go_meet
        case rel => exact rc_set HN3.out HK3.out HGB.out a0 b0 a1 (by omega) (by omega) (by omega)
    · skip
      have HGB := Lib.hid HZ.out
      have HK := Lib.hid (Bk.new W0 24 #[.int .i64 0, .int .i64 0, .string ⟨#[]⟩, .int .i64 0])
      go_simp
      refine hK _ _ ?_
      clear hK K
      try simp only [Act.put, List.setIfInBounds_toArray, List.set_cons_zero, List.set_cons_succ]
      refine wpAny_ready (rs := [1]) (by kernel_rfl) (by simp) ?_
      refine AllReady.cons rfl (fun K hK => ?_) AllReady.nil
      go_simp
      refine (nxi 3 (NxI.alloc HN.out (.cells #[.int .i64 0, .int .i64 0, .string ⟨#[]⟩, .int .i64 0] 24)) HL.out (by omega) (by omega)).mono ?_
      rintro e w0 ⟨v0, i0, rfl, a0, b0, hn, hg⟩
      have HN0 := Lib.hid hn
      have HK0 := Lib.hid (HK.out.grown hg (by intro e; injection e; have := HGB.out; omega))
      clear hn hg
      refine hK _ _ ?_
      clear hK K
      try simp only [Act.put, List.setIfInBounds_toArray, List.set_cons_zero, List.set_cons_succ]
      refine wpAny_ready (rs := [3]) (by kernel_rfl) (by simp) ?_
      refine AllReady.cons rfl (fun K hK => ?_) AllReady.nil
      go_simp
      refine (nxi 4 HN0.out HL.out (by omega) (by omega)).mono ?_
      rintro e w1 ⟨v1, i1, rfl, a1, b1, hn, hg⟩
      have HN1 := Lib.hid hn
      have HK1 := Lib.hid (HK0.out.grown hg (by intro e; injection e; have := HGB.out; omega))
      clear hn hg
      refine hK _ _ ?_
      clear hK K
      try simp only [Act.put, List.setIfInBounds_toArray, List.set_cons_zero, List.set_cons_succ]
      refine wpAny_ready (rs := [5]) (by kernel_rfl) (by simp) ?_
      refine AllReady.cons rfl (fun K hK => ?_) AllReady.nil
      go_simp
      refine (nxi 3 HN1.out HL.out (by omega) (by omega)).mono ?_
      rintro e w2 ⟨v2, i2, rfl, a2, b2, hn, hg⟩
      have HN2 := Lib.hid hn
      have HK2 := Lib.hid (HK1.out.grown hg (by intro e; injection e; have := HGB.out; omega))
      clear hn hg
      refine hK _ _ ?_
      clear hK K
      try simp only [Act.put, List.setIfInBounds_toArray, List.set_cons_zero, List.set_cons_succ]
      have c2 : v2 ≤ 3 := by omega
      refine wpAny_take (i := 6) (v := .string ((⟨#[97, 98, 99]⟩ : ByteArray).extract v2.toNat 3)) rfl (by kernel_rfl) (by kernel_rfl) (by kernel_rfl) (fun _ _ _ h => h) (Or.inl ⟨by rfl, fun w => ?_⟩) ?_
      · go_simp
      try simp only [Act.put, List.setIfInBounds_toArray, List.set_cons_zero, List.set_cons_succ]
      clear c2
      refine wpAny_ready (rs := [8]) (by kernel_rfl) (by simp) ?_
      refine AllReady.cons rfl (fun K hK => ?_) AllReady.nil
      go_simp
      refine (nxi 40 HN2.out HL.out (by omega) (by omega)).mono ?_
      rintro e w3 ⟨v3, i3, rfl, a3, b3, hn, hg⟩
      have HN3 := Lib.hid hn
      have HK3 := Lib.hid (HK2.out.grown hg (by intro e; injection e; have := HGB.out; omega))
      clear hn hg
      refine hK _ _ ?_
      clear hK K
      try simp only [Act.put, List.setIfInBounds_toArray, List.set_cons_zero, List.set_cons_succ]
      have hwr : IntKind.i64.wrap (1 + v3) = 1 + v3 := IntWalk.i64_in _ (by omega)
      refine wpAny_take (i := 9) (v := .int .i64 (1 + v3)) rfl (by kernel_rfl) (by kernel_rfl) (by kernel_rfl) (fun _ _ _ h => h) (Or.inl ⟨by rfl, fun w => ?_⟩) ?_
      · go_simp
      try simp only [Act.put, List.setIfInBounds_toArray, List.set_cons_zero, List.set_cons_succ]
      clear hwr
      refine wpAny_take (i := 10) (v := .agg #[.int .i64 v0, .int .i64 v1, .string ((⟨#[97, 98, 99]⟩ : ByteArray).extract v2.toNat 3), .int .i64 (1 + v3)]) rfl (by kernel_rfl) (by kernel_rfl) (by kernel_rfl) (fun _ _ _ h => h) (Or.inl ⟨by rfl, fun w => ?_⟩) ?_
      · go_simp
      try simp only [Act.put, List.setIfInBounds_toArray, List.set_cons_zero, List.set_cons_succ]
      refine wpAny_ready (rs := [12]) (by kernel_rfl) (by simp) ?_
      refine AllReady.cons rfl (fun K hK => ?_) AllReady.nil
      have k0 := (show _ = some (Value.int .i64 0) from HK3.out.cell 0)
      have f0 := HK3.out.frozen 0
      have k1 := (show _ = some (Value.int .i64 0) from HK3.out.cell 1)
      have f1 := HK3.out.frozen 1
      have k2 := (show _ = some (Value.string ⟨#[]⟩) from HK3.out.cell 2)
      have f2 := HK3.out.frozen 2
      have k3 := (show _ = some (Value.int .i64 0) from HK3.out.cell 3)
      have f3 := HK3.out.frozen 3
      go_simp
      clear k0 k1 k2 k3 f0 f1 f2 f3
      refine hK _ _ ?_
      clear hK K
      try simp only [Act.put, List.setIfInBounds_toArray, List.set_cons_zero, List.set_cons_succ]
      refine wpAny_done (by kernel_rfl) ?_ _
      go_step
      go_wp2_with fail
      go_meet
      case rel => exact rc_set HN3.out HK3.out HGB.out a0 b0 a1 (by omega) (by omega) (by omega)
  case rest =>
    obtain ⟨b, i, st, ow, dl, nm, rfl, hn, hk, hgb, s0, s1, o0, o1, d0, d1, hm⟩ := hcut
    have HN := Lib.hid hn; have HK := Lib.hid hk
    have k0 : wc.cell? ⟨b, 0, none⟩ = some (.int .i64 st) := hk.cell 0
    have f0 := hk.frozen 0; have f1 := hk.frozen 1; have f2 := hk.frozen 2; have f3 := hk.frozen 3
    clear hn0 hn hk
    go_upto_if 20 with fail
    go_cut [4] (fun v4 wx => v4 = .pointer (some ⟨b, 0, none⟩) ∧ RcC w (w.heap.size + 1) b A c xs wx)
    case first =>
      by_cases hst : st = 2
      · subst hst
        have k3 : wc.cell? ⟨b, 3, none⟩ = some (.int .i64 dl) := HK.out.cell 3
        go_wp2_with fail
        go_meet
        case rel => exact ⟨rfl, i, 2, ow, 0, nm, HN.out.set_ hgb _ _, by simpa using HK.out.set_ 3 (.int .i64 0), hgb, by omega, by omega, by omega, by omega, by omega, by omega, hm⟩
      · have hb2 : (st == 2) = false := by simpa using hst
        clear hst
        go_wp2_with fail
        go_meet
        case rel => exact ⟨rfl, i, st, ow, dl, nm, HN.out, HK.out, hgb, by omega, by omega, by omega, by omega, by omega, by omega, hm⟩
    case rest =>
      clear k0 f0 f1 f2 f3
      obtain ⟨rfl, i, st, ow, dl, nm, hn, hk, hgb, s0, s1, o0, o1, d0, d1, hm⟩ := hcut
      have HN := Lib.hid hn; have HK := Lib.hid hk
      have k0 : wc.cell? ⟨b, 0, none⟩ = some (.int .i64 st) := hk.cell 0
      have f0 := hk.frozen 0; have f1 := hk.frozen 1; have f2 := hk.frozen 2; have f3 := hk.frozen 3
      clear hn hk
      go_upto_if 24 with fail
      go_cut [4] (fun v4 wx => v4 = .pointer (some ⟨b, 0, none⟩) ∧ RcC w (w.heap.size + 1) b A c xs wx)
      case first =>
        by_cases hst : st = 0
        · subst hst
          have k1 : wc.cell? ⟨b, 1, none⟩ = some (.int .i64 ow) := HK.out.cell 1
          have k2 : wc.cell? ⟨b, 2, none⟩ = some (.string nm) := HK.out.cell 2
          have k3 : wc.cell? ⟨b, 3, none⟩ = some (.int .i64 dl) := HK.out.cell 3
          go_wp2_with fail
          go_meet
          case rel => exact ⟨rfl, i, 0, 0, 0, ⟨#[]⟩, (((HN.out.set_ hgb _ _).set_ hgb _ _).set_ hgb _ _).set_ hgb _ _, by simpa using (((HK.out.set_ 0 (.int .i64 0)).set_ 1 (.int .i64 0)).set_ 2 (.string ⟨#[]⟩)).set_ 3 (.int .i64 0), hgb, by omega, by omega, by omega, by omega, by omega, by omega, by decide⟩
        · have hb2 : (st == 0) = false := by simpa using hst
          clear hst
          go_wp2_with fail
          go_meet
          case rel => exact ⟨rfl, i, st, ow, dl, nm, HN.out, HK.out, hgb, by omega, by omega, by omega, by omega, by omega, by omega, hm⟩
      case rest =>
       clear k0 f0 f1 f2 f3
       obtain ⟨rfl, i, st, ow, dl, nm, hn, hk, hgb, s0, s1, o0, o1, d0, d1, hm⟩ := hcut
       have HN := Lib.hid hn; have HK := Lib.hid hk
       clear hn hk
       go_wp2_with fail
       refine (nxi 10 HN.out HL.out (by omega) (by omega)).mono ?_
       rintro e w1 ⟨v, i1, rfl, a0, b0, hn, hg⟩
       have HN1 := Lib.hid hn; have HK1 := Lib.hid (HK.out.grown hg (by intro e; injection e; omega))
       clear hn hg
       go_upto_if 28 with fail
       go_cut [4] (fun v4 wx => v4 = .pointer (some ⟨b, 0, none⟩) ∧ RcC w (w.heap.size + 1) b A c xs wx)
       case first =>
        by_cases hv : v = 0
        · subst hv
          go_wp2_with fail
          refine (nxi 3 HN1.out HL.out (by omega) (by omega)).mono ?_
          rintro e w2 ⟨v, i2, rfl, a0, b0, hn, hg⟩
          have HN2 := Lib.hid hn; have HK2 := Lib.hid (HK1.out.grown hg (by intro e; injection e; omega))
          clear hn hg
          have f3 := HK2.out.frozen 3
          have k3 : w2.cell? ⟨b, 3, none⟩ = some (.int .i64 dl) := HK2.out.cell 3
          go_wp2_with fail
          go_meet
          case rel => exact ⟨rfl, i2, st, ow, v - 1, nm, HN2.out.set_ hgb _ _, by simpa using HK2.out.set_ 3 (.int .i64 (v - 1)), hgb, s0, s1, o0, o1, by omega, by omega, hm⟩
        · have hvb : (v == 0) = false := by simpa using hv
          clear hv
          go_wp2_with fail
          go_meet
          case rel => exact ⟨rfl, i1, st, ow, dl, nm, HN1.out, HK1.out, hgb, s0, s1, o0, o1, d0, d1, hm⟩
       case rest =>
        obtain ⟨rfl, i, st, ow, dl, nm, hn, hk, hgb, s0, s1, o0, o1, d0, d1, hm⟩ := hcut
        have HN := Lib.hid hn; have HK := Lib.hid hk; have hr := hn.2.1
        have HRB := Lib.hid (show Bk ((((wc.setCell ⟨w.heap.size, 0, none⟩ (.int .i64 st)).setCell ⟨w.heap.size, 1, none⟩ (.int .i64 ow)).setCell ⟨w.heap.size, 2, none⟩ (.string nm)).setCell ⟨w.heap.size, 3, none⟩ (.int .i64 dl)) w.heap.size 24 #[.int .i64 st, .int .i64 ow, .string nm, .int .i64 dl] by simpa using (((hr.set_ 0 _).set_ 1 _).set_ 2 _).set_ 3 _)
        have HBB := Lib.hid (show Below w.heap.size w ((((wc.setCell ⟨w.heap.size, 0, none⟩ (.int .i64 st)).setCell ⟨w.heap.size, 1, none⟩ (.int .i64 ow)).setCell ⟨w.heap.size, 2, none⟩ (.string nm)).setCell ⟨w.heap.size, 3, none⟩ (.int .i64 dl)) from (((hn.2.2.2.1.setCell (Nat.le_refl _) _).setCell (Nat.le_refl _) _).setCell (Nat.le_refl _) _).setCell (Nat.le_refl _) _)
        have k0 : wc.cell? ⟨b, 0, none⟩ = some (.int .i64 st) := hk.cell 0
        have k1 : wc.cell? ⟨b, 1, none⟩ = some (.int .i64 ow) := hk.cell 1
        have k2 : wc.cell? ⟨b, 2, none⟩ = some (.string nm) := hk.cell 2
        have k3 : wc.cell? ⟨b, 3, none⟩ = some (.int .i64 dl) := hk.cell 3
        have q0 : wc.cell? ⟨w.heap.size, 0, none⟩ = some (.int .i64 0) := hr.cell 0
        have q1 : wc.cell? ⟨w.heap.size, 1, none⟩ = some (.int .i64 0) := hr.cell 1
        have q2 : wc.cell? ⟨w.heap.size, 2, none⟩ = some (.string ⟨#[]⟩) := hr.cell 2
        have q3 : wc.cell? ⟨w.heap.size, 3, none⟩ = some (.int .i64 0) := hr.cell 3
        have f0 := hr.frozen 0; have f1 := hr.frozen 1; have f2 := hr.frozen 2; have f3 := hr.frozen 3
        clear hn hk hr
        go_wp2_with fail
        exact bodyPost_ret (results_cell_row (P := Tryd.prog) (p := 2) (ty := 24) rfl _ _ w.heap.size _ _ _ _ rfl HRB.out Tryd.underlying24 rfl (by kernel_rfl)) rfl ⟨st, ow, dl, nm, rfl, s0, s1, o0, o1, d0, d1, hm, HBB.out⟩
end Go.Proofs.YtgidnkodgdoijaaDoor
