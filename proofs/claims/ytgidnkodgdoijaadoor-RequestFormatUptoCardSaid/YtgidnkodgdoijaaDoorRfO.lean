/- The walk of the law RequestFormat. -/
import Derived.Test.YtgidnkodgdoijaaDoorRfM
import Derived.Test.YtgidnkodgdoijaaDoorRqO
namespace Go.Proofs.YtgidnkodgdoijaaDoor
open Go Go.RowKit Go.Proofs
set_option linter.unusedVariables false

set_option maxRecDepth 100000 in
set_option maxHeartbeats 8000000 in
theorem walk_RequestFormat (o t : Int) (A : Option Addr) (c : Nat) (xs : List ByteArray) (a1 a2 : Int) (a3 : Option Addr) (c3 : Nat) (x3 : List ByteArray) (w : World)
    (rd0 : Rd w w.heap.size 1 A xs.length (strs xs)) (u0 : xs.length ≤ 1048576) (v0 : ∀ s ∈ xs, s.size ≤ 1048576)
    (w1 : (Lit.int .i64 a1).wf = true) (w2 : (Lit.int .i64 a2).wf = true) (rd3 : Rd w w.heap.size 1 a3 x3.length (strs x3)) (m3 : x3.length ≤ maxLen) (f3 : ∀ s ∈ x3, s.size ≤ maxLen) (u3 : x3.length ≤ 1048576) (v3 : ∀ s ∈ x3, s.size ≤ 1048576) (ht : Tb w) :
    Calls Tryd.prog 4 #[.agg #[.int .i64 o, .int .i64 t, .slice A xs.length c], .int .i64 a1, .int .i64 a2, .slice a3 x3.length c3] w fun e w' => e = .returned (.bool true) ∧ Below w.heap.size w w' := by
  clear w1 w2 m3 f3
  have p0 := Kp.pick_lo a1 9 (by omega)
  have p1 := Kp.pick_hi a1 9 (by omega)
  have p2 := Kp.pick_lo a2 4 (by omega)
  have p3 := Kp.pick_hi a2 4 (by omega)
  have hx0 : ∀ x ∈ xs.map lst, x.length ≤ 1048576 := by
    intro x hx
    obtain ⟨s, hs, rfl⟩ := List.mem_map.1 hx
    rw [lst_length]; exact v0 s hs
  have hx3 : ∀ x ∈ x3.map lst, x.length ≤ 1048576 := by
    intro x hx
    obtain ⟨s, hs, rfl⟩ := List.mem_map.1 hx
    rw [lst_length]; exact v3 s hs
  have n0 : (xs.map lst).length = xs.length := List.length_map ..
  have n3 : (x3.map lst).length = x3.length := List.length_map ..
  have hf := fun (op ttl : Int) (W : World) (hR : Rd W W.heap.size 1 A xs.length (strs xs)) (hT : Tb W) => formatx_any op ttl A xs.length c (xs.map lst) W (by rw [map_lst]; exact hR) u0 hx0 (fun h h' => ftext_len op ttl _ h.1 h.2 h' (by omega) hx0) hT
  have hg := fun (op ttl : Int) (W : World) (hR : Rd W W.heap.size 1 A xs.length (strs xs)) => rformat_any op ttl A xs.length c (xs.map lst) W (by rw [map_lst]; exact hR) u0 hx0 (fun h h' => ftext_len op ttl _ h.1 h.2 h' (by omega) hx0)
  have hf3 := fun (op ttl : Int) (W : World) (hR : Rd W W.heap.size 1 a3 x3.length (strs x3)) (hT : Tb W) => formatx_any op ttl a3 x3.length c3 (x3.map lst) W (by rw [map_lst]; exact hR) u3 hx3 (fun h h' => ftext_len op ttl _ h.1 h.2 h' (by omega) hx3) hT
  have hg3 := fun (op ttl : Int) (W : World) (hR : Rd W W.heap.size 1 a3 x3.length (strs x3)) => rformat_any op ttl a3 x3.length c3 (x3.map lst) W (by rw [map_lst]; exact hR) u3 hx3 (fun h h' => ftext_len op ttl _ h.1 h.2 h' (by omega) hx3)
  obtain ⟨s0, e0, hs0⟩ := fmtAll_pair o t (xs.map lst)
  have hf0 := hf o t
  have hg0 := hg o t
  rw [hs0] at hf0 hg0
  generalize hP : Kp.pick a1 9 = P at *
  generalize hQ : Kp.pick a2 4 = Q at *
  obtain ⟨s3, e3, hs3⟩ := fmtAll_pair P (Q - 1) (x3.map lst)
  have hf4 := hf3 P (Q - 1)
  have hg4 := hg3 P (Q - 1)
  rw [hs3] at hf4 hg4
  have HF0 := Lib.hid hf0; have HG0 := Lib.hid hg0; have HF4 := Lib.hid hf4; have HG4 := Lib.hid hg4
  have HP := Lib.hid hP; have HQ := Lib.hid hQ; have HT := Lib.hid ht; have HR0 := Lib.hid rd0; have HR3 := Lib.hid rd3
  clear hf0 hg0 hf4 hg4 hf hg hf3 hg3 hx0 hx3 n0 n3 hs0 hs3 hP hQ ht rd0 rd3 v0 v3 u0 u3
  go_enter Tryd.func4, Tryd.ntmps4
  go_wp2_with fail
  refine (pick_any a1 9 (by omega) (by omega) _).mono ?_
  rw [HP.out]
  rintro e w9 ⟨rfl, rfl⟩
  go_wp2_with fail
  refine (pick_any a2 4 (by omega) (by omega) _).mono ?_
  rw [HQ.out]
  rintro e w9 ⟨rfl, rfl⟩
  go_wp2_with fail
  have hk0 : Bk ((w.alloc (.cells #[.int .i64 o, .int .i64 t, .slice A xs.length c] 35)).alloc (.cells #[.int .i64 P, .int .i64 (Q - 1), .slice a3 x3.length c3] 35)) w.heap.size 35 #[.int .i64 o, .int .i64 t, .slice A xs.length c] := (Bk.new w _ _).alloc _
  have hk1 : Bk ((w.alloc (.cells #[.int .i64 o, .int .i64 t, .slice A xs.length c] 35)).alloc (.cells #[.int .i64 P, .int .i64 (Q - 1), .slice a3 x3.length c3] 35)) (w.heap.size + 1) 35 #[.int .i64 P, .int .i64 (Q - 1), .slice a3 x3.length c3] := by
    have := Bk.new (w.alloc (.cells #[.int .i64 o, .int .i64 t, .slice A xs.length c] 35)) 35 #[.int .i64 P, .int .i64 (Q - 1), .slice a3 x3.length c3]
    simpa using this
  have hbw : Below w.heap.size w ((w.alloc (.cells #[.int .i64 o, .int .i64 t, .slice A xs.length c] 35)).alloc (.cells #[.int .i64 P, .int .i64 (Q - 1), .slice a3 x3.length c3] 35)) := ((Below.refl _ _).alloc (Nat.le_refl _) _).alloc (by simp) _
  have hsz : ((w.alloc (.cells #[.int .i64 o, .int .i64 t, .slice A xs.length c] 35)).alloc (.cells #[.int .i64 P, .int .i64 (Q - 1), .slice a3 x3.length c3] 35)).heap.size = w.heap.size + 2 := by simp
  generalize (w.alloc (.cells #[.int .i64 o, .int .i64 t, .slice A xs.length c] 35)).alloc (.cells #[.int .i64 P, .int .i64 (Q - 1), .slice a3 x3.length c3] 35) = W1 at *
  have HK0 := Lib.hid hk0; have HK1 := Lib.hid hk1; have HB1 := Lib.hid hbw
  clear hk0 hk1 hbw
  refine (HF0.out _ ((HR0.out.below HB1.out).more (by omega)) (HT.out.past HB1.out)).mono ?_
  rintro e W2 ⟨rfl, hb2⟩
  have HB2 := Lib.hid (HB1.out.trans (hb2.mono (by omega))); have hs2 := hb2.size
  have HK0 := Lib.hid (HK0.out.below hb2 (by omega)); have HK1 := Lib.hid (HK1.out.below hb2 (by omega))
  have k0 : W2.cell? ⟨w.heap.size, 0, none⟩ = some (.int .i64 o) := HK0.out.cell 0
  have k1 : W2.cell? ⟨w.heap.size, 1, none⟩ = some (.int .i64 t) := HK0.out.cell 1
  have k2 : W2.cell? ⟨w.heap.size, 2, none⟩ = some (.slice A xs.length c) := HK0.out.cell 2
  clear hb2
  go_wp2_with fail
  refine (HG0.out _ ((HR0.out.below HB2.out).more (by omega))).mono ?_
  rintro e W3 ⟨rfl, hb3⟩
  have HB3 := Lib.hid (HB2.out.trans (hb3.mono (by omega))); have hs3 := hb3.size
  have HK1 := Lib.hid (HK1.out.below hb3 (by omega))
  clear k0 k1 k2
  have k0 : W3.cell? ⟨w.heap.size + 1, 0, none⟩ = some (.int .i64 P) := HK1.out.cell 0
  have k1 : W3.cell? ⟨w.heap.size + 1, 1, none⟩ = some (.int .i64 (Q - 1)) := HK1.out.cell 1
  have k2 : W3.cell? ⟨w.heap.size + 1, 2, none⟩ = some (.slice a3 x3.length c3) := HK1.out.cell 2
  clear hb3
  go_wp2_with fail
  refine (HF4.out _ ((HR3.out.below HB3.out).more (by omega)) (HT.out.past HB3.out)).mono ?_
  rintro e W4 ⟨rfl, hb4⟩
  have HB4 := Lib.hid (HB3.out.trans (hb4.mono (by omega))); have hs4 := hb4.size
  have HK1 := Lib.hid (HK1.out.below hb4 (by omega))
  clear k0 k1 k2
  have k0 : W4.cell? ⟨w.heap.size + 1, 0, none⟩ = some (.int .i64 P) := HK1.out.cell 0
  have k1 : W4.cell? ⟨w.heap.size + 1, 1, none⟩ = some (.int .i64 (Q - 1)) := HK1.out.cell 1
  have k2 : W4.cell? ⟨w.heap.size + 1, 2, none⟩ = some (.slice a3 x3.length c3) := HK1.out.cell 2
  clear hb4
  go_wp2_with fail
  refine (HG4.out _ ((HR3.out.below HB4.out).more (by omega))).mono ?_
  rintro e W5 ⟨rfl, hb5⟩
  have HB5 := Lib.hid (HB4.out.trans (hb5.mono (by omega))); have hs5 := hb5.size
  clear hb5 k0 k1 k2
  have q1 : (s0.toList == s0.toList) = true := by simp
  have q2 : (s3.toList == s3.toList) = true := by simp
  have q3 : (e0 == e0) = true := by simp
  have q4 : (e3 == e3) = true := by simp
  go_wp2_with fail
  refine (awake27_any _).mono ?_
  rintro e W6 ⟨rfl, hb6⟩
  have HB6 := Lib.hid (HB5.out.trans (hb6.mono (by omega)))
  clear hb6
  go_wp2
  go_ret
  exact ⟨rfl, HB6.out⟩
end Go.Proofs.YtgidnkodgdoijaaDoor
