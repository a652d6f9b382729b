/- namedesktop.TopExpiry. -/
import Derived.Test.YtddieenjdaociaaGreatDoorTrpZ
namespace Go.Proofs.YtddieenjdaociaaGreatDoor
open Go Go.RowKit Go.Shelf
set_option linter.unusedVariables false

def nmL : List UInt8 := [110, 97, 109, 101]
def nmU : List UInt8 := [78, 65, 77, 69]
def nmX : Nm := nmOf (str nmL)
theorem nmX_u : nmOf (str nmU) = nmX := by kernel_rfl
theorem nmX_a : nmX.a = ⟨#[110, 97, 109, 101]⟩ := by kernel_rfl
theorem alp_L : Alp (nums (lst (str nmL))) := by
  intro c hc
  simp [nums, lst, str, nmL] at hc
  rcases hc with rfl | rfl | rfl | rfl <;> exact .inl ⟨by omega, by omega⟩
theorem alp_U : Alp (nums (lst (str nmU))) := by
  intro c hc
  simp [nums, lst, str, nmU] at hc
  rcases hc with rfl | rfl | rfl | rfl <;> exact .inr ⟨by omega, by omega⟩
theorem ttl_hold (n : Int) (h1 : 1 ≤ n) (h2 : n ≤ 1000) : Rq.ttl 1 n = true := by
  unfold Rq.ttl
  rw [show Rq.timed 1 = true by decide, if_pos rfl]
  simp; omega
theorem text_hold (n : Int) (h1 : 1 ≤ n) (h2 : n ≤ 1000) : (Rq.ftext 1 n [nmL]).length ≤ 4096 := by
  have h : (Lib.itoa n).length ≤ 4 := by
    unfold Lib.itoa
    rw [if_neg (by omega)]
    exact dd_len 4 n.toNat (by omega) (by omega)
  have hq : (Rq.quote nmL).length ≤ 100 := by decide
  have e : Rq.ftext 1 n [nmL] = Rq.wd 1 ++ 32 :: (Lib.itoa n ++ 32 :: Rq.quote nmL) := by
    show Rq.jn (Rq.wd 1 :: ((if Rq.timed 1 then [Lib.itoa n] else []) ++ [Rq.quote nmL])) = _
    rw [show Rq.timed 1 = true by decide, if_pos rfl]
    rfl
  rw [e]
  have : (Rq.wd 1).length = 4 := rfl
  simp only [List.length_append, List.length_cons]
  omega
theorem parse_hold (n : Int) (h1 : 1 ≤ n) (h2 : n ≤ 1000) : Rq.parse (lst (str (Rq.ftext 1 n [nmL]))) = ⟨1, n, [nmL], 0⟩ := by
  rw [lst_str]
  exact round 1 n [nmL] (by omega) (by omega) (ttl_hold n h1 h2) (by simp) (text_hold n h1 h2)
theorem text_query : (Rq.ftext 7 0 [nmU]).length ≤ 4096 := by decide
theorem parse_query : Rq.parse (lst (str (Rq.ftext 7 0 [nmU]))) = ⟨7, 0, [nmU], 0⟩ := by
  rw [lst_str]
  exact round 7 0 [nmU] (by omega) (by omega) (by decide) (by simp) text_query
set_option maxRecDepth 100000 in
set_option maxHeartbeats 16000000 in
theorem walk_TopExpiry (a0 a1 a2 : Int) (w : World) (w0 : (Lit.int .i64 a0).wf = true) (w1 : (Lit.int .i64 a1).wf = true) (w2 : (Lit.int .i64 a2).wf = true) (ht : Tb w) :
    Calls Tryz.prog 3 #[.int .i64 a0, .int .i64 a1, .int .i64 a2] w fun e w' => e = .returned (.bool true) ∧ Below w.heap.size w w' := by
  clear w0 w1 w2
  have p0 := Kp.pick_lo a0 100 (by omega); have p1 := Kp.pick_hi a0 100 (by omega)
  have p2 := Kp.pick_lo a1 120 (by omega); have p3 := Kp.pick_hi a1 120 (by omega)
  have p4 := Kp.pick_lo a2 1000 (by omega); have p5 := Kp.pick_hi a2 1000 (by omega)
  have P0 := Lib.hid (pick_any a0 100 (by omega) (by omega)); have P1 := Lib.hid (pick_any a1 120 (by omega) (by omega)); have P2 := Lib.hid (pick_any a2 1000 (by omega) (by omega))
  generalize Kp.pick a0 100 = q0 at *
  generalize Kp.pick a1 120 = q1 at *
  generalize Kp.pick a2 1000 = q2 at *
  have HTB := Lib.hid ht
  have hwq : IntKind.i64.wrap (1 + q0) = 1 + q0 := IntWalk.i64_in _ (by omega)
  clear ht
  go_enter Tryz.func3, Tryz.ntmps3
  go_wp2_with fail
  refine (new_any 2 1 (by omega) (by omega) (by omega) (by omega) w).mono ?_
  rintro e w1 ⟨I, L, rfl, hL, hkp, hrest, hsh, hb1⟩
  have HR1 := Lib.hid hrest; have HS1 := Lib.hid (hsh nmX); have HP1 := Lib.hid (Past.of_below (B := w.heap.size) hb1); have HDS := Lib.hid hrest.dis
  have hL64 : L.length ≤ 64 := by omega
  obtain ⟨k0, hk0⟩ : ∃ k, L[0]? = some k := ⟨L[0], List.getElem?_eq_getElem (by omega)⟩
  obtain ⟨k1, hk1⟩ : ∃ k, L[1]? = some k := ⟨L[1], List.getElem?_eq_getElem (by omega)⟩
  clear hrest hsh hb1
  go_wp2_with fail
  refine (P0.out _).mono ?_
  rintro e w2 ⟨rfl, rfl⟩
  go_wp2_with fail
  refine (P1.out _).mono ?_
  rintro e w3 ⟨rfl, rfl⟩
  go_wp2_with fail
  refine (P2.out _).mono ?_
  rintro e w4 ⟨rfl, rfl⟩
  go_wp2_with fail
  refine (pass_rest q2 HR1.out HS1.out (by omega) (by omega) p4 (by omega) (by omega)).mono ?_
  rintro e w5 ⟨rfl, hr5, hs5, hp5⟩
  rw [Int.zero_add] at hs5
  have HR5 := Lib.hid hr5; have HS5 := Lib.hid hs5; have HP5 := Lib.hid (HP1.out.trans hp5)
  clear hr5 hs5 hp5 HR1 HS1 HP1
  go_wp2_with fail
  have hal5 : Below w5.heap.size w5 (w5.alloc (.cells #[.string ⟨#[110, 97, 109, 101]⟩] 9)) := (Below.refl _ _).alloc (Nat.le_refl _) _
  refine (one_any (nm := nmL) (j := 1) (i := 0) (HR5.out.below hal5) hk0 hL64 (by simp) (HS5.out.below hal5) (by omega) ((rd_one_str w5 (str nmL)).more (by simp)) (by omega) (by omega) (ttl_hold (1 + q0) (by omega) (by omega)) (by decide) (text_hold (1 + q0) (by omega) (by omega)) (HTB.out.past ((HP5.out.trans (Past.of_below hal5)).below (Nat.le_refl _)))
    (fun l => does_hold (gr := 1) (r0 := Rc.none) (nm := nmL) HDS.out hL64 (by simp) rfl (parse_hold (1 + q0) (by omega) (by omega)) (by decide) (by decide) alp_L (by omega) rfl (by simp [Rc.live, Rc.none]) (by omega) (by omega) rfl (.inl ⟨rfl, by omega⟩) (.inl rfl) (by omega) (by omega))).mono ?_
  rintro e w6 ⟨rfl, ⟨o1, hr6⟩, hs6, hp6⟩
  have HR6 := Lib.hid hr6; have HS6 := Lib.hid hs6; have HP6 := Lib.hid ((HP5.out.trans (Past.of_below hal5)).trans hp6)
  clear hr6 hs6 hp6 HR5 HS5 HP5 hal5
  have HI := Lib.hid (fun r : Rs => show (Tryz.prog.info? 40).map (·.size) = some r.arr.size by kernel_rfl)
  have HO := Lib.hid (fun r : Rs => show r.arr.all (·.oneCell') = true by simp [Rs.arr, Value.oneCell'])
  have HZ := Lib.hid (fun r : Rs => show (#[.int .i64 0, .int .i64 0, .string ⟨#[]⟩, .int .i64 0, .int .i64 0, .string ⟨#[]⟩, .int .i64 0, .int .i64 0] : Array Value).size = r.arr.size by rfl)
  have HBX := Lib.hid (fun (w : World) (cs : Array Value) => boxed w #[.int .i64 0, .int .i64 0, .string ⟨#[]⟩, .int .i64 0, .int .i64 0, .string ⟨#[]⟩, .int .i64 0, .int .i64 0] cs 40)
  go_upto_region 7 with (refine wpList_store_row rfl 40 _ _ rfl w6.heap.size (Rs.arr ⟨0, -1, ByteArray.empty, Rc.none, q2⟩) rfl rfl 40 _ (Bk.new w6 _ _) (HI.out _) (HZ.out _) (HO.out _) ?_)
  obtain ⟨hx7, hb7⟩ := HBX.out w6 (Rs.arr ⟨0, -1, ByteArray.empty, Rc.none, q2⟩)
  have HR7 := Lib.hid ((HR6.out.below hb7).wk [(w6.heap.size, Rs.arr ⟨0, -1, ByteArray.empty, Rc.none, q2⟩)])
  have HS7 := Lib.hid ((HS6.out.below hb7).wk (l := [(w6.heap.size, Rs.arr ⟨0, -1, ByteArray.empty, Rc.none, q2⟩)]) (by intro a ha; rw [List.mem_singleton.1 ha]; exact hx7))
  have HP7 := Lib.hid (HP6.out.trans (Past.of_below hb7))
  clear hx7 hb7 HR6 HS6 HP6
  generalize (w6.alloc (.cells #[.int .i64 0, .int .i64 0, .string ⟨#[]⟩, .int .i64 0, .int .i64 0, .string ⟨#[]⟩, .int .i64 0, .int .i64 0] 40)).setRow w6.heap.size (Rs.arr ⟨0, -1, ByteArray.empty, Rc.none, q2⟩) = w7 at *
  go_wp2_with fail
  refine (pass_rest q1 HR7.out HS7.out (by omega) (by omega) p2 (by omega) (by omega)).mono ?_
  rintro e w8 ⟨rfl, hr8, hs8, hp8⟩
  have HR8 := Lib.hid hr8; have HS8 := Lib.hid hs8; have HP8 := Lib.hid (HP7.out.trans hp8)
  clear hr8 hs8 hp8 HR7 HS7 HP7
  go_wp2_with fail
  have hal8 : Below w8.heap.size w8 (w8.alloc (.cells #[.string ⟨#[78, 65, 77, 69]⟩] 9)) := (Below.refl _ _).alloc (Nat.le_refl _) _
  obtain ⟨lv, hlv⟩ : ∃ lv, (⟨1, ((0 : Nat) : Int), nmX.a, q2 + (1 + q0)⟩ : Rc).live (q2 + q1) = lv := ⟨_, rfl⟩
  obtain ⟨rr, hrr⟩ : ∃ rr, (if lv then (⟨1, ((0 : Nat) : Int), nmX.a, q2 + (1 + q0)⟩ : Rc) else Rc.none) = rr := ⟨_, rfl⟩
  refine (one_any (nm := nmU) (j := 7) (i := 1) (HR8.out.below hal8) hk1 hL64 (by simp) (HS8.out.below hal8) (by omega) ((rd_one_str w8 (str nmU)).more (by simp)) (by omega) (by omega) (by decide) (by decide) text_query (HTB.out.past ((HP8.out.trans (Past.of_below hal8)).below (Nat.le_refl _)))
    (fun l => does_query (r0 := ⟨1, ((0 : Nat) : Int), nmX.a, q2 + (1 + q0)⟩) (nm := nmU) (rr := rr) (by rw [hlv]; exact hrr) HDS.out hL64 (by simp) nmX_u parse_query (by decide) (by decide) alp_U (by omega) rfl (.inr rfl) (by omega) (by omega))).mono ?_
  rintro e w9 ⟨rfl, ⟨o2, hr9⟩, hs9, hp9⟩
  have HR9 := Lib.hid hr9; have HS9 := Lib.hid hs9; have HP9 := Lib.hid ((HP8.out.trans (Past.of_below hal8)).trans hp9)
  clear hr9 hs9 hp9 HR8 HS8 HP8 hal8
  go_upto_region 9 with (refine wpList_store_row rfl 40 _ _ rfl w9.heap.size (Rs.arr ⟨0, -1, ByteArray.empty, rr, q2 + q1⟩) rfl rfl 40 _ (Bk.new w9 _ _) (HI.out _) (HZ.out _) (HO.out _) ?_)
  obtain ⟨hx10, hb10⟩ := HBX.out w9 (Rs.arr ⟨0, -1, ByteArray.empty, rr, q2 + q1⟩)
  have HR10 := Lib.hid ((HR9.out.below hb10).wk [(w9.heap.size, Rs.arr ⟨0, -1, ByteArray.empty, rr, q2 + q1⟩), (w6.heap.size, Rs.arr ⟨0, -1, ByteArray.empty, Rc.none, q2⟩)])
  have HS10 := Lib.hid ((HS9.out.below hb10).wk (l := [(w9.heap.size, Rs.arr ⟨0, -1, ByteArray.empty, rr, q2 + q1⟩), (w6.heap.size, Rs.arr ⟨0, -1, ByteArray.empty, Rc.none, q2⟩)]) (by
    intro a ha
    simp only [List.mem_cons, List.not_mem_nil, or_false] at ha
    rcases ha with rfl | rfl
    · exact hx10
    · exact (HS9.out.below hb10).kp _ (List.mem_singleton.2 rfl)))
  have HP10 := Lib.hid (HP9.out.trans (Past.of_below hb10))
  clear hx10 hb10 HR9 HS9 HP9
  generalize (w9.alloc (.cells #[.int .i64 0, .int .i64 0, .string ⟨#[]⟩, .int .i64 0, .int .i64 0, .string ⟨#[]⟩, .int .i64 0, .int .i64 0] 40)).setRow w9.heap.size (Rs.arr ⟨0, -1, ByteArray.empty, rr, q2 + q1⟩) = w10 at *
  go_wp2_with fail
  have hal10 : Below w10.heap.size w10 (w10.alloc (.cells #[.string ⟨#[110, 97, 109, 101]⟩] 9)) := (Below.refl _ _).alloc (Nat.le_refl _) _
  obtain ⟨rsp3, m3, r3, cnt3, herr, hdoes⟩ : ∃ rsp3 m3 r3 cnt3, rsp3.err = (if lv then 24 else 0) ∧ ∀ l, Does w.heap.size (((I.wk [(w6.heap.size, Rs.arr ⟨0, -1, ByteArray.empty, Rc.none, q2⟩)]).wk [(w9.heap.size, Rs.arr ⟨0, -1, ByteArray.empty, rr, q2 + q1⟩), (w6.heap.size, Rs.arr ⟨0, -1, ByteArray.empty, Rc.none, q2⟩)]).wk l) L 1 k1 (([] ++ [o1]) ++ [o2]) (str (Rq.ftext 1 (1 + q0) [nmL])) 2 1 (q2 + q1) (0 + 1) cnt3 nmX (some ⟨1, ((0 : Nat) : Int), nmX.a, q2 + (1 + q0)⟩) r3 rsp3 m3 (0 + 1 + 1 + 8 + 1 + 1 + 7 + 1) := by
    cases lv with
    | true => exact ⟨_, _, _, _, rfl, fun l => does_held (nm := nmL) HDS.out hL64 (by simp) rfl (parse_hold (1 + q0) (by omega) (by omega)) (by decide) (by decide) alp_L (by omega) rfl hlv (by omega) (by omega) (.inr rfl) (by omega) (by omega)⟩
    | false => exact ⟨_, _, _, _, rfl, fun l => does_hold (gr := 0) (nm := nmL) HDS.out hL64 (by simp) rfl (parse_hold (1 + q0) (by omega) (by omega)) (by decide) (by decide) alp_L (by omega) rfl hlv (by omega) (by omega) rfl (.inr rfl) (.inr rfl) (by omega) (by omega)⟩
  refine (one_any (nm := nmL) (j := 1) (i := 1) (HR10.out.below hal10) hk1 hL64 (by simp) (HS10.out.below hal10) (by omega) ((rd_one_str w10 (str nmL)).more (by simp)) (by omega) (by omega) (ttl_hold (1 + q0) (by omega) (by omega)) (by decide) (text_hold (1 + q0) (by omega) (by omega)) (HTB.out.past ((HP10.out.trans (Past.of_below hal10)).below (Nat.le_refl _))) hdoes).mono ?_
  rintro e w11 ⟨rfl, ⟨o3, hr11⟩, hs11, hp11⟩
  have HS11 := Lib.hid hs11; have HP11 := Lib.hid ((HP10.out.trans (Past.of_below hal10)).trans hp11)
  clear hr11 hs11 hp11 HR10 HS10 HP10 hal10 hdoes
  go_upto_region 10 with (refine wpList_store_row rfl 40 _ _ rfl w11.heap.size rsp3.arr rfl rfl 40 _ (Bk.new w11 _ _) (HI.out _) (HZ.out _) (HO.out _) ?_)
  obtain ⟨hx12, hb12⟩ := HBX.out w11 rsp3.arr
  have HX1 := Lib.hid ((HS11.out.below hb12).kp _ (List.mem_cons_self ..))
  have HX0 := Lib.hid ((HS11.out.below hb12).kp _ (List.mem_cons_of_mem _ (List.mem_cons_self ..)))
  have HX2 := Lib.hid hx12
  have HP12 := Lib.hid (HP11.out.trans (Past.of_below hb12))
  clear hx12 hb12 HS11 HP11
  generalize (w11.alloc (.cells #[.int .i64 0, .int .i64 0, .string ⟨#[]⟩, .int .i64 0, .int .i64 0, .string ⟨#[]⟩, .int .i64 0, .int .i64 0] 40)).setRow w11.heap.size rsp3.arr = w12 at *
  have z0 := HX0.out.cell 0; have z1 := HX1.out.cell 0; have z2 := HX2.out.cell 0
  have y3 := HX1.out.cell 3; have y4 := HX1.out.cell 4; have y5 := HX1.out.cell 5; have y6 := HX1.out.cell 6
  have lt0 := HX0.out.lt; have lt1 := HX1.out.lt; have lt2 := HX2.out.lt
  simp only [Rs.arr] at z0 z1 z2 y3 y4 y5 y6 lt0 lt1 lt2
  replace z0 : w12.cell? ⟨w6.heap.size, 0, none⟩ = some (.int .i64 0) := z0
  replace z1 : w12.cell? ⟨w9.heap.size, 0, none⟩ = some (.int .i64 0) := z1
  replace z2 : w12.cell? ⟨w11.heap.size, 0, none⟩ = some (.int .i64 rsp3.err) := z2
  replace y3 : w12.cell? ⟨w9.heap.size, 3, none⟩ = some (.int .i64 rr.st) := y3
  replace y4 : w12.cell? ⟨w9.heap.size, 4, none⟩ = some (.int .i64 rr.ow) := y4
  replace y5 : w12.cell? ⟨w9.heap.size, 5, none⟩ = some (.string rr.nm) := y5
  replace y6 : w12.cell? ⟨w9.heap.size, 6, none⟩ = some (.int .i64 rr.dl) := y6
  have hww : IntKind.i64.wrap (q2 + (1 + q0)) = q2 + (1 + q0) := IntWalk.i64_in _ (by omega)
  rw [herr] at z2
  clear herr HX0 HX1 HX2
  by_cases hw : q1 < 1 + q0
  · obtain rfl : lv = true := by rw [← hlv]; simp [Rc.live]; omega
    rw [if_pos rfl] at hrr z2
    subst hrr
    rw [nmX_a] at y5
    clear hlv
    go_upto_region 13 with (fail)
    clear z0 z1
    go_region_held3 (fun w' => w'.cell? ⟨w11.heap.size, 0, none⟩ = some (.int .i64 24) ∧ w'.cell? ⟨w9.heap.size, 3, none⟩ = some (.int .i64 1) ∧ w'.cell? ⟨w9.heap.size, 4, none⟩ = some (.int .i64 0) ∧ w'.cell? ⟨w9.heap.size, 5, none⟩ = some (.string ⟨#[110, 97, 109, 101]⟩) ∧ w'.cell? ⟨w9.heap.size, 6, none⟩ = some (.int .i64 (q2 + (1 + q0))))
      (first
        | with_reducible exact HS3.out
        | exact ⟨z2, y3, y4, y5, y6⟩
        | go_keep
        | fail)
      (first
        | (go_at_call 8; refine (awake_any _).mono ?_; rintro e w13 ⟨rfl, hb13⟩; have HB13 := Lib.hid hb13; have HS3 := Lib.hid (show w13.cell? ⟨w11.heap.size, 0, none⟩ = some (.int .i64 24) ∧ w13.cell? ⟨w9.heap.size, 3, none⟩ = some (.int .i64 1) ∧ w13.cell? ⟨w9.heap.size, 4, none⟩ = some (.int .i64 0) ∧ w13.cell? ⟨w9.heap.size, 5, none⟩ = some (.string ⟨#[110, 97, 109, 101]⟩) ∧ w13.cell? ⟨w9.heap.size, 6, none⟩ = some (.int .i64 (q2 + (1 + q0))) from ⟨(hb13.cell (p := ⟨w11.heap.size, 0, none⟩) lt2).trans z2, (hb13.cell (p := ⟨w9.heap.size, 3, none⟩) lt1).trans y3, (hb13.cell (p := ⟨w9.heap.size, 4, none⟩) lt1).trans y4, (hb13.cell (p := ⟨w9.heap.size, 5, none⟩) lt1).trans y5, (hb13.cell (p := ⟨w9.heap.size, 6, none⟩) lt1).trans y6⟩))
        | (go_at_call 5; refine (P2.out _).mono ?_; rintro e w14 ⟨rfl, rfl⟩))
    have HPF := Lib.hid ((HP12.out.trans (Past.of (K := []) (((Oth.refl [] w12).drew).trans (Oth.below (S := []) HB13.out (Nat.le_refl _))) (by simp))).below (Nat.le_refl _))
    clear z2 y3 y4 y5 y6 HS3 HB13
    go_wp2_with fail
    go_ret
    exact ⟨rfl, HPF.out⟩
  · obtain rfl : lv = false := by rw [← hlv]; simp [Rc.live]; omega
    rw [if_neg (by decide)] at hrr z2
    subst hrr
    clear hlv
    go_wp2_with fail
    refine (awake_any _).mono ?_
    rintro e w13 ⟨rfl, hb13⟩
    have z2' := (hb13.cell (p := ⟨w11.heap.size, 0, none⟩) lt2).trans z2
    have y3' := (hb13.cell (p := ⟨w9.heap.size, 3, none⟩) lt1).trans y3
    have y4' := (hb13.cell (p := ⟨w9.heap.size, 4, none⟩) lt1).trans y4
    have y5' := (hb13.cell (p := ⟨w9.heap.size, 5, none⟩) lt1).trans y5
    have y6' := (hb13.cell (p := ⟨w9.heap.size, 6, none⟩) lt1).trans y6
    have HPF := Lib.hid ((HP12.out.trans (Past.of_below hb13)).below (Nat.le_refl _))
    clear z0 z1 z2 y3 y4 y5 y6 hb13
    simp only [Rc.none] at y3' y4' y5' y6'
    go_wp2_with fail
    go_ret
    exact ⟨rfl, HPF.out⟩
end Go.Proofs.YtddieenjdaociaaGreatDoor
