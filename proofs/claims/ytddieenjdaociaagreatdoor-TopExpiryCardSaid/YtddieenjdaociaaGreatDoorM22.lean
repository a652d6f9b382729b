/- namedesktop.one: a request is sent and answered. The desk: New. -/
import Derived.Test.YtddieenjdaociaaGreatDoorM21
import Derived.Test.YtddieenjdaociaaGreatDoorM10
namespace Go.Proofs.YtddieenjdaociaaGreatDoor
open Go Go.RowKit Go.Shelf
set_option linter.unusedVariables false

section
variable {w w' : World} {B : Nat} {I : Ids} {L : List Cl} {i : Nat} {k : Cl} {xs : List Opn} {K : List Nat} {ts : List TypeId} {n lim now cnt : Int}
variable {st st' : Int} {x : Nm} {op ttl ph : Int} {p p' : Rs} {ans : Int} {rsp : Rs} {r : Option Rc} {r0 : Rc} {V : World → Value → Prop} {t : ByteArray}
theorem ops_rest (h : Rest B I L xs st w) (hxs : xs.length ≤ 100) :
    Calls Tryz.prog 17 #[.pointer (some ⟨I.d, 0, none⟩)] w fun e w' => ∃ A' c' ys, e = .returned (.slice A' xs.length c') ∧ ys.map Opn.strip = xs.map Opn.strip ∧ w'.ownsRow w.heap.size 75 23 (.slice A' xs.length c') xs.length (opC ys) ∧ Below w.heap.size w w' := by
  obtain ⟨oA, oc, hd, hr⟩ := h.ops
  exact operations_any hd hr rfl hxs h.nm
/-- What Rounds does with the request (the text t, the name x) of the i-th client: it is answered with rsp. -/
def Does (B : Nat) (I : Ids) (L : List Cl) (i : Nat) (k : Cl) (xs : List Opn) (t : ByteArray) (n lim now cnt cnt' : Int) (x : Nm) (r r' : Option Rc) (rsp : Rs) (m : Int) (st : Int) : Prop :=
  ∀ most w, 8 < most → Start B I L i k xs t st w → ShF I n lim now cnt x r w → Calls Tryz.prog 18 #[.pointer (some ⟨I.d, 0, none⟩), .int .i64 most] w fun e w' => e = .returned (.int .i64 m) ∧
    (∃ o, 0 ≤ o.ans ∧ o.rsp = rsp ∧ Rest B I L (xs ++ [o]) (st + m) w') ∧ ShF I n lim now cnt' x r' w' ∧ Past B w w'
theorem strip_last {xs ys : List Opn} {o : Opn} (h : ys.map Opn.strip = (xs ++ [o]).map Opn.strip) : ∃ zs o', ys = zs ++ [o'] ∧ zs.length = xs.length ∧ o'.ans = o.ans ∧ o'.rsp = o.rsp := by
  rw [List.map_append, List.map_eq_append_iff] at h
  obtain ⟨zs, l2, rfl, h1, h2⟩ := h
  rw [List.map_singleton, List.map_eq_singleton_iff] at h2
  obtain ⟨o', rfl, h3⟩ := h2
  refine ⟨zs, o', rfl, ?_, ?_, ?_⟩
  · have := congrArg List.length h1
    simpa using this
  · simpa [Opn.strip] using congrArg Opn.ans h3
  · simpa [Opn.strip] using congrArg Opn.rsp h3
/-- The same desk, other blocks to be kept. -/
def Ids.wk (I : Ids) (l : List (Nat × Array Value)) : Ids := { I with kp := l }
theorem Rest.wk (h : Rest B I L xs st w) (l : List (Nat × Array Value)) : Rest B (I.wk l) L xs st w := ⟨h.row, h.idle, h.dis, h.nm, h.ne, h.lo, h.lc, h.sz, h.ops⟩
theorem Rest.unwk {l : List (Nat × Array Value)} (h : Rest B (I.wk l) L xs st w) : Rest B I L xs st w := ⟨h.row, h.idle, h.dis, h.nm, h.ne, h.lo, h.lc, h.sz, h.ops⟩
theorem ShF.wk {l : List (Nat × Array Value)} (h : ShF I n lim now cnt x r w) (hl : ∀ a ∈ l, Bk w a.1 40 a.2) : ShF (I.wk l) n lim now cnt x r w := by
  obtain ⟨ne, lO, s, lk, t, kp⟩ := h
  exact ⟨ne, lO, s, lk, t, hl⟩
theorem ShF.unwk {l : List (Nat × Array Value)} (h : ShF (I.wk l) n lim now cnt x r w) (hl : ∀ a ∈ I.kp, a ∈ l) : ShF I n lim now cnt x r w := by
  obtain ⟨ne, lO, s, lk, t, kp⟩ := h
  exact ⟨ne, lO, s, lk, t, fun a ha => kp a (hl a ha)⟩
theorem ShF.resp {g : Nat} {cs : Array Value} (h : ShF (I.wk ((g, cs) :: I.kp)) n lim now cnt x r w) (ho : Oth [g] w w') (hne : ∀ a ∈ I.kp, a.1 ≠ g) : ShF I n lim now cnt x r w' := by
  obtain ⟨ne, lO, hs, hl, ht, hk⟩ := h
  have hg := hk _ (List.mem_cons_self ..)
  have hK : TyK w [g] [40] := TyK.one hg
  exact ⟨ne, lO, hs.oth ho (hK.no hs.bk (by decide)), hl.ty ho hK (by decide) (by decide) (by decide), ht.ty ho hK (by decide) (by decide) (by decide), fun a ha => (hk a (List.mem_cons_of_mem _ ha)).oth ho (by simpa using hne a ha)⟩
theorem ShF.kp (h : ShF I n lim now cnt x r w) : ∀ a ∈ I.kp, Bk w a.1 40 a.2 := by
  obtain ⟨ne, lO, s, lk, t, kp⟩ := h
  exact kp
set_option maxRecDepth 100000 in
set_option maxHeartbeats 8000000 in
theorem one_any {nm : List UInt8} {cnt' m : Int} {r' : Option Rc} {A : Option Addr} {c j : Nat} (h : Rest B I L xs st w) (hk : L[i]? = some k) (hL : L.length ≤ 64) (hxs : xs.length < 100) (hsh : ShF I n lim now cnt x r w) (hst : 0 ≤ st ∧ st ≤ 999990)
    (hns : Rd w w.heap.size 1 A 1 (strs [str nm])) (h0 : 1 ≤ j) (h7 : j ≤ 7) (ht : Rq.ttl (j : Int) ttl = true) (hm : nm.length ≤ 63) (hl : (Rq.ftext (j : Int) ttl [nm]).length ≤ 4096) (htab : Tb w)
    (hD : ∀ l, Does B (I.wk l) L i k xs (str (Rq.ftext (j : Int) ttl [nm])) n lim now cnt cnt' x r r' rsp m (st + 1)) :
    Calls Tryz.prog 7 #[.pointer (some ⟨I.d, 0, none⟩), .int .i64 (i : Int), .int .i64 (j : Int), .int .i64 ttl, .slice A 1 c] w fun e w' => e = .returned (.tuple #[.agg rsp.arr, .bool true]) ∧
      (∃ o, Rest B I L (xs ++ [o]) (st + 1 + m) w') ∧ ShF I n lim now cnt' x r' w' ∧ Past B w w' := by
  have HR := Lib.hid h; have HSH := Lib.hid hsh; have HD := Lib.hid hD; have HTB := Lib.hid htab
  have hal : Below w.heap.size w (w.alloc (.cells #[.int .i64 0, .int .i64 0, .string ⟨#[]⟩, .int .i64 0, .int .i64 0, .string ⟨#[]⟩, .int .i64 0, .int .i64 0] 40)) := (Below.refl _ _).alloc (Nat.le_refl _) _
  have HAL := Lib.hid hal
  have HF := Lib.hid (fun w1 (hb : Below w.heap.size w w1) => format_any j ttl A 1 c [nm] w1 ((hns.below hb).more hb.size) h0 h7 ht (by omega) (by simp; omega) (by omega) (htab.past hb))
  have hfv : fmtVal (j : Int) ttl [nm] = .tuple #[.string (str (Rq.ftext (j : Int) ttl [nm])), .int .i64 0] := by unfold fmtVal; rw [if_neg (by simp), if_neg (by omega)]
  rw [hfv] at HF
  have hts : (str (Rq.ftext (j : Int) ttl [nm])).size ≤ 4096 := by rw [str_size]; exact hl
  have HT := Lib.hid hts
  clear h hsh hD htab hns hfv hts
  generalize str (Rq.ftext (j : Int) ttl [nm]) = t at *
  have hbk := Bk.new w 40 #[.int .i64 0, .int .i64 0, .string ⟨#[]⟩, .int .i64 0, .int .i64 0, .string ⟨#[]⟩, .int .i64 0, .int .i64 0]
  have HBK := Lib.hid hbk
  clear hbk hal
  go_enter Tryz.func7, Tryz.ntmps7
  go_upto_region 1 with (fail)
  generalize hw1 : w.alloc (.cells #[.int .i64 0, .int .i64 0, .string ⟨#[]⟩, .int .i64 0, .int .i64 0, .string ⟨#[]⟩, .int .i64 0, .int .i64 0] 40) = w1 at *
  clear hw1
  go_wp2_with fail
  refine (HF.out w1 HAL.out).mono ?_
  rintro e w2 ⟨rfl, hb2⟩
  have HA2 := Lib.hid (HAL.out.trans (hb2.mono HAL.out.size))
  have HK2 := Lib.hid (HBK.out.below hb2 HBK.out.lt)
  have HR2 := Lib.hid (HR.out.below HA2.out)
  have HS2 := Lib.hid (HSH.out.below HA2.out)
  clear hb2 HF HTB HBK
  go_wp2_with fail
  refine (ops_rest HR2.out (by omega)).mono ?_
  rintro e w3 ⟨A3, c3, ys3, rfl, -, -, hb3⟩
  have HA3 := Lib.hid (HA2.out.trans (hb3.mono HA2.out.size))
  have HK3 := Lib.hid (HK2.out.below hb3 HK2.out.lt)
  have HR3 := Lib.hid ((HR2.out.below hb3).wk ((w.heap.size, #[.int .i64 0, .int .i64 0, .string ⟨#[]⟩, .int .i64 0, .int .i64 0, .string ⟨#[]⟩, .int .i64 0, .int .i64 0]) :: I.kp))
  have HS3 := Lib.hid ((HS2.out.below hb3).wk (l := (w.heap.size, #[.int .i64 0, .int .i64 0, .string ⟨#[]⟩, .int .i64 0, .int .i64 0, .string ⟨#[]⟩, .int .i64 0, .int .i64 0]) :: I.kp) (by
    intro a ha
    rcases List.mem_cons.1 ha with rfl | ha
    · exact HK3.out
    · exact (HS2.out.below hb3).kp a ha))
  clear hb3 HA2 HK2 HR2 HS2
  go_wp2_with fail
  refine (send_start HR3.out hk hL HS3.out HT.out ⟨hst.1, by omega⟩).mono ?_
  rintro e w4 ⟨rfl, hs4, hsh4, hp4⟩
  have HS4 := Lib.hid hs4; have HSH4 := Lib.hid hsh4
  have HP4 := Lib.hid ((Past.of_below (B := B) HA3.out).trans hp4)
  clear hs4 hsh4 hp4 HR3 HS3 HA3 HK3
  go_wp2_with fail
  refine (HD.out _ 9999 w4 (by omega) HS4.out HSH4.out).mono ?_
  rintro e w5 ⟨rfl, ⟨o, ho1, ho2, hr5⟩, hsh5, hp5⟩
  have HR5 := Lib.hid hr5; have HSH5 := Lib.hid hsh5
  have HP5 := Lib.hid (HP4.out.trans hp5)
  clear hr5 hsh5 hp5 HS4 HSH4 HP4 HD
  go_wp2_with fail
  refine (ops_rest HR5.out (by rw [List.length_append]; simp; omega)).mono ?_
  rintro e w6 ⟨A6, c6, ys, rfl, hst6, hrow6, hb6⟩
  obtain ⟨zs, o', rfl, hzl, ha', hr'⟩ := strip_last hst6
  rw [List.length_append] at hrow6
  obtain ⟨g6, rfl, hg6, hcell6⟩ := last_cell hrow6 hzl
  have HP6 := Lib.hid (HP5.out.trans (Past.of_below hb6))
  have HR6 := Lib.hid (HR5.out.below hb6)
  have HS6 := Lib.hid (HSH5.out.below hb6)
  have HC6 := Lib.hid hcell6
  have HW6 := Lib.hid hrow6
  clear hst6 hrow6 hb6 hcell6 HP5 HR5 HSH5
  have q14 := HC6.out 14 _ rfl
  have hlen : (xs ++ [o]).length = xs.length + 1 := by simp
  rw [hlen]
  have HRA := Lib.hid (show w6.rangeAt g6 (xs.length * 23 + 15) rsp.cells from by
    intro j v hv
    rw [Nat.add_assoc]
    refine HC6.out (15 + j) v ?_
    have hj : j < 8 := by
      have := (List.getElem?_eq_some_iff.1 hv).1
      simpa [Rs.cells] using this
    rw [← ho2, ← hr'] at hv
    have : o'.cells = ([.int .i64 o'.cl, .int .i64 o'.op, .int .i64 o'.ttl, .slice o'.nA o'.nn o'.nc] ++ o'.bad.cells ++ [.int .i64 o'.begun, .int .i64 o'.dec, .int .i64 o'.ans]) ++ o'.rsp.cells := rfl
    rw [this, List.getElem?_append_right (by simp [Rs.cells])]
    simpa [Rs.cells] using hv)
  have hans : ¬ o'.ans < 0 := by omega
  generalize hkk : xs.length = kk at *
  have hk0 : ¬ ((kk + 1 : Nat) : Int) ≤ (kk : Int) := by omega
  have hk1 : IntKind.i64.wrap (((kk + 1 : Nat) : Int) - 1) = (kk : Int) := by rw [show ((kk + 1 : Nat) : Int) - 1 = (kk : Int) by omega]; exact IntWalk.i64_in _ (by omega)
  have hk2 : (0 : Int) ≤ (kk : Int) := by omega
  have hk3 : (kk : Int) < ((kk + 1 : Nat) : Int) := by omega
  have hk4 : (kk : Int).toNat = kk := by omega
  go_upto_region 9 with (fail)
  have hk6 := HS6.out.kp _ (List.mem_cons_self ..)
  have HK6 := Lib.hid (show Bk w6 w.heap.size 40 #[.int .i64 0, .int .i64 0, .string ⟨#[]⟩, .int .i64 0, .int .i64 0, .string ⟨#[]⟩, .int .i64 0, .int .i64 0] from hk6)
  have HI1 := Lib.hid (show (Tryz.prog.info? 40).map (·.size) = some rsp.cells.length by kernel_rfl)
  have HI2 := Lib.hid (show (Tryz.prog.info? 40).map (·.size) = some rsp.cells.toArray.size by kernel_rfl)
  have HO1 := Lib.hid (show rsp.cells.toArray.all (·.oneCell') = true by simp [Rs.cells, Value.oneCell'])
  have HZ := Lib.hid (show (#[.int .i64 0, .int .i64 0, .string ⟨#[]⟩, .int .i64 0, .int .i64 0, .string ⟨#[]⟩, .int .i64 0, .int .i64 0] : Array Value).size = rsp.cells.toArray.size by rfl)
  clear hk6 q14
  go_wp2_with (first
    | (refine wpList_load_mid rfl 40 _ rfl g6 (kk * 23 + 15) rfl rsp.cells _ HRA.out Tryz.underlying40 rfl HI1.out ?_)
    | (refine wpList_store_row rfl 40 _ _ rfl w.heap.size rsp.cells.toArray rfl rfl 40 _ HK6.out HI2.out HZ.out HO1.out ?_))
  have hset := setRow_bk (cs := rsp.cells.toArray) HK6.out
  have hoth := setRow_oth (cs := rsp.cells.toArray) HK6.out
  generalize w6.setRow w.heap.size rsp.cells.toArray = w7 at *
  have hb0 : B ≤ w.heap.size := HR.out.sz
  exact bodyPost_ret (results_row_tmp (P := Tryz.prog) (p := 10) (u := 11) (ty := 40) rfl _ _ w.heap.size _ rfl hset Tryz.underlying40 HI2.out) rfl ⟨rfl, ⟨o, HR6.out.unwk.mv hoth (TyK.one HK6.out) (by decide) (fun cv ov hd => hd.oth hoth (by simpa using Bk.ne hd.bk HK6.out (by decide)))⟩, HS6.out.resp hoth (fun a ha => Nat.ne_of_lt (HSH.out.kp a ha).lt), HP6.out.trans (Past.of hoth (by simpa using hb0))⟩
end
end Go.Proofs.YtddieenjdaociaaGreatDoor
namespace Go.Proofs.YtddieenjdaociaaGreatDoor
open Go Go.RowKit Go.Shelf
set_option linter.unusedVariables false

theorem info_ptr : (Tryz.prog.info? 59).map (fun i => (i.zero, i.size, i.bytes)) = some (some (.pointer none), 1, 8) := by kernel_rfl
theorem cptrs_one (L : List Cl) : ∀ u ∈ cptrs L, u.oneCell' = true := by
  intro u hu
  unfold cptrs at hu
  obtain ⟨x, _, rfl⟩ := List.mem_map.1 hu
  rfl
theorem app_ptr {w : World} {ops : Array Oper} {rest : List Oper} {o : Oper} {a : Act} {Q : Exit → Act → World → Prop} (hw : Region.wanted o (yielded ops a.tmps) = true) (s x : Operand)
    (ho : o.op = .call { callee := .builtin .append, args := #[s, x], argTypes := #[52, 52] })
    {base : Nat} {v : Value} {n : Nat} {xs : List Cl} (hs : a.eval s = v) (hown : w.ownsRow base 59 1 v n (cptrs xs))
    {B : Nat} {A : Option Addr} {m c : Nat} {ys : List Cl} (hx : a.eval x = .slice A m c) (hr : Rd w B 1 A m (cptrs ys))
    (hlen : n + m ≤ 100000000) (hbase : base ≤ w.heap.size)
    (h : ∀ A' c' w', w'.ownsRow base 59 1 (.slice A' (n + m) c') (n + m) (cptrs (xs ++ ys)) → w.grownBy w' v.ownBlock →
      ((Value.slice A' (n + m) c').ownBlock = v.ownBlock ∨ (Value.slice A' (n + m) c').ownBlock = some w.heap.size) → wpList Tryz.prog ops Q rest (a.put o.dst (.slice A' (n + m) c')) w') :
    wpList Tryz.prog ops Q (o :: rest) a w := by
  obtain ⟨i0, hi, hz0, hz1, hz2⟩ := info_parts info_ptr
  refine wpList_app hw s x _ ho base _ i0 _ 1 8 Tryz.underlying52 hi hz0 hz1 hz2 rfl (by decide) v n (cptrs xs) hs hown B A m c (cptrs ys) hx hr (cptrs_one ys)
    (by unfold maxLen; omega) (by omega) hbase ?_
  intro v' w' h2 h3 h4
  obtain ⟨A', c', rfl⟩ := own_form h2
  rw [show cptrs xs ++ cptrs ys = cptrs (xs ++ ys) by simp [cptrs]] at h2
  exact h A' c' w' h2 h3 h4
theorem rd_one_ptr {w : World} {z : Nat} (hz : w.heap.size = z) (k : Cl) : Rd (w.alloc (.cells #[.pointer (some ⟨k.c, 0, none⟩)] 59)) (z + 1) 1 (some ⟨z, 0, none⟩) 1 (cptrs [k]) := by
  subst hz
  have hb := Bk.new w 59 #[.pointer (some ⟨k.c, 0, none⟩)]
  refine ⟨rfl, fun _ => ⟨w.heap.size, 0, rfl, by omega, fun j u hu => ?_⟩⟩
  rw [Nat.zero_add, hb.cell]
  simpa [cptrs] using hu
/-- While New makes the clients. -/
structure NewS (W : World) (I : Ids) (n cap : Int) (A : Option Addr) (j c : Nat) (L : List Cl) (w : World) : Prop where
  d : DAt w I.d I.s (.slice A j c) 0 (.slice none 0 0)
  row : w.ownsRow W.heap.size 59 1 (.slice A j c) j (cptrs L)
  len : L.length = j
  idle : ∀ (j : Nat) (k' : Cl), L[j]? = some k' → Idle w k' (j : Int)
  dis : Dis L
  lc : ∀ k' ∈ L, W.heap.size ≤ k'.c ∧ W.heap.size ≤ k'.b ∧ W.heap.size ≤ k'.ch ∧ W.heap.size ≤ k'.m
  s : SAt w I.s n cap 0 0 I.lk I.st
  l : LkAt w I.lk I.ls I.lo 2048 (freeS 2048) (freeO 2048) 0
  t : StAt w I.st I.ss I.sr 16 (freeS 16) (freeR 16) 0
  tb : Bk w W.heap.size 30 t0c
  bel : Below W.heap.size W w
section
variable {W w w' : World} {I : Ids} {n cap : Int} {A : Option Addr} {j c : Nat} {L : List Cl} {K : List Nat} {ts : List TypeId}
theorem Idle.ty {k : Cl} {i : Int} (h : Idle w k i) (ho : Oth K w w') (hK : TyK w K ts) (t1 : 61 ∉ ts) (t2 : 92 ∉ ts) (t3 : 80 ∉ ts) : Idle w' k i := by
  obtain ⟨o, tx, op, ttl, nv, at_, rv, p, a, b, c⟩ := h
  exact ⟨o, tx, op, ttl, nv, at_, rv, p, a.oth ho (hK.no a.bk t1), b.oth ho (hK.nobox b t2) (hK.noch b), c.oth ho (hK.no c.bk t3)⟩
theorem NewS.below (h : NewS W I n cap A j c L w) (hb : Below w.heap.size w w') : NewS W I n cap A j c L w' := by
  have ho : Oth [] w w' := Oth.below hb (Nat.le_refl _)
  exact ⟨h.d.oth ho (by simp), own_ty h.row ho TyK.nil (ts := []) (by simp), h.len, fun j k' hj => (h.idle j k' hj).ty ho TyK.nil (ts := []) (by simp) (by simp) (by simp), h.dis, h.lc, h.s.oth ho (by simp), h.l.ty ho TyK.nil (ts := []) (by simp) (by simp) (by simp), h.t.ty ho TyK.nil (ts := []) (by simp) (by simp) (by simp), h.tb.oth ho (by simp), h.bel.trans (hb.mono h.bel.size)⟩
theorem Idle.lt {k : Cl} {i : Int} (h : Idle w k i) : k.c < w.heap.size ∧ k.b < w.heap.size ∧ k.ch < w.heap.size ∧ k.m < w.heap.size := by
  obtain ⟨o, tx, op, ttl, nv, at_, rv, p, a, b, c⟩ := h
  exact ⟨a.lt, b.lt.1, b.lt.2.1, c.lt⟩
/-- One client more: w is the world with the new client's blocks, none of which lies in an elder one; then the row grows and the desk's cell is written. -/
theorem NewS.add {w4 : World} {k : Cl} {A4 : Option Addr} {c4 : Nat} (h : NewS W I n cap A j c L w) (hk : Idle w k (j : Int)) (hkf : ∀ k' ∈ L, k'.c ≠ k.c ∧ k'.b ≠ k.b ∧ k'.ch ≠ k.ch ∧ k'.m ≠ k.m) (hlo : W.heap.size ≤ k.c ∧ W.heap.size ≤ k.b ∧ W.heap.size ≤ k.ch ∧ W.heap.size ≤ k.m)
    (ho : Oth (rowL A) w w4) (hbel : Below W.heap.size W w4) (hrow : w4.ownsRow W.heap.size 59 1 (.slice A4 (j + 1) c4) (j + 1) (cptrs (L ++ [k]))) (hd : W.heap.size ≤ I.d) :
    NewS W I n cap A4 (j + 1) c4 (L ++ [k]) (w4.setCell ⟨I.d, 1, none⟩ (.slice A4 (j + 1) c4)) := by
  have hK : TyK w (rowL A) [59] := fun g hg => by
    obtain ⟨cs, hb⟩ := own_blk h.row g hg
    exact ⟨_, cs, hb, by simp⟩
  have hd4 : DAt w4 I.d I.s (.slice A j c) 0 (.slice none 0 0) := h.d.oth ho (hK.no h.d.bk (by decide))
  have ho5 : Oth [I.d] w4 (w4.setCell ⟨I.d, 1, none⟩ (.slice A4 (j + 1) c4)) := (Oth.refl [I.d] w4).setCell (p := ⟨I.d, 1, none⟩) (.inl (by simp)) _
  have hK5 : TyK w4 [I.d] [55] := TyK.one hd4.bk
  have hid : ∀ (i : Nat) (k' : Cl), Idle w k' (i : Int) → Idle (w4.setCell ⟨I.d, 1, none⟩ (.slice A4 (j + 1) c4)) k' (i : Int) := fun i k' h' =>
    (h'.ty ho hK (by decide) (by decide) (by decide)).ty ho5 hK5 (by decide) (by decide) (by decide)
  refine ⟨hd4.scv _, own_ty hrow ho5 hK5 (by decide), by rw [List.length_append, h.len]; rfl, ?_, ?_, ?_, (h.s.oth ho (hK.no h.s.bk (by decide))).oth ho5 (hK5.no (h.s.oth ho (hK.no h.s.bk (by decide))).bk (by decide)), (h.l.ty ho hK (by decide) (by decide) (by decide)).ty ho5 hK5 (by decide) (by decide) (by decide), (h.t.ty ho hK (by decide) (by decide) (by decide)).ty ho5 hK5 (by decide) (by decide) (by decide), (h.tb.oth ho (hK.no h.tb (by decide))).oth ho5 (hK5.no (h.tb.oth ho (hK.no h.tb (by decide))) (by decide)), hbel.setCell (p := ⟨I.d, 1, none⟩) hd _⟩
  · intro i k' hi
    by_cases hlt : i < L.length
    · rw [List.getElem?_append_left hlt] at hi
      exact hid i k' (h.idle i k' hi)
    · have hl := (List.getElem?_eq_some_iff.1 hi).1
      rw [List.length_append, List.length_singleton] at hl
      obtain rfl : i = L.length := by omega
      rw [List.getElem?_append_right (Nat.le_refl _)] at hi
      simp at hi
      subst hi
      rw [h.len]
      exact hid j k hk
  · intro a b x y hab hx hy
    by_cases ha : a < L.length
    · rw [List.getElem?_append_left ha] at hx
      by_cases hb : b < L.length
      · rw [List.getElem?_append_left hb] at hy
        exact h.dis a b x y hab hx hy
      · have hl := (List.getElem?_eq_some_iff.1 hy).1
        rw [List.length_append, List.length_singleton] at hl
        obtain rfl : b = L.length := by omega
        rw [List.getElem?_append_right (Nat.le_refl _)] at hy
        simp at hy
        subst hy
        obtain ⟨d1, d2, d3, d4⟩ := hkf x (List.mem_of_getElem? hx)
        exact ⟨d1.symm, d2.symm, d3.symm, d4.symm⟩
    · have hl := (List.getElem?_eq_some_iff.1 hx).1
      rw [List.length_append, List.length_singleton] at hl
      obtain rfl : a = L.length := by omega
      rw [List.getElem?_append_right (Nat.le_refl _)] at hx
      simp at hx
      subst hx
      have hb : b < L.length := by
        have hl := (List.getElem?_eq_some_iff.1 hy).1
        rw [List.length_append, List.length_singleton] at hl
        omega
      rw [List.getElem?_append_left hb] at hy
      exact hkf y (List.mem_of_getElem? hy)
  · intro k' hk'
    rcases List.mem_append.1 hk' with h1 | h1
    · exact h.lc k' h1
    · rw [List.mem_singleton.1 h1]; exact hlo
end
set_option maxRecDepth 100000 in
set_option maxHeartbeats 8000000 in
theorem new_any (m cap : Nat) (h1 : 1 ≤ m) (h2 : m ≤ 64) (h3 : 1 ≤ cap) (h4 : cap ≤ 64) (w : World) :
    Calls Tryz.prog 4 #[t0, .agg #[.int .i64 (m : Int), .int .i64 (cap : Int)]] w fun e w' => ∃ I L, e = .returned (.tuple #[.pointer (some ⟨I.d, 0, none⟩), .int .i64 0]) ∧ L.length = m ∧ I.kp = [] ∧
      Rest w.heap.size I L [] 0 w' ∧ (∀ x, ShF I (m : Int) (cap : Int) 0 0 x none w') ∧ Below w.heap.size w w' := by
  have HX := Lib.hid (show Bk ((w.alloc (.cells t0c 30)).alloc (.cells #[.int .i64 (m : Int), .int .i64 (cap : Int)] 32)) w.heap.size 30 t0c from (Bk.new w _ _).alloc _)
  have HC := Lib.hid (bk_second w (.cells t0c 30) 32 #[.int .i64 (m : Int), .int .i64 (cap : Int)])
  have HB := Lib.hid (below_two w (.cells t0c 30) (.cells #[.int .i64 (m : Int), .int .i64 (cap : Int)] 32))
  go_enter Tryz.func4, Tryz.ntmps4
  go_upto_region 1 with (fail)
  generalize hw0 : (w.alloc (.cells t0c 30)).alloc (.cells #[.int .i64 (m : Int), .int .i64 (cap : Int)] 32) = w0 at *
  clear hw0
  obtain ⟨x0, x1, x2, x3, x4, x5, x6, x7, x8, x9, x10, x11⟩ := box_cells HX.out
  go_wp2_with fail
  clear x0 x1 x2 x3 x4 x5 x6 x7 x8 x9 x10 x11
  refine (mnew_t0 0 (by omega) (by omega) _).mono ?_
  rintro e w1 ⟨g1, rfl, -, -, hb1⟩
  have HX1 := Lib.hid (HX.out.below hb1 HX.out.lt)
  have HC1 := Lib.hid (HC.out.below hb1 HC.out.lt)
  have HB1 := Lib.hid (HB.out.trans (hb1.mono HB.out.size))
  clear hb1 HX HC HB
  have y0 := HC1.out.cell 0; have y1 := HC1.out.cell 1
  go_wp2_with fail
  clear y0 y1
  refine (shared_ok (m : Int) (cap : Int) (by omega) (by omega) (by omega) (by omega) _).mono ?_
  rintro e w2 ⟨s, lk, ls, lo, st, ss, sr, rfl, hs, hl, ht, hne, hlo, hb2⟩
  have HX2 := Lib.hid (HX1.out.below hb2 HX1.out.lt)
  have HC2 := Lib.hid (HC1.out.below hb2 HC1.out.lt)
  have HB2 := Lib.hid (HB1.out.trans (hb2.mono HB1.out.size))
  have HS2 := Lib.hid hs; have HL2 := Lib.hid hl; have HT2 := Lib.hid ht; have HLO := Lib.hid hlo
  have hsz1 := HB1.out.size
  clear hb2 HX1 HC1 HB1 hs hl ht hlo
  have hsz2 := HB2.out.size
  go_upto_region 8 with (fail)
  have hal : Below w2.heap.size w2 (w2.alloc (.cells #[.pointer (some ⟨s, 0, none⟩), .slice none 0 0, .int .i64 0, .slice none 0 0] 55)) := (Below.refl _ _).alloc (Nat.le_refl _) _
  have HN3 := Lib.hid (show NewS w ⟨w2.heap.size, s, 0, 0, lk, ls, lo, st, ss, sr, []⟩ (m : Int) (cap : Int) none 0 0 [] (w2.alloc (.cells #[.pointer (some ⟨s, 0, none⟩), .slice none 0 0, .int .i64 0, .slice none 0 0] 55)) from
    ⟨Bk.new w2 _ _, World.ownsRow_nil _ _ _ _, rfl, fun j k' h => by simp at h, fun a b x y hab hx hy => by simp at hx, fun k' h => by simp at h, SAt.oth HS2.out (Oth.below (S := []) hal (Nat.le_refl _)) (by simp), HL2.out.below hal (Nat.le_refl _), HT2.out.below hal (Nat.le_refl _), HX2.out.below hal HX2.out.lt, HB2.out.trans (hal.mono hsz2)⟩)
  have HC3 := Lib.hid (HC2.out.below hal HC2.out.lt)
  have hdl : w.heap.size ≤ w2.heap.size := hsz2
  have hsz1' := hsz1
  clear hal HX2 HC2 HB2 HS2 HL2 HT2 hsz1
  generalize hw3 : w2.alloc (.cells #[.pointer (some ⟨s, 0, none⟩), .slice none 0 0, .int .i64 0, .slice none 0 0] 55) = w3 at *
  clear hw3
  generalize hdd : w2.heap.size = d at *
  clear hdd
  have y0 := HC3.out.cell 0
  go_wp2_with fail
  clear y0
  go_loopw [37] (fun vi wr => ∃ (j : Nat) (A : Option Addr) (c : Nat) (L : List Cl), j ≤ m ∧ vi = .int .i64 j ∧ NewS w ⟨d, s, 0, 0, lk, ls, lo, st, ss, sr, []⟩ (m : Int) (cap : Int) A j c L wr) (fun vi _ => m - (intOf vi).toNat)
  case atStart => exact ⟨0, none, 0, [], by omega, rfl, HN3.out⟩
  case round =>
    obtain ⟨j, A, c, L, hj, rfl, hN⟩ := hrel
    have HN := Lib.hid hN
    clear hN
    by_cases hlt : j < m
    · have hltI : (j : Int) < (m : Int) := by omega
      go_wp2_with fail
      refine (new_yes 8 (by omega) (by omega) _).mono ?_
      rintro e w4 ⟨b, ch, rfl, hbox, hb0, hb1, hbb⟩
      have HN4 := Lib.hid (HN.out.below hbb)
      have HBX4 := Lib.hid hbox
      obtain ⟨x0, x1, x2, x3, x4, x5, x6, x7, x8, x9, x10, x11⟩ := box_cells HN4.out.tb
      have hsr := HN.out.bel.size
      clear hbox hbb
      go_wp2_with fail
      clear x0 x1 x2 x3 x4 x5 x6 x7 x8 x9 x10 x11
      refine (mnew_t0 (j : Int) (by omega) (by omega) _).mono ?_
      rintro e w5 ⟨g, rfl, hma, hg, hbb⟩
      have HN5 := Lib.hid (HN4.out.below hbb)
      have HBX5 := Lib.hid (HBX4.out.oth (Oth.below (S := []) hbb (Nat.le_refl _)) (by simp) (by simp))
      have HM5 := Lib.hid hma
      have hsr4 := HN4.out.bel.size
      have hs45 := hbb.size
      clear hma hbb
      have hal : Below w5.heap.size w5 (w5.alloc (.cells #[.pointer (some ⟨b, 0, none⟩), .pointer (some ⟨g, 0, none⟩), .int .i64 0] 61)) := (Below.refl _ _).alloc (Nat.le_refl _) _
      have hal0 : Oth [] w5 (w5.alloc (.cells #[.pointer (some ⟨b, 0, none⟩), .pointer (some ⟨g, 0, none⟩), .int .i64 0] 61)) := Oth.below hal (Nat.le_refl _)
      have HN6 := Lib.hid (HN5.out.below hal)
      have HI6 := Lib.hid (show Idle (w5.alloc (.cells #[.pointer (some ⟨b, 0, none⟩), .pointer (some ⟨g, 0, none⟩), .int .i64 0] 61)) ⟨w5.heap.size, b, ch, g⟩ (j : Int) from ⟨0, _, _, _, _, _, _, _, Bk.new w5 _ _, HBX5.out.oth hal0 (by simp) (by simp), HM5.out.oth hal0 (by simp)⟩)
      have HF6 := Lib.hid (show ∀ k' ∈ L, k'.c ≠ w5.heap.size ∧ k'.b ≠ b ∧ k'.ch ≠ ch ∧ k'.m ≠ g from by
        intro k' hk'
        obtain ⟨i, hi⟩ := List.mem_iff_getElem?.1 hk'
        obtain ⟨l1, l2, l3, l4⟩ := (HN.out.idle i k' hi).lt
        obtain ⟨m1, m2, m3, m4⟩ := (HN4.out.idle i k' hi).lt
        omega)
      have HO6 := Lib.hid (HN6.out.row.alloc (.cells #[.pointer (some ⟨w5.heap.size, 0, none⟩)] 59))
      have y1 := HN5.out.d.c1
      have hsz6 : (w5.alloc (.cells #[.pointer (some ⟨b, 0, none⟩), .pointer (some ⟨g, 0, none⟩), .int .i64 0] 61)).heap.size = w5.heap.size + 1 := by simp
      clear HN5 hal hal0
      go_wp2_with (at_builtin; refine app_ptr (by rfl) _ _ rfl (base := w.heap.size) (xs := L) rfl HO6.out rfl (rd_one_ptr (z := w5.heap.size + 1) hsz6 ⟨w5.heap.size, b, ch, g⟩) (by omega) (by simp; omega) ?_)
      intro A4 c4 w7 ho7 hg7 _
      have hwsz : w.heap.size ≤ w5.heap.size := by omega
      generalize hw6 : w5.alloc (.cells #[.pointer (some ⟨b, 0, none⟩), .pointer (some ⟨g, 0, none⟩), .int .i64 0] 61) = w6 at *
      clear hw6
      have hot : Oth (rowL A) w6 w7 := ((Oth.refl (rowL A) w6).alloc _).grown hg7 (fun g e => by cases A with
        | none => cases e
        | some a => simp [Value.ownBlock] at e; exact .inl (by simp [rowL, e]))
      have hbl : Below w.heap.size w w7 := (HN6.out.bel.alloc HN6.out.bel.size _).grown hg7 (by simp; have := HN6.out.bel.size; omega) (fun q h => (HN6.out.row.lt q h).1)
      have hd7 : DAt w7 d s (.slice A j c) 0 (.slice none 0 0) := HN6.out.d.oth hot (row_no HN6.out.row HN6.out.d.bk (by decide))
      have HN8 := Lib.hid (NewS.add HN6.out HI6.out HF6.out ⟨hwsz, by show w.heap.size ≤ b; omega, by show w.heap.size ≤ ch; omega, by show w.heap.size ≤ g; omega⟩ hot hbl ho7 hdl)
      have HD7 := Lib.hid hd7
      clear hot hbl hd7 ho7 hg7 y1 HN HN4 HN6 HBX4 HBX5 HM5 HI6 HF6 HO6
      have f1 := HD7.out.fr 1; have y1 := HD7.out.c1
      go_wp2_with fail
      go_roundw
      case rel => exact ⟨j + 1, A4, c4, _, by omega, by go_num, HN8.out⟩
      case measure => simp [intOf]; omega
    · obtain rfl : j = m := by omega
      have hltI : ¬ (j : Int) < (j : Int) := by omega
      go_wp2_with fail
      go_ret2
      obtain ⟨cw, rfl⟩ := own_some HN.out.row (by omega)
      have hle := HN.out.len
      have hcw := own_base HN.out.row
      refine ⟨⟨d, s, cw, c, lk, ls, lo, st, ss, sr, []⟩, rfl, L, hle, rfl, ⟨by rw [hle]; exact HN.out.row, HN.out.idle, HN.out.dis, by simp, hne, ?_, HN.out.lc, HN.out.bel.size, none, 0, by rw [hle]; exact HN.out.d, World.ownsRow_nil _ _ _ _⟩, fun x => ⟨hne, freeO 2048, HN.out.s, HN.out.l, HN.out.t, fun a ha => by simp at ha⟩, HN.out.bel⟩
      intro q hq
      simp only [List.mem_cons, List.not_mem_nil, or_false] at hq
      rcases hq with rfl | rfl | rfl | rfl | rfl | rfl | rfl | rfl | rfl
      · exact hdl
      all_goals first
        | exact hcw.1
        | exact Nat.le_trans hsz1' (HLO.out _ (by simp))
end Go.Proofs.YtddieenjdaociaaGreatDoor
