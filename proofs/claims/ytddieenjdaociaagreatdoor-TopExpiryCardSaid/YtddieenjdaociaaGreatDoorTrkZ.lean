/- The desk: the phases of a request, one pick each. -/
import Derived.Test.YtddieenjdaociaaGreatDoorM20
namespace Go.Proofs.YtddieenjdaociaaGreatDoor
open Go Go.RowKit Go.Shelf
set_option linter.unusedVariables false

/-- The store holds at most one record, that of the name x. -/
def SX (x : Nm) : Option Rc → List Slt
  | none => freeS 16
  | some _ => (freeS 16).set (homeS x.k 16) ⟨true, x.k⟩
def RX (x : Nm) : Option Rc → List Rc
  | none => freeR 16
  | some r => (freeR 16).set (homeS x.k 16) r
def UX : Option Rc → Nat
  | none => 0
  | some _ => 1
theorem st_find (x : Nm) (r : Option Rc) : findS (SX x r) x.k = (homeS x.k 16, r.isSome) := by
  cases r with
  | none => exact find_free 16 (by omega) x.k
  | some r => exact find_one 16 (by omega) x.k
theorem st_get (x : Nm) (r : Option Rc) : getS (SX x r) (RX x r) x.k = r.getD Rc.none := by
  unfold getS
  rw [st_find]
  cases r with
  | none => rfl
  | some r =>
    have hlt := homeS_lt x.k 16 (by omega)
    simp [RX, List.getD, freeR, hlt]
theorem st_free (x : Nm) (r : Option Rc) : ∃ z, z < 16 ∧ ∀ s, (SX x r)[z]? = some s → s.u = false := by
  have hlt := homeS_lt x.k 16 (by omega)
  cases r with
  | none => exact ⟨0, by omega, freeS_no⟩
  | some r => exact ⟨(homeS x.k 16 + 1) % 16, by omega, freeS_set_no (by omega)⟩
theorem st_put (x : Nm) (r : Option Rc) (r' : Rc) (hr : r'.heldOk) (hk : x.k.size ≤ 1000000) (st ss sr : Nat) (w : World) (h : StAt w st ss sr 16 (SX x r) (RX x r) (UX r)) :
    Calls Tryz.prog 56 #[.pointer (some ⟨st, 0, none⟩), .string x.k, .agg r'.arr] w fun e w' => e = .returned (.int .i64 0) ∧ StAt w' st ss sr 16 (SX x (some r')) (RX x (some r')) (UX (some r')) ∧ Oth [st, ss, sr] w w' := by
  obtain ⟨z, hz, hfree⟩ := st_free x r
  have hf := st_find x r
  have hlt := homeS_lt x.k 16 (by omega)
  cases r with
  | none => exact put_new st ss sr 16 0 _ _ _ x.k r' w h (by omega) (by omega) hk (by omega) hr z hz hfree hf hlt
  | some r =>
    refine (put_over st ss sr 16 1 _ _ _ x.k r' w h (by omega) (by omega) hk hr z hz hfree hf hlt).mono ?_
    rintro e w' ⟨he, hs, ho⟩
    refine ⟨he, ?_, ho⟩
    have e1 : (RX x (some r)).set (homeS x.k 16) r' = RX x (some r') := List.set_set ..
    rw [e1] at hs
    exact hs
theorem own_some {w : World} {base size n c : Nat} {e : TypeId} {A : Option Addr} {xs : List Value} (h : w.ownsRow base e size (.slice A n c) n xs) (hn : 0 < n) : ∃ g, A = some ⟨g, 0, none⟩ := by
  rcases h.2 with ⟨_, h0⟩ | ⟨g', cap, cur, h1, h2, h3, h4⟩
  · omega
  · injection h1 with e1 _ _
    exact ⟨g', e1⟩
section
variable {w w' : World} {B : Nat} {I : Ids} {L : List Cl} {i : Nat} {k : Cl} {xs : List Opn} {K : List Nat} {ts : List TypeId} {n lim now cnt : Int}
variable {st : Int} {x : Nm} {op ttl ph : Int} {p p' : Rs} {ans : Int} {rsp : Rs} {r : Option Rc} {r0 : Rc}
def ShF (I : Ids) (n lim now cnt : Int) (x : Nm) (r : Option Rc) (w : World) : Prop := I.ls ≠ I.ss ∧ ∃ lO, Sh w I n lim now cnt (freeS 2048) lO 0 (SX x r) (RX x r) (UX r)
def ShL (I : Ids) (n lim now cnt : Int) (x : Nm) (i : Nat) (r : Option Rc) (w : World) : Prop := I.ls ≠ I.ss ∧ ∃ lO, lO[homeS x.k 2048]? = some (i : Int) ∧ Sh w I n lim now cnt ((freeS 2048).set (homeS x.k 2048) ⟨true, x.k⟩) lO 1 (SX x r) (RX x r) (UX r)
theorem ShF.ty (h : ShF I n lim now cnt x r w) (ho : Oth K w w') (hK : TyK w K ts) (hts : ∀ t ∈ ts, t ∉ shT) : ShF I n lim now cnt x r w' := by
  obtain ⟨a, lO, b⟩ := h
  exact ⟨a, lO, b.ty ho hK hts⟩
theorem ShL.ty (h : ShL I n lim now cnt x i r w) (ho : Oth K w w') (hK : TyK w K ts) (hts : ∀ t ∈ ts, t ∉ shT) : ShL I n lim now cnt x i r w' := by
  obtain ⟨a, lO, b, c⟩ := h
  exact ⟨a, lO, b, c.ty ho hK hts⟩
def V2 (I : Ids) (n lim now cnt : Int) (x : Nm) (r : Option Rc) (w : World) (rv : Value) : Prop := rv = .slice none 0 0 ∧ ShF I n lim now cnt x r w
def V3 (I : Ids) (n lim now cnt : Int) (x : Nm) (i : Nat) (r : Option Rc) (w : World) (rv : Value) : Prop := rv = .slice none 0 0 ∧ ShL I n lim now cnt x i r w
def V4 (B : Nat) (I : Ids) (n lim now cnt : Int) (x : Nm) (i : Nat) (r : Option Rc) (r0 : Rc) (w : World) (rv : Value) : Prop :=
  (∃ b c, rv = .slice (some ⟨b, 0, none⟩) 1 c ∧ b ≠ I.sr ∧ w.ownsRow B 38 4 (.slice (some ⟨b, 0, none⟩) 1 c) 1 (rcC [r0])) ∧ ShL I n lim now cnt x i r w
def V6 (I : Ids) (n lim now cnt : Int) (x : Nm) (i : Nat) (r : Option Rc) (w : World) (rv : Value) : Prop := ShL I n lim now cnt x i r w
def V7 (I : Ids) (n lim now cnt : Int) (x : Nm) (r : Option Rc) (w : World) (rv : Value) : Prop := ShF I n lim now cnt x r w
theorem stb2 : Stb (V2 I n lim now cnt x r) := fun w w' K rv h ho hK => ⟨h.1, h.2.ty ho hK (by decide)⟩
theorem stb3 : Stb (V3 I n lim now cnt x i r) := fun w w' K rv h ho hK => ⟨h.1, h.2.ty ho hK (by decide)⟩
theorem stb4 : Stb (V4 B I n lim now cnt x i r r0) := fun w w' K rv h ho hK => by
  obtain ⟨⟨b, c, h1, h2, h3⟩, h4⟩ := h
  exact ⟨⟨b, c, h1, h2, own_ty h3 ho hK (by decide)⟩, h4.ty ho hK (by decide)⟩
theorem stb6 : Stb (V6 I n lim now cnt x i r) := fun w w' K rv h ho hK => ShL.ty h ho hK (by decide)
theorem stb7 : Stb (V7 I n lim now cnt x r) := fun w w' K rv h ho hK => ShF.ty h ho hK (by decide)
theorem pick_parse {t : ByteArray} {o : Int} {nm : List UInt8} (tick : Int) (h : Begun B I L i k xs t st w) (hL : L.length ≤ 64) (hxs : xs.length ≤ 100) (hsh : ShF I n lim now cnt (nmOf (str nm)) r w) (hop : (o == 0) = false)
    (hq : Rq.parse (lst t) = ⟨o, ttl, [nm], 0⟩) (h0 : 0 < (str nm).size) (hn : (str nm).size ≤ 63) (ha : Alp (nums (lst (str nm)))) :
    Calls Tryz.prog 14 #[.pointer (some ⟨I.d, 0, none⟩), .int .i64 (i : Int), .int .i64 tick] w fun e w' => e = .returned (.bool true) ∧ Mid B I L i k xs (nmOf (str nm)) o ttl 2 (V2 I n lim now cnt (nmOf (str nm)) r) Rs.zero (-1) Rs.zero st w' ∧ Past B w w' := by
  obtain ⟨oA, oc, begun, hb, hm⟩ := h.ex
  refine (bz_pick (op' := o) (ttl' := ttl) (ph' := 2) (p' := Rs.zero) (x := nmOf (str nm)) (V' := V2 I n lim now cnt (nmOf (str nm)) r) tick 1 hb rfl rfl hm hL hxs rfl (.inl rfl) hop stb2 ?_).mono ?_
  · refine (step_parse (w := w.drew) I.s hm hq h0 hn ha).mono ?_
    rintro e w' ⟨q, c, rfl, hm', hr', ho⟩
    refine ⟨rfl, [], [], q, c, .slice none 0 0, ho, by simp, TyK.nil, by simp, hm', own_mono hr' hb.fx.sz, rfl, ?_⟩
    exact (hsh.ty (((Oth.refl [k.m] w).drew).trans ho) (TyK.one hm.bk) (by decide))
  · rintro e w' ⟨rfl, b, hpast⟩
    rw [if_neg (by decide), if_neg (by decide)] at b
    exact ⟨rfl, b, hpast⟩
theorem pick_lock (tick : Int) (h : Mid B I L i k xs x op ttl 2 (V2 I n lim now cnt x r) p ans rsp st w) (hL : L.length ≤ 64) (hxs : xs.length ≤ 100) (hi : i < 64) (hop : (op == 0) = false) (hk : x.k.size ≤ 1000000) :
    Calls Tryz.prog 14 #[.pointer (some ⟨I.d, 0, none⟩), .int .i64 (i : Int), .int .i64 tick] w fun e w' => e = .returned (.bool true) ∧ Mid B I L i k xs x op ttl 3 (V3 I n lim now cnt x i r) p ans rsp st w' ∧ Past B w w' := by
  refine (mid_pick (ph' := 3) (p' := p) (V' := V3 I n lim now cnt x i r) tick 1 h hL hxs rfl (.inl rfl) hop stb2 stb3 ?_).mono ?_
  · rintro w q cq rv tx hm ⟨rfl, hne, lO, hs⟩ hn hB
    refine (step_lock hm hs.s hs.l (Rd.of_own hn) hk (by omega) (by omega)).mono ?_
    rintro e w' ⟨rfl, hm', hl', ho⟩
    have hK : TyK w [I.lk, I.ls, I.lo] [115, 163, 3] := .cons hs.l.k (by decide) (.cons hs.l.s (by decide) (.cons hs.l.o (by decide) .nil))
    have hK2 : TyK w [k.m, I.lk, I.ls, I.lo] [80, 115, 163, 3] := .cons hm.bk (by decide) (hK.mono (by decide))
    refine ⟨rfl, [I.lk, I.ls, I.lo], _, _, ho, by simp only [List.mem_cons, List.not_mem_nil, or_false]; rintro g (rfl | rfl | rfl) <;> exact h.lo _ (by simp), hK, by decide, hm', rfl, hne, _, List.getElem?_set_self (by rw [hs.l.no]; exact homeS_lt _ _ (by omega)), ⟨hs.s.oth ho (hK2.no hs.s.bk (by decide)), hl', hs.t.oth ho (hK2.no hs.t.k (by decide)) ?_ (hK2.no hs.t.r (by decide)), fun a ha => (hs.kp a ha).oth ho (hK2.no (hs.kp a ha) (by decide))⟩⟩
    simp only [List.mem_cons, List.not_mem_nil, or_false, not_or]
    exact ⟨Bk.ne hs.t.s hm.bk (by decide), Bk.ne hs.t.s hs.l.k (by decide), hne.symm, Bk.ne hs.t.s hs.l.o (by decide)⟩
  · rintro e w' ⟨rfl, b, hpast⟩
    rw [if_neg (by decide), if_neg (by decide)] at b
    exact ⟨rfl, b, hpast⟩
theorem pick_read (tick : Int) (h : Mid B I L i k xs x op ttl 3 (V3 I n lim now cnt x i r) p ans rsp st w) (hL : L.length ≤ 64) (hxs : xs.length ≤ 100) (hi : i < 64) (hop : (op == 0) = false) (hk : x.k.size ≤ 1000000) :
    Calls Tryz.prog 14 #[.pointer (some ⟨I.d, 0, none⟩), .int .i64 (i : Int), .int .i64 tick] w fun e w' => e = .returned (.bool true) ∧ Mid B I L i k xs x op ttl 4 (V4 B I n lim now cnt x i r (r.getD Rc.none)) p ans rsp st w' ∧ Past B w w' := by
  refine (mid_pick (ph' := 4) (p' := p) (V' := V4 B I n lim now cnt x i r (r.getD Rc.none)) tick 1 h hL hxs rfl (.inl rfl) hop stb3 stb4 ?_).mono ?_
  · rintro w q cq rv tx hm ⟨rfl, hne, lO, hlo, hs⟩ hn hB
    obtain ⟨z, hz, hfree⟩ := st_free x r
    refine (step_read hm hs.s hs.t (st_get x r) z hz hfree hk (Rd.of_own hn)).mono ?_
    rintro e w' ⟨b, c, rfl, hm', hr', ho⟩
    refine ⟨rfl, [], [], _, ho, by simp, TyK.nil, by simp, hm', ⟨b, c, rfl, ?_, own_mono hr' hB⟩, hne, lO, hlo, hs.ty ho (TyK.one hm.bk) (by decide)⟩
    have h1 := (own_base hr').1
    have h2 := Bk.lt hs.t.r
    omega
  · rintro e w' ⟨rfl, b, hpast⟩
    rw [if_neg (by decide), if_neg (by decide)] at b
    exact ⟨rfl, b, hpast⟩
theorem sh_s {lS : List Slt} {lO : List Int} {lu : Nat} {sS : List Slt} {sR : List Rc} {su : Nat} {cs : Array Value} {cnt' : Int} (hs : Sh w I n lim now cnt lS lO lu sS sR su) (hm : Bk w k.m 80 cs) (hs' : SAt w' I.s n lim now cnt' I.lk I.st) (ho : Oth [k.m, I.s] w w') : Sh w' I n lim now cnt' lS lO lu sS sR su := by
  have hK : TyK w [k.m, I.s] [80, 89] := .cons hm (by decide) (.cons hs.s.bk (by decide) .nil)
  exact ⟨hs', hs.l.ty ho hK (by decide) (by decide) (by decide), hs.t.ty ho hK (by decide) (by decide) (by decide), fun a ha => (hs.kp a ha).oth ho (hK.no (hs.kp a ha) (by decide))⟩
theorem pick_query (tick : Int) (h : Mid B I L i k xs x 7 0 4 (V4 B I n lim now cnt x i r r0) p ans rsp st w) (hL : L.length ≤ 64) (hxs : xs.length ≤ 100) (hst : r0.st = 0 ∨ r0.st = 1) (h0 : 0 ≤ now) (hcnt : 0 ≤ cnt ∧ cnt ≤ 1000) :
    Calls Tryz.prog 14 #[.pointer (some ⟨I.d, 0, none⟩), .int .i64 (i : Int), .int .i64 tick] w fun e w' => e = .returned (.bool true) ∧ Mid B I L i k xs x 7 0 6 (V6 I n lim now cnt x i r) ⟨0, -1, ByteArray.empty, if r0.live now then r0 else Rc.none, now⟩ ans ⟨0, -1, ByteArray.empty, if r0.live now then r0 else Rc.none, now⟩ st w' ∧ Past B w w' := by
  refine (mid_pick (ph' := 6) (p' := ⟨0, -1, ByteArray.empty, if r0.live now then r0 else Rc.none, now⟩) (V' := V6 I n lim now cnt x i r) tick 3 h hL hxs rfl (.inr (.inl rfl)) rfl stb4 stb6 ?_).mono ?_
  · rintro w q cq rv tx hm ⟨⟨b, c, rfl, hbs, hrow⟩, hne, lO, hlo, hs⟩ hn hB
    refine (step_query rfl hm hs.s (Rd.of_own hn) (Rd.of_own hrow) (Nat.le_refl _) hst h0 hcnt).mono ?_
    rintro e w' ⟨rfl, hm', hs', ho⟩
    exact ⟨rfl, [I.s], [89], _, ho, by simp only [List.mem_singleton]; rintro g rfl; exact h.lo _ (by simp), TyK.one hs.s.bk, by decide, hm', hne, lO, hlo, sh_s hs hm.bk hs' ho⟩
  · rintro e w' ⟨rfl, b, hpast⟩
    rw [if_neg (show ¬ (3 : Int) = 4 by decide), if_pos (show (3 : Int) = 3 from rfl)] at b
    exact ⟨rfl, b, hpast⟩
theorem pick_held (tick : Int) (h : Mid B I L i k xs x 1 ttl 4 (V4 B I n lim now cnt x i r r0) p ans rsp st w) (hL : L.length ≤ 64) (hxs : xs.length ≤ 100) (hlv : r0.live now = true) (t1 : 1 ≤ ttl) (t2 : now + ttl ≤ 1073741824) (hst : r0.st = 0 ∨ r0.st = 1) (h0 : 0 ≤ now) (hcnt : 0 ≤ cnt ∧ cnt ≤ 1000) :
    Calls Tryz.prog 14 #[.pointer (some ⟨I.d, 0, none⟩), .int .i64 (i : Int), .int .i64 tick] w fun e w' => e = .returned (.bool true) ∧ Mid B I L i k xs x 1 ttl 6 (V6 I n lim now cnt x i r) ⟨24, 0, x.a, Rc.none, now⟩ ans ⟨24, 0, x.a, Rc.none, now⟩ st w' ∧ Past B w w' := by
  refine (mid_pick (ph' := 6) (p' := ⟨24, 0, x.a, Rc.none, now⟩) (V' := V6 I n lim now cnt x i r) tick 3 h hL hxs rfl (.inr (.inl rfl)) rfl stb4 stb6 ?_).mono ?_
  · rintro w q cq rv tx hm ⟨⟨b, c, rfl, hbs, hrow⟩, hne, lO, hlo, hs⟩ hn hB
    refine (step_held hlv t1 t2 hm hs.s (Rd.of_own hn) (Rd.of_own hrow) (Nat.le_refl _) hst h0 hcnt).mono ?_
    rintro e w' ⟨rfl, hm', hs', ho⟩
    exact ⟨rfl, [I.s], [89], _, ho, by simp only [List.mem_singleton]; rintro g rfl; exact h.lo _ (by simp), TyK.one hs.s.bk, by decide, hm', hne, lO, hlo, sh_s hs hm.bk hs' ho⟩
  · rintro e w' ⟨rfl, b, hpast⟩
    rw [if_neg (by decide), if_pos (by decide)] at b
    exact ⟨rfl, b, hpast⟩
theorem pick_hold {gr : Int} (tick : Int) (h : Mid B I L i k xs x 1 ttl 4 (V4 B I n lim now cnt x i r r0) p ans rsp st w) (hL : L.length ≤ 64) (hxs : xs.length ≤ 100) (hlv : r0.live now = false) (t1 : 1 ≤ ttl) (t2 : now + ttl ≤ 1073741824) (hgr : 1 - r0.st = gr) (hcap : (gr = 1 ∧ cnt < lim) ∨ gr = 0) (hst : r0.st = 0 ∨ r0.st = 1) (h0 : 0 ≤ now) (hcnt : 0 ≤ cnt ∧ cnt ≤ 1000) :
    Calls Tryz.prog 14 #[.pointer (some ⟨I.d, 0, none⟩), .int .i64 (i : Int), .int .i64 tick] w fun e w' => e = .returned (.bool true) ∧ Mid B I L i k xs x 1 ttl 5 (V4 B I n lim now (cnt + gr) x i r ⟨1, (i : Int), x.a, now + ttl⟩) ⟨0, -1, ByteArray.empty, Rc.none, now⟩ ans ⟨0, -1, ByteArray.empty, Rc.none, now⟩ st w' ∧ Past B w w' := by
  refine (mid_pick (ph' := 5) (p' := ⟨0, -1, ByteArray.empty, Rc.none, now⟩) (V' := V4 B I n lim now (cnt + gr) x i r ⟨1, (i : Int), x.a, now + ttl⟩) tick 3 h hL hxs rfl (.inr (.inl rfl)) rfl stb4 stb4 ?_).mono ?_
  · rintro w q cq rv tx hm ⟨⟨b, c, rfl, hbs, hrow⟩, hne, lO, hlo, hs⟩ hn hB
    obtain ⟨cb, hbk⟩ := own_blk hrow b (by simp [rowL])
    refine (step_hold (by simp; exact ⟨Bk.ne hbk hm.bk (by decide), Bk.ne hbk hs.s.bk (by decide)⟩) hlv t1 t2 hgr hcap hm hs.s (Rd.of_own hn) (Rd.of_own hrow) (Nat.le_refl _) hst h0 hcnt).mono ?_
    rintro e w' ⟨A2, c2, rfl, hm', hs', hr', ho⟩
    obtain ⟨g2, rfl⟩ := own_some hr' (by omega)
    refine ⟨rfl, [I.s], [89], _, ho, by simp only [List.mem_singleton]; rintro g rfl; exact h.lo _ (by simp), TyK.one hs.s.bk, by decide, hm', ⟨g2, c2, rfl, ?_, own_mono hr' hB⟩, hne, lO, hlo, sh_s hs hm.bk hs' ho⟩
    have h1 := (own_base hr').1
    have h2 := Bk.lt hs.t.r
    omega
  · rintro e w' ⟨rfl, b, hpast⟩
    rw [if_neg (by decide), if_pos (by decide)] at b
    exact ⟨rfl, b, hpast⟩
theorem pick_write (tick : Int) (h : Mid B I L i k xs x op ttl 5 (V4 B I n lim now cnt x i r r0) p ans rsp st w) (hL : L.length ≤ 64) (hxs : xs.length ≤ 100) (hop : (op == 0) = false) (hk : x.k.size ≤ 1000000) (hr0 : r0.heldOk) :
    Calls Tryz.prog 14 #[.pointer (some ⟨I.d, 0, none⟩), .int .i64 (i : Int), .int .i64 tick] w fun e w' => e = .returned (.bool true) ∧ Mid B I L i k xs x op ttl 6 (V6 I n lim now cnt x i (some r0)) p ans rsp st w' ∧ Past B w w' := by
  refine (mid_pick (ph' := 6) (p' := p) (V' := V6 I n lim now cnt x i (some r0)) tick 1 h hL hxs rfl (.inl rfl) hop stb4 stb6 ?_).mono ?_
  · rintro w q cq rv tx hm ⟨⟨b, c, rfl, hbs, hrow⟩, hne, lO, hlo, hs⟩ hn hB
    obtain ⟨cb, hbk⟩ := own_blk hrow b (by simp [rowL])
    refine (step_write hm hs.s hs.t (fun w' h' => st_put x r r0 hr0 hk _ _ _ w' h') (Rd.of_own hn) (Rd.of_own hrow) (Nat.le_refl _) (by simp; exact ⟨Bk.ne hbk hs.t.k (by decide), Bk.ne hbk hs.t.s (by decide), hbs⟩)).mono ?_
    rintro e w' ⟨rfl, hm', ht', ho⟩
    have hK : TyK w [I.st, I.ss, I.sr] [117, 163, 38] := .cons hs.t.k (by decide) (.cons hs.t.s (by decide) (.cons hs.t.r (by decide) .nil))
    have hK2 : TyK w [k.m, I.st, I.ss, I.sr] [80, 117, 163, 38] := .cons hm.bk (by decide) (hK.mono (by decide))
    refine ⟨rfl, [I.st, I.ss, I.sr], _, _, ho, by simp only [List.mem_cons, List.not_mem_nil, or_false]; rintro g (rfl | rfl | rfl) <;> exact h.lo _ (by simp), hK, by decide, hm', hne, lO, hlo, ⟨hs.s.oth ho (hK2.no hs.s.bk (by decide)), hs.l.oth ho (hK2.no hs.l.k (by decide)) ?_ (hK2.no hs.l.o (by decide)), ht', fun a ha => (hs.kp a ha).oth ho (hK2.no (hs.kp a ha) (by decide))⟩⟩
    simp only [List.mem_cons, List.not_mem_nil, or_false, not_or]
    exact ⟨Bk.ne hs.l.s hm.bk (by decide), Bk.ne hs.l.s hs.t.k (by decide), hne, Bk.ne hs.l.s hs.t.r (by decide)⟩
  · rintro e w' ⟨rfl, b, hpast⟩
    rw [if_neg (by decide), if_neg (by decide)] at b
    exact ⟨rfl, b, hpast⟩
theorem pick_free (tick : Int) (h : Mid B I L i k xs x op ttl 6 (V6 I n lim now cnt x i r) p ans rsp st w) (hL : L.length ≤ 64) (hxs : xs.length ≤ 100) (hi : i < 64) (hop : (op == 0) = false) (hk : x.k.size ≤ 1000000) :
    Calls Tryz.prog 14 #[.pointer (some ⟨I.d, 0, none⟩), .int .i64 (i : Int), .int .i64 tick] w fun e w' => e = .returned (.bool true) ∧ Mid B I L i k xs x op ttl 7 (V7 I n lim now cnt x r) p ans rsp st w' ∧ Past B w w' := by
  refine (mid_pick (ph' := 7) (p' := p) (V' := V7 I n lim now cnt x r) tick 1 h hL hxs rfl (.inl rfl) hop stb6 stb7 ?_).mono ?_
  · rintro w q cq rv tx hm ⟨hne, lO, hlo, hs⟩ hn hB
    refine (step_free hm hs.s hs.l hlo (Rd.of_own hn) hk (by omega) (by omega)).mono ?_
    rintro e w' ⟨rfl, hm', hl', ho⟩
    have hK : TyK w [I.lk, I.ls, I.lo] [115, 163, 3] := .cons hs.l.k (by decide) (.cons hs.l.s (by decide) (.cons hs.l.o (by decide) .nil))
    have hK2 : TyK w [k.m, I.lk, I.ls, I.lo] [80, 115, 163, 3] := .cons hm.bk (by decide) (hK.mono (by decide))
    refine ⟨rfl, [I.lk, I.ls, I.lo], _, _, ho, by simp only [List.mem_cons, List.not_mem_nil, or_false]; rintro g (rfl | rfl | rfl) <;> exact h.lo _ (by simp), hK, by decide, hm', hne, lO, ⟨hs.s.oth ho (hK2.no hs.s.bk (by decide)), hl', hs.t.oth ho (hK2.no hs.t.k (by decide)) ?_ (hK2.no hs.t.r (by decide)), fun a ha => (hs.kp a ha).oth ho (hK2.no (hs.kp a ha) (by decide))⟩⟩
    simp only [List.mem_cons, List.not_mem_nil, or_false, not_or]
    exact ⟨Bk.ne hs.t.s hm.bk (by decide), Bk.ne hs.t.s hs.l.k (by decide), hne.symm, Bk.ne hs.t.s hs.l.o (by decide)⟩
  · rintro e w' ⟨rfl, b, hpast⟩
    rw [if_neg (by decide), if_neg (by decide)] at b
    exact ⟨rfl, b, hpast⟩
theorem pick_reply (tick : Int) (h : Mid B I L i k xs x op ttl 7 (V7 I n lim now cnt x r) p ans rsp st w) (hL : L.length ≤ 64) (hxs : xs.length ≤ 100) (hop : (op == 0) = false) :
    Calls Tryz.prog 14 #[.pointer (some ⟨I.d, 0, none⟩), .int .i64 (i : Int), .int .i64 tick] w fun e w' => e = .returned (.bool true) ∧ Mid B I L i k xs x op ttl 0 (V7 I n lim now cnt x r) p tick rsp st w' ∧ Past B w w' := by
  refine (mid_pick (ph' := 0) (p' := p) (V' := V7 I n lim now cnt x r) tick 4 h hL hxs rfl (.inr (.inr rfl)) hop stb7 stb7 ?_).mono ?_
  · rintro w q cq rv tx hm hs hn hB
    refine (step_reply hm I.s).mono ?_
    rintro e w' ⟨rfl, hm', ho⟩
    exact ⟨rfl, [], [], _, ho, by simp, TyK.nil, by simp, hm', ShF.ty hs ho (TyK.one hm.bk) (by decide)⟩
  · rintro e w' ⟨rfl, b, hpast⟩
    rw [if_pos rfl, if_neg (by decide)] at b
    exact ⟨rfl, b, hpast⟩
end
end Go.Proofs.YtddieenjdaociaaGreatDoor
