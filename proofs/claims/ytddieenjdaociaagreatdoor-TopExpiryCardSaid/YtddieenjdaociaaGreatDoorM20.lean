/- The desk: one step of a request that is under way. The desk: the picks of a request, one by one. -/
import Derived.Test.YtddieenjdaociaaGreatDoorM18
import Derived.Test.YtddieenjdaociaaGreatDoorM19
import Derived.Test.YtddieenjdaociaaGreatDoorTqUZ
namespace Go.Proofs.YtddieenjdaociaaGreatDoor
open Go Go.RowKit Go.Shelf
set_option linter.unusedVariables false

def opT : List TypeId := [75, 55]
def shT : List TypeId := [89, 115, 163, 3, 117, 38, 40]
def bzT : List TypeId := [59, 127, 61, 92, 80, 55, 75]
/-- What a phase knows does not hang on the operations nor on the desk's own cells. -/
def Stb (V : World → Value → Prop) : Prop := ∀ w w' K rv, V w rv → Oth K w w' → TyK w K opT → V w' rv
theorem TyK.one {w : World} {g : Nat} {t : TypeId} {cs : Array Value} (h : Bk w g t cs) : TyK w [g] [t] := fun g' hg' => by
  obtain rfl : g' = g := by simpa using hg'
  exact ⟨t, cs, h, by simp⟩
theorem TyK.app {w : World} {K K' : List Nat} {ts : List TypeId} (h : TyK w K ts) (h' : TyK w K' ts) : TyK w (K ++ K') ts := fun g hg => by
  rcases List.mem_append.1 hg with h1 | h1
  · exact h g h1
  · exact h' g h1
theorem TyK.mono {w : World} {K : List Nat} {ts ts' : List TypeId} (h : TyK w K ts) (hs : ∀ t ∈ ts, t ∈ ts') : TyK w K ts' := fun g hg => by
  obtain ⟨t, cs, a, b⟩ := h g hg
  exact ⟨t, cs, a, hs t b⟩
/-- Below block B all is as it was. -/
def Past (B : Nat) (w w' : World) : Prop := ∃ K, Oth K w w' ∧ ∀ g ∈ K, B ≤ g
theorem Past.refl (B : Nat) (w : World) : Past B w w := ⟨[], Oth.refl _ _, by simp⟩
theorem Past.trans {B : Nat} {w w' w'' : World} (h : Past B w w') (h' : Past B w' w'') : Past B w w'' := by
  obtain ⟨K, a, b⟩ := h
  obtain ⟨K', a', b'⟩ := h'
  refine ⟨K ++ K', (a.more (fun g hg => List.mem_append_left _ hg)).trans (a'.more (fun g hg => List.mem_append_right _ hg)), fun g hg => ?_⟩
  rcases List.mem_append.1 hg with h | h
  · exact b g h
  · exact b' g h
theorem Past.of {B : Nat} {w w' : World} {K : List Nat} (h : Oth K w w') (hK : ∀ g ∈ K, B ≤ g) : Past B w w' := ⟨K, h, hK⟩
theorem Past.of_below {B : Nat} {w w' : World} (h : Below w.heap.size w w') : Past B w w' := ⟨[], Oth.below h (Nat.le_refl _), by simp⟩
theorem Past.below {B : Nat} {w w' : World} (h : Past B w w') (hB : B ≤ w.heap.size) : Below B w w' := by
  obtain ⟨K, a, b⟩ := h
  exact a.fresh (Below.refl _ _) b hB
theorem Past.size {B : Nat} {w w' : World} (h : Past B w w') : w.heap.size ≤ w'.heap.size := by
  obtain ⟨K, a, b⟩ := h
  exact a.size
/-- What the clients share. -/
structure Sh (w : World) (I : Ids) (n lim now cnt : Int) (lS : List Slt) (lO : List Int) (lu : Nat) (sS : List Slt) (sR : List Rc) (su : Nat) : Prop where
  s : SAt w I.s n lim now cnt I.lk I.st
  l : LkAt w I.lk I.ls I.lo 2048 lS lO lu
  t : StAt w I.st I.ss I.sr 16 sS sR su
  kp : ∀ a ∈ I.kp, Bk w a.1 40 a.2
section
variable {w w' : World} {B : Nat} {I : Ids} {L : List Cl} {i : Nat} {k : Cl} {xs : List Opn} {K : List Nat} {ts : List TypeId} {n lim now cnt : Int} {lS : List Slt} {lO : List Int} {lu : Nat} {sS : List Slt} {sR : List Rc} {su : Nat}
theorem Sh.ty (h : Sh w I n lim now cnt lS lO lu sS sR su) (ho : Oth K w w') (hK : TyK w K ts) (hts : ∀ t ∈ ts, t ∉ shT) : Sh w' I n lim now cnt lS lO lu sS sR su := by
  have no : ∀ {t : TypeId}, t ∈ shT → t ∉ ts := fun ht h => hts _ h ht
  exact ⟨h.s.oth ho (hK.no h.s.bk (no (by decide))), h.l.ty ho hK (no (by decide)) (no (by decide)) (no (by decide)), h.t.ty ho hK (no (by decide)) (no (by decide)) (no (by decide)), fun a ha => (h.kp a ha).oth ho (hK.no (h.kp a ha) (no (by decide)))⟩
/-- The i-th client is busy; its operation is the last one. -/
structure Bz (w : World) (B : Nat) (I : Ids) (L : List Cl) (i : Nat) (k : Cl) (xs : List Opn) (st : Int) (oA : Option Addr) (oc : Nat) (o : Opn) : Prop where
  fx : Fx w B I L i k xs
  d : DAt w I.d I.s (.slice (some ⟨I.cw, 0, none⟩) L.length I.nc) st (.slice oA (xs.length + 1) oc)
  c : CAt w k.c k.b k.m (xs.length : Int)
  b : Box w k.b k.ch 8 []
  r : w.ownsRow B 75 23 (.slice oA (xs.length + 1) oc) (xs.length + 1) (opC (xs ++ [o]))
variable {st : Int} {oA : Option Addr} {oc : Nat} {o : Opn}
theorem Bz.ty {cs : Array Value} (h : Bz w B I L i k xs st oA oc o) (ho : Oth (k.m :: K) w w') (hm : Bk w k.m 80 cs) (hK : TyK w K ts) (hts : ∀ t ∈ ts, t ∉ bzT) : Bz w' B I L i k xs st oA oc o := by
  have no : ∀ {t : TypeId}, t ∈ bzT → t ∉ ts := fun ht h => hts _ h ht
  have hno : ∀ {g : Nat} {t : TypeId} {cs : Array Value}, Bk w g t cs → t ≠ 80 → t ∈ bzT → g ∉ k.m :: K := by
    intro g t cs hb ht h1 hg
    rcases List.mem_cons.1 hg with e | hg
    · exact Bk.ne hb hm ht e
    · exact hK.no hb (no h1) hg
  refine ⟨h.fx.ty ho hm hK (no (by decide)) (no (by decide)) (no (by decide)) (no (by decide)) (no (by decide)), h.d.oth ho (hno h.d.bk (by decide) (by decide)), h.c.oth ho (hno h.c.bk (by decide) (by decide)), h.b.oth ho ?_ ?_, own_oth2 h.r ho (fun g cs hb => hno hb (by decide) (by decide))⟩
  · exact hno h.b.1 (by decide) (by decide)
  · intro hg
    rcases List.mem_cons.1 hg with e | hg
    · exact hm.nech h.b e.symm
    · exact hK.noch h.b hg
/-- The middle of a request: the phase ph, the name x, what the phase knows (V). -/
structure Mid (B : Nat) (I : Ids) (L : List Cl) (i : Nat) (k : Cl) (xs : List Opn) (x : Nm) (op ttl ph : Int) (V : World → Value → Prop) (p : Rs) (ans : Int) (rsp : Rs) (st : Int) (w : World) : Prop where
  ex : ∃ oA oc q cq A' c' rv tx begun dec, Bz w B I L i k xs st oA oc ⟨(i : Int), op, ttl, A', 1, c', Rs.zero, begun, dec, ans, rsp⟩ ∧ w.ownsRow B 127 3 (.slice A' 1 c') 1 (nmsC [x]) ∧
    MAt w k.m (i : Int) ph tx op ttl (.slice (some ⟨q, 0, none⟩) 1 cq) 0 rv p ∧ w.ownsRow B 127 3 (.slice (some ⟨q, 0, none⟩) 1 cq) 1 (nmsC [x]) ∧ V w rv
variable {x : Nm} {op ttl ph ph' : Int} {V V' : World → Value → Prop} {p p' : Rs} {ans : Int} {rsp : Rs}
theorem Mid.lo (h : Mid B I L i k xs x op ttl ph V p ans rsp st w) : ∀ g ∈ [I.d, I.s, I.cw, I.lk, I.ls, I.lo, I.st, I.ss, I.sr], B ≤ g := by
  obtain ⟨oA, oc, q, cq, A', c', rv, tx, begun, dec, hb, _⟩ := h.ex
  exact hb.fx.lo
set_option maxHeartbeats 1000000 in
theorem mid_pick (tick r : Int) (h : Mid B I L i k xs x op ttl ph V p ans rsp st w) (hL : L.length ≤ 64) (hxs : xs.length ≤ 100) (hph : (ph == 0) = false) (hr : r = 1 ∨ r = 3 ∨ r = 4) (hop : (op == 0) = false) (hV : Stb V) (hV' : Stb V')
    (hS : ∀ (w : World) (q cq : Nat) (rv : Value) (tx : ByteArray), MAt w k.m (i : Int) ph tx op ttl (.slice (some ⟨q, 0, none⟩) 1 cq) 0 rv p → V w rv → w.ownsRow B 127 3 (.slice (some ⟨q, 0, none⟩) 1 cq) 1 (nmsC [x]) → B ≤ w.heap.size →
      Calls Tryz.prog 26 #[.pointer (some ⟨k.m, 0, none⟩), .pointer (some ⟨I.s, 0, none⟩)] w fun e w' => e = .returned (.int .i64 r) ∧ ∃ K ts rv', Oth (k.m :: K) w w' ∧ (∀ g ∈ K, B ≤ g) ∧ TyK w K ts ∧ (∀ t ∈ ts, t ∉ bzT) ∧ MAt w' k.m (i : Int) ph' tx op ttl (.slice (some ⟨q, 0, none⟩) 1 cq) 0 rv' p' ∧ V' w' rv') :
    Calls Tryz.prog 14 #[.pointer (some ⟨I.d, 0, none⟩), .int .i64 (i : Int), .int .i64 tick] w fun e w' => e = .returned (.bool true) ∧ Mid B I L i k xs x op ttl ph' V' p' (if r = 4 then tick else ans) (if r = 3 then p' else rsp) st w' ∧ Past B w w' := by
  obtain ⟨oA, oc, q, cq, A', c', rv, tx, begun, dec, hb, hnr, hm, hnm, hv⟩ := h.ex
  obtain ⟨og, rfl, hog, _⟩ := last_cell hb.r rfl
  have hv1 : V w.drew rv := hV w w.drew [] rv hv ((Oth.refl [] w).drew) TyK.nil
  have hb2 : ∀ w2 K ts, Oth (k.m :: K) w.drew w2 → TyK w.drew K ts → (∀ t ∈ ts, t ∉ bzT) → Bz w2 B I L i k xs st (some ⟨og, 0, none⟩) oc ⟨(i : Int), op, ttl, A', 1, c', Rs.zero, begun, dec, ans, rsp⟩ ∧ w2.ownsRow B 127 3 (.slice (some ⟨q, 0, none⟩) 1 cq) 1 (nmsC [x]) := by
    intro w2 K ts ho hK hts
    have ho2 : Oth (k.m :: K) w w2 := ((Oth.refl _ w).drew).trans ho
    refine ⟨hb.ty ho2 hm.bk hK hts, own_oth2 hnm ho2 ?_⟩
    intro g cs hbk hg
    rcases List.mem_cons.1 hg with e | hg
    · exact Bk.ne hbk hm.bk (by decide) e
    · exact TyK.no (w := w) hK hbk (fun h => hts _ h (by decide)) hg
  refine (pick_on (nn := 0) (t := tx) (op' := op) (ttl' := ttl) (p' := p') (x := x) (ph' := ph') (base := B) (o := ⟨(i : Int), op, ttl, A', 1, c', Rs.zero, begun, dec, ans, rsp⟩) (PS := fun w2 => ∃ K ts rv', Oth (k.m :: K) w.drew w2 ∧ (∀ g ∈ K, B ≤ g) ∧ TyK w.drew K ts ∧ (∀ t ∈ ts, t ∉ bzT) ∧ MAt w2 k.m (i : Int) ph' tx op ttl (.slice (some ⟨q, 0, none⟩) 1 cq) 0 rv' p' ∧ V' w2 rv') tick r
    hb.d hb.fx.lt hL hb.fx.cell hb.c hm hph hxs rfl hr hop (hS w.drew q cq rv tx hm hv1 hnm hb.fx.sz) ?_).mono ?_
  · rintro w2 ⟨K, ts, rv', ho, hKB, hK, hts, hm2, hv2⟩
    obtain ⟨b2, n2⟩ := hb2 w2 K ts ho hK hts
    exact ⟨b2.d, b2.c, ⟨q, cq, rv', hm2, n2⟩, b2.r, b2.fx.sz⟩
  · rintro e w' ⟨rfl, w2, ⟨K, ts, rv', ho, hKB, hK, hts, hm2, hv2⟩, ho2, A2, c2, hr2, hn2⟩
    obtain ⟨b2, n2⟩ := hb2 w2 K ts ho hK hts
    obtain ⟨cso, hbo⟩ := own_blk b2.r og (by simp [rowL])
    have hT := TyK.one hbo
    refine ⟨rfl, ⟨some ⟨og, 0, none⟩, oc, q, cq, A2, c2, rv', tx, begun, _, ⟨b2.fx.ty' ho2 hm2.bk hT (by decide) (by decide) (by decide) (by decide) (by decide), b2.d.oth ho2 (hT.no b2.d.bk (by decide)), b2.c.oth ho2 (hT.no b2.c.bk (by decide)), b2.b.oth ho2 (hT.nobox b2.b (by decide)) (hT.noch b2.b), hr2⟩, hn2, hm2.oth ho2 (hT.no hm2.bk (by decide)), own_oth2 n2 ho2 (fun g cs hb => hT.no hb (by decide)), hV' w2 w' [og] rv' hv2 ho2 (hT.mono (by decide))⟩, (Past.of (((Oth.refl _ w).drew).trans ho) (by simp only [List.mem_cons, forall_eq_or_imp]; exact ⟨hb.fx.lok.2.2.2, hKB⟩)).trans (Past.of ho2 (by simpa using hog))⟩
end
end Go.Proofs.YtddieenjdaociaaGreatDoor
namespace Go.Proofs.YtddieenjdaociaaGreatDoor
open Go Go.RowKit Go.Shelf
set_option linter.unusedVariables false

section
variable {w w' : World} {B : Nat} {I : Ids} {L : List Cl} {i : Nat} {k : Cl} {xs : List Opn} {K : List Nat} {ts : List TypeId} {n lim now cnt : Int} {lS : List Slt} {lO : List Int} {lu : Nat} {sS : List Slt} {sR : List Rc} {su : Nat}
variable {st : Int} {oA : Option Addr} {oc : Nat} {o : Opn} {x : Nm} {op ttl ph op' ttl' ph' : Int} {V V' : World → Value → Prop} {p p' : Rs} {ans : Int} {rsp : Rs} {tx : ByteArray} {nv rv : Value} {at_ : Int}
theorem own_base {w : World} {base size n c g : Nat} {e : TypeId} {xs : List Value} (h : w.ownsRow base e size (.slice (some ⟨g, 0, none⟩) n c) n xs) : base ≤ g ∧ g < w.heap.size := by
  rcases h.2 with ⟨h1, _⟩ | ⟨g', cap, cur, h1, h2, h3, h4⟩
  · cases h1
  · injection h1 with e1 _ _
    injection e1 with e1; injection e1 with e1 _ _
    subst e1
    exact ⟨h2, Bk.lt h3⟩
theorem row_form {w : World} {base size n c : Nat} {a : Addr} {e : TypeId} {xs : List Value} (h : w.ownsRow base e size (.slice (some a) n c) n xs) : ∃ g, a = ⟨g, 0, none⟩ := by
  rcases h.2 with ⟨h1, _⟩ | ⟨g', cap, cur, h1, h2, h3, h4⟩
  · cases h1
  · injection h1 with e1 _ _
    injection e1 with e1
    exact ⟨g', e1⟩
/-- K holds no block of a row or struct whose type is not among ts. -/
def NoK (w : World) (K : List Nat) (ts : List TypeId) : Prop := ∀ (g : Nat) (t : TypeId) (cs : Array Value), Bk w g t cs → t ∉ ts → g ∉ K
theorem Sh.no (h : Sh w I n lim now cnt lS lO lu sS sR su) (ho : Oth K w w') (hK : NoK w K ts) (hts : ∀ t ∈ ts, t ∉ shT) : Sh w' I n lim now cnt lS lO lu sS sR su := by
  have no : ∀ {t : TypeId}, t ∈ shT → t ∉ ts := fun ht h => hts _ h ht
  exact ⟨h.s.oth ho (hK _ _ _ h.s.bk (no (by decide))), h.l.oth ho (hK _ _ _ h.l.k (no (by decide))) (hK _ _ _ h.l.s (no (by decide))) (hK _ _ _ h.l.o (no (by decide))), h.t.oth ho (hK _ _ _ h.t.k (no (by decide))) (hK _ _ _ h.t.s (no (by decide))) (hK _ _ _ h.t.r (no (by decide))), fun a ha => (h.kp a ha).oth ho (hK _ _ _ (h.kp a ha) (no (by decide)))⟩
set_option maxHeartbeats 1000000 in
theorem bz_pick (tick r : Int) (hb : Bz w B I L i k xs st oA oc o) (hcl : o.cl = (i : Int)) (hbad : o.bad = Rs.zero) (hm : MAt w k.m (i : Int) ph tx op ttl nv at_ rv p) (hL : L.length ≤ 64) (hxs : xs.length ≤ 100) (hph : (ph == 0) = false) (hr : r = 1 ∨ r = 3 ∨ r = 4) (hop : (op' == 0) = false) (hV' : Stb V')
    (hS : Calls Tryz.prog 26 #[.pointer (some ⟨k.m, 0, none⟩), .pointer (some ⟨I.s, 0, none⟩)] w.drew fun e w' => e = .returned (.int .i64 r) ∧ ∃ K ts q cq rv', Oth (k.m :: K) w.drew w' ∧ (∀ g ∈ K, B ≤ g) ∧ TyK w.drew K ts ∧ (∀ t ∈ ts, t ∉ bzT) ∧ MAt w' k.m (i : Int) ph' tx op' ttl' (.slice (some ⟨q, 0, none⟩) 1 cq) 0 rv' p' ∧ w'.ownsRow B 127 3 (.slice (some ⟨q, 0, none⟩) 1 cq) 1 (nmsC [x]) ∧ V' w' rv') :
    Calls Tryz.prog 14 #[.pointer (some ⟨I.d, 0, none⟩), .int .i64 (i : Int), .int .i64 tick] w fun e w' => e = .returned (.bool true) ∧ Mid B I L i k xs x op' ttl' ph' V' p' (if r = 4 then tick else o.ans) (if r = 3 then p' else o.rsp) st w' ∧ Past B w w' := by
  obtain ⟨og, rfl, hog, _⟩ := last_cell hb.r rfl
  have hb2 : ∀ w2 K ts, Oth (k.m :: K) w.drew w2 → TyK w.drew K ts → (∀ t ∈ ts, t ∉ bzT) → Bz w2 B I L i k xs st (some ⟨og, 0, none⟩) oc o := by
    intro w2 K ts ho hK hts
    have ho2 : Oth (k.m :: K) w w2 := ((Oth.refl _ w).drew).trans ho
    exact hb.ty ho2 hm.bk hK hts
  refine (pick_on (nn := 0) (t := tx) (op' := op') (ttl' := ttl') (p' := p') (x := x) (ph' := ph') (base := B) (o := o) (PS := fun w2 => ∃ K ts q cq rv', Oth (k.m :: K) w.drew w2 ∧ (∀ g ∈ K, B ≤ g) ∧ TyK w.drew K ts ∧ (∀ t ∈ ts, t ∉ bzT) ∧ MAt w2 k.m (i : Int) ph' tx op' ttl' (.slice (some ⟨q, 0, none⟩) 1 cq) 0 rv' p' ∧ w2.ownsRow B 127 3 (.slice (some ⟨q, 0, none⟩) 1 cq) 1 (nmsC [x]) ∧ V' w2 rv') tick r
    hb.d hb.fx.lt hL hb.fx.cell hb.c hm hph hxs rfl hr hop hS ?_).mono ?_
  · rintro w2 ⟨K, ts, q, cq, rv', ho, hKB, hK, hts, hm2, n2, hv2⟩
    have b2 := hb2 w2 K ts ho hK hts
    exact ⟨b2.d, b2.c, ⟨q, cq, rv', hm2, n2⟩, b2.r, b2.fx.sz⟩
  · rintro e w' ⟨rfl, w2, ⟨K, ts, q, cq, rv', ho, hKB, hK, hts, hm2, n2, hv2⟩, ho2, A2, c2, hr2, hn2⟩
    have b2 := hb2 w2 K ts ho hK hts
    obtain ⟨cso, hbo⟩ := own_blk b2.r og (by simp [rowL])
    have hT := TyK.one hbo
    obtain ⟨ocl, oop, ottl, onA, onn, onc, obad, obeg, odec, oans, orsp⟩ := o
    subst hcl
    subst hbad
    refine ⟨rfl, ⟨some ⟨og, 0, none⟩, oc, q, cq, A2, c2, rv', tx, obeg, _, ⟨b2.fx.ty' ho2 hm2.bk hT (by decide) (by decide) (by decide) (by decide) (by decide), b2.d.oth ho2 (hT.no b2.d.bk (by decide)), b2.c.oth ho2 (hT.no b2.c.bk (by decide)), b2.b.oth ho2 (hT.nobox b2.b (by decide)) (hT.noch b2.b), hr2⟩, hn2, hm2.oth ho2 (hT.no hm2.bk (by decide)), own_oth2 n2 ho2 (fun g cs hb => hT.no hb (by decide)), hV' w2 w' [og] rv' hv2 ho2 (hT.mono (by decide))⟩, (Past.of (((Oth.refl _ w).drew).trans ho) (by simp only [List.mem_cons, forall_eq_or_imp]; exact ⟨hb.fx.lok.2.2.2, hKB⟩)).trans (Past.of ho2 (by simpa using hog))⟩
/-- The i-th client is idle, a text waits in its box. -/
structure Start (B : Nat) (I : Ids) (L : List Cl) (i : Nat) (k : Cl) (xs : List Opn) (t : ByteArray) (st : Int) (w : World) : Prop where
  fx : Fx w B I L i k xs
  ex : ∃ oA oc o tx op ttl nv at_ rv p, DAt w I.d I.s (.slice (some ⟨I.cw, 0, none⟩) L.length I.nc) st (.slice oA xs.length oc) ∧ CAt w k.c k.b k.m o ∧ Box w k.b k.ch 8 [t] ∧ MAt w k.m (i : Int) 0 tx op ttl nv at_ rv p ∧ w.ownsRow B 75 23 (.slice oA xs.length oc) xs.length (opC xs)
/-- The text has been taken out of the box. -/
structure Begun (B : Nat) (I : Ids) (L : List Cl) (i : Nat) (k : Cl) (xs : List Opn) (t : ByteArray) (st : Int) (w : World) : Prop where
  ex : ∃ oA oc begun, Bz w B I L i k xs st oA oc ⟨(i : Int), 0, 0, none, 0, 0, Rs.zero, begun, -1, -1, Rs.zero⟩ ∧ MAt w k.m (i : Int) 1 t 0 0 (.slice none 0 0) 0 (.slice none 0 0) Rs.zero
theorem begin_pick {t : ByteArray} (tick : Int) (h : Start B I L i k xs t st w) (hL : L.length ≤ 64) (hxs : xs.length ≤ 100) (hsh : Sh w I n lim now cnt lS lO lu sS sR su) :
    Calls Tryz.prog 14 #[.pointer (some ⟨I.d, 0, none⟩), .int .i64 (i : Int), .int .i64 tick] w fun e w' => e = .returned (.bool true) ∧ Begun B I L i k xs t st w' ∧ Sh w' I n lim now cnt lS lO lu sS sR su ∧ Past B w w' := by
  obtain ⟨oA, oc, o, tx, op, ttl, nv, at_, rv, p, hd, hc, hb, hm, hr⟩ := h.ex
  refine (pick_begin tick hd h.fx.lt hL h.fx.cell hc hb hm oA oc rfl hxs hr h.fx.sz).mono ?_
  rintro e w' ⟨A', c', rfl, hd', hc', hb', hm', hr', ho⟩
  have hno : ∀ (g : Nat) (t : TypeId) (cs : Array Value), Bk w g t cs → t ≠ 80 → t ≠ 61 → t ≠ 55 → t ≠ 75 → g ∉ k.ch :: k.m :: k.c :: I.d :: rowL oA := by
    intro g t cs hg h1 h2 h3 h4 hmem
    simp only [List.mem_cons] at hmem
    rcases hmem with e | e | e | e | e
    · exact hg.nech hb e
    · exact Bk.ne hg hm.bk h1 e
    · exact Bk.ne hg hc.bk h2 e
    · exact Bk.ne hg hd.bk h3 e
    · exact row_no hr hg h4 e
  have hK : NoK w (k.ch :: k.m :: k.c :: I.d :: rowL oA) [80, 61, 55, 75] := by
    intro g t cs hg ht
    simp only [List.mem_cons, List.not_mem_nil, or_false, not_or] at ht
    exact hno g t cs hg ht.1 ht.2.1 ht.2.2.1 ht.2.2.2
  refine ⟨rfl, ⟨A', c', tick, ⟨?_, hd', hc', hb', hr'⟩, hm'⟩, hsh.no ho hK (by decide), Past.of ho ?_⟩
  rotate_left
  · intro g hg
    simp only [List.mem_cons] at hg
    rcases hg with rfl | rfl | rfl | rfl | hg
    · exact h.fx.lok.2.2.1
    · exact h.fx.lok.2.2.2
    · exact h.fx.lok.1
    · exact h.fx.lo _ (by simp)
    · cases oA with
      | none => simp [rowL] at hg
      | some a =>
        obtain ⟨g', e⟩ := row_form hr
        subst e
        simp [rowL] at hg
        subst hg
        exact (own_base hr).1
  refine h.fx.othr ho (fun g cs hg => hno g _ cs hg (by decide) (by decide) (by decide) (by decide)) ?_ (fun g cs hg => hno g _ cs hg (by decide) (by decide) (by decide) (by decide))
  intro j k' hj hk
  obtain ⟨d1, d2, d3, d4⟩ := h.fx.dis j k' hj hk
  obtain ⟨o', tx', op', ttl', nv', at', rv', p', a, b, c⟩ := h.fx.oth j k' hj hk
  simp only [List.mem_cons, not_or]
  refine ⟨⟨a.bk.nech hb, Bk.ne a.bk hm.bk (by decide), d1, Bk.ne a.bk hd.bk (by decide), row_no hr a.bk (by decide)⟩, ⟨Bk.nech b.1 hb, Bk.ne b.1 hm.bk (by decide), Bk.ne b.1 hc.bk (by decide), Bk.ne b.1 hd.bk (by decide), (row_nobox hr b (by decide)).1⟩,
    ⟨d3, (hm.bk.nech b).symm, (hc.bk.nech b).symm, (hd.bk.nech b).symm, (row_nobox hr b (by decide)).2⟩, ⟨c.bk.nech hb, d4, Bk.ne c.bk hc.bk (by decide), Bk.ne c.bk hd.bk (by decide), row_no hr c.bk (by decide)⟩⟩
end
end Go.Proofs.YtddieenjdaociaaGreatDoor
