/- Words for memory that the walks of this seat use: a slice that reads as a list, a block that is known whole. No program in sight. Only some blocks of those that existed have turned; blocks that are known by what they hold. No program in sight. The plain law of layer 27: quotations, words, numbers, requests. No program in sight. -/
import Derived.WalkKit
import Derived.WalkSpells
import Derived.WalkLawsBesides
import Derived.Lib.Hide
import Derived.Laws.OwnMore
import Derived.Deep.Draws
import Derived.Laws.Rows
namespace Go.Proofs.YtddieenjdaociaaGreatDoor
open Go Go.RowKit

/-- The slice value '.slice A n c' holds the cells xs ('size' cells an element) in blocks below B. -/
def Rd (w : World) (B size : Nat) (A : Option Addr) (n : Nat) (xs : List Value) : Prop :=
  xs.length = n * size ∧ (0 < xs.length → ∃ b off, A = some ⟨b, off, none⟩ ∧ b < B ∧ ∀ j u, xs[j]? = some u → w.cell? ⟨b, off + j, none⟩ = some u)

section
variable {w w' : World} {B B' size n : Nat} {A : Option Addr} {xs : List Value}
theorem Rd.nil_ (w : World) (B size : Nat) (A : Option Addr) : Rd w B size A 0 [] := ⟨by simp, fun h => absurd h (by simp)⟩
theorem Rd.keep (h : Rd w B size A n xs) (hk : ∀ p : Addr, p.block < B → w'.cell? p = w.cell? p) : Rd w' B size A n xs :=
  ⟨h.1, fun hn => by
    obtain ⟨b, off, e, hb, hc⟩ := h.2 hn
    exact ⟨b, off, e, hb, fun j u hu => (hk ⟨b, off + j, none⟩ hb).trans (hc j u hu)⟩⟩
theorem Rd.more (h : Rd w B size A n xs) (hB : B ≤ B') : Rd w B' size A n xs :=
  ⟨h.1, fun hn => by
    obtain ⟨b, off, e, hb, hc⟩ := h.2 hn
    exact ⟨b, off, e, by omega, hc⟩⟩
theorem Rd.below (h : Rd w B size A n xs) (hb : Below B w w') : Rd w' B size A n xs := h.keep fun _ hp => hb.cell hp
theorem Rd.drewN (h : Rd w B size A n xs) (k : Nat) : Rd (w.drewN k) B size A n xs := h
theorem Rd.drew (h : Rd w B size A n xs) : Rd w.drew B size A n xs := h
theorem Rd.alloc (h : Rd w B size A n xs) (hB : B ≤ w.heap.size) (o : Obj) : Rd (w.alloc o) B size A n xs := h.keep fun p hp => World.cell?_alloc_lt w o p (by omega)
theorem Rd.setCell (h : Rd w B size A n xs) {p : Addr} (hB : B ≤ p.block) (u : Value) : Rd (w.setCell p u) B size A n xs :=
  h.keep fun q hq => World.cell?_setCell_other w p q u (fun e => by subst e; omega)
theorem Rd.grown (h : Rd w B size A n xs) {row : Option Nat} (hg : w.grownBy w' row) (hB : B ≤ w.heap.size) (hr : ∀ g, row = some g → B ≤ g) : Rd w' B size A n xs :=
  h.keep fun p hp => World.cell?_of_block (hg.block p.block (by omega) (fun e => by have := hr _ e.symm; omega))
theorem Rd.at_ {k : Nat} (h : Rd w B 1 A n xs) (hk : k < n) : ∃ b off u, A = some ⟨b, off, none⟩ ∧ b < B ∧ xs[k]? = some u ∧ w.cell? ⟨b, off + k, none⟩ = some u := by
  have hl : k < xs.length := by have := h.1; omega
  obtain ⟨b, off, e, hb, hc⟩ := h.2 (by omega)
  exact ⟨b, off, xs[k], e, hb, List.getElem?_eq_getElem hl, hc k _ (List.getElem?_eq_getElem hl)⟩
theorem Rd.of_own {base : Nat} {e : TypeId} {c : Nat} (h : w.ownsRow base e size (.slice A n c) n xs) : Rd w w.heap.size size A n xs := by
  refine ⟨h.1, fun hn => ?_⟩
  rcases h.2 with ⟨_, h0⟩ | ⟨g, cap, cur, hv, _, hh, _⟩
  · subst h0; have := h.1; omega
  · have hA : A = some ⟨g, 0, none⟩ := by injection hv
    subst hA
    refine ⟨g, 0, rfl, (Array.getElem?_eq_some_iff.1 hh).1, fun j u hu => ?_⟩
    have := h.cells (g := g) rfl j u hu
    have ha : (⟨g, 0, none⟩ : Addr).add j = ⟨g, 0 + j, none⟩ := by unfold Addr.add; split <;> simp_all
    rwa [ha] at this
end

/-- What a row that the call has made looks like. -/
theorem own_form {w : World} {base : Nat} {e : TypeId} {size n : Nat} {v : Value} {xs : List Value} (h : w.ownsRow base e size v n xs) : ∃ A c, v = .slice A n c := by
  rcases h.2 with ⟨rfl, rfl⟩ | ⟨g, cap, cur, rfl, _⟩
  · exact ⟨none, 0, rfl⟩
  · exact ⟨_, _, rfl⟩

/-- Block g is just the cells cs, of element type t, none frozen. -/
def Bk (w : World) (g : Nat) (t : TypeId) (cs : Array Value) : Prop := w.heap[g]? = some (.cells cs t (0, 0))
section
variable {w w' : World} {g : Nat} {t : TypeId} {cs : Array Value}
theorem Bk.lt (h : Bk w g t cs) : g < w.heap.size := (Array.getElem?_eq_some_iff.1 h).1
theorem Bk.cell (h : Bk w g t cs) (i : Nat) : w.cell? ⟨g, i, none⟩ = cs[i]? := cell_of_row w g i cs t (0, 0) h
theorem Bk.frozen (h : Bk w g t cs) (i : Nat) : w.frozen? ⟨g, i, none⟩ = false := by
  unfold Bk at h
  simp [World.frozen?, h]
theorem Bk.new (w : World) (t : TypeId) (cs : Array Value) : Bk (w.alloc (.cells cs t)) w.heap.size t cs := heap_alloc_new w _
theorem Bk.drewN (h : Bk w g t cs) (n : Nat) : Bk (w.drewN n) g t cs := h
theorem Bk.drew (h : Bk w g t cs) : Bk w.drew g t cs := h
theorem Bk.alloc (h : Bk w g t cs) (o : Obj) : Bk (w.alloc o) g t cs := (Below.heap_alloc w o g h.lt).trans h
theorem Bk.set_ (h : Bk w g t cs) (i : Nat) (u : Value) : Bk (w.setCell ⟨g, i, none⟩ u) g t (cs.setIfInBounds i u) := by
  unfold Bk at h ⊢
  simp [World.setCell, Array.getElem?_modify, h]
theorem Bk.far (h : Bk w g t cs) {p : Addr} (hp : g ≠ p.block) (u : Value) : Bk (w.setCell p u) g t cs := (Below.heap_setCell w p u g hp).trans h
theorem Bk.below {B : Nat} (h : Bk w g t cs) (hb : Below B w w') (hg : g < B) : Bk w' g t cs := (hb.block g hg).trans h
theorem Bk.grown {row : Option Nat} (h : Bk w g t cs) (hb : w.grownBy w' row) (hg : some g ≠ row) : Bk w' g t cs := (hb.block g h.lt hg).trans h
end

/-! ### Only block g, and what is new, has turned -/
theorem only_refl (w : World) (row : Option Nat) : w.grownBy w row := World.grownBy.refl w _
theorem only_trans {a b c : World} {row : Option Nat} (h : a.grownBy b row) (k : b.grownBy c row) : a.grownBy c row :=
  ⟨k.os.trans h.os, k.tape.trans h.tape, k.output.trans h.output, Nat.le_trans h.size k.size, fun i hi hn => (k.block i (Nat.lt_of_lt_of_le hi h.size) hn).trans (h.block i hi hn)⟩
theorem only_drewN {a w : World} {row : Option Nat} (h : a.grownBy w row) (n : Nat) : a.grownBy (w.drewN n) row := ⟨h.os, h.tape, h.output, h.size, h.block⟩
theorem only_drew {a w : World} {row : Option Nat} (h : a.grownBy w row) : a.grownBy w.drew row := ⟨h.os, h.tape, h.output, h.size, h.block⟩
theorem only_alloc {a w : World} {row : Option Nat} (h : a.grownBy w row) (o : Obj) : a.grownBy (w.alloc o) row :=
  ⟨h.os, h.tape, h.output, Nat.le_trans h.size (by simp), fun i hi hne => (Below.heap_alloc w o i (Nat.lt_of_lt_of_le hi h.size)).trans (h.block i hi hne)⟩
theorem only_setCell {a w : World} {g : Nat} (h : a.grownBy w (some g)) {p : Addr} (hp : p.block = g ∨ a.heap.size ≤ p.block) (u : Value) : a.grownBy (w.setCell p u) (some g) :=
  ⟨h.os, h.tape, h.output, by simpa [World.setCell] using h.size, fun i hi hne => (Below.heap_setCell w p u i (by
    rintro rfl
    rcases hp with hp | hp
    · exact hne (by rw [hp])
    · omega)).trans (h.block i hi hne)⟩
theorem only_below {a w w' : World} {row : Option Nat} (h : a.grownBy w row) (hb : Below w.heap.size w w') : a.grownBy w' row :=
  ⟨hb.os.trans h.os, hb.tape.trans h.tape, hb.output.trans h.output, Nat.le_trans h.size hb.size, fun i hi hn => (hb.block i (Nat.lt_of_lt_of_le hi h.size)).trans (h.block i hi hn)⟩
theorem below_of_only {a w : World} {g B : Nat} (h : a.grownBy w (some g)) (hg : B ≤ g) (hB : B ≤ a.heap.size) : Below B a w :=
  (Below.refl B a).grown h hB (fun k hk => by injection hk; omega)
theorem below_drewN {B : Nat} {a w : World} (h : Below B a w) (n : Nat) : Below B a (w.drewN n) := ⟨h.os, h.tape, h.output, h.size, h.block⟩
theorem below_add {B B' : Nat} {a w w' : World} (h : Below B a w) (k : Below B' w w') (hB : B ≤ B') : Below B a w' := h.trans (k.mono hB)
/-- Behind a callee that leaves all that existed alone. -/
theorem below_step {a w w' : World} (h : Below a.heap.size a w) (k : Below w.heap.size w w') : Below a.heap.size a w' := h.trans (k.mono h.size)
/-- Four results. -/
theorem results_four {fn : Func} {t u v x : Tmp} (h : fn.results = #[.tmp t, .tmp u, .tmp v, .tmp x]) (tmps : Array Value) (P : Program) (w : World) :
    (results fn tmps).run P w = .ok (.tuple #[tmps.getD t undef, tmps.getD u undef, tmps.getD v undef, tmps.getD x undef]) w := by simp [results, h]
theorem ret_int {k : IntKind} {a b : Int} (h : a = b) : Ending.returned (.int k a) = .returned (.int k b) := by rw [h]
/-- The numbers xs of kind k as cells. -/
def intsK (k : IntKind) (xs : List Int) : List Value := xs.map (Value.int k)
/-- The numbers xs as cells. -/
def ints (xs : List Int) : List Value := xs.map (Value.int .i64)
theorem intsK_i64 (xs : List Int) : intsK .i64 xs = ints xs := rfl
theorem ints_length (xs : List Int) : (ints xs).length = xs.length := by simp [ints]
theorem ints_at (xs : List Int) (k : Nat) : (ints xs)[k]? = (xs[k]?).map (Value.int .i64) := by simp [ints]
theorem ints_append (xs ys : List Int) : ints (xs ++ ys) = ints xs ++ ints ys := by simp [ints]
/-- A slice literal: a new block that holds just its elements. -/
theorem own_built (w : World) (base : Nat) (e : TypeId) (cs : Array Value) (n : Nat) (hn : cs.size = n) (hm : n ≤ maxLen) (hb : base ≤ w.heap.size) :
    (w.alloc (.cells cs e)).ownsRow base e 1 (.slice (some ⟨w.heap.size, 0, none⟩) n n) n cs.toList := by
  subst hn
  exact ⟨by simp, .inr ⟨w.heap.size, cs.size, cs, rfl, hb, heap_alloc_new w _, Nat.le_refl _, hm, by simp, by rw [Nat.mul_one]; exact List.take_of_length_le (by simp)⟩⟩
/-- The call returns a new slice of numbers; all that was there is as it was. -/
def RetI (T : TypeId) (xs : List Int) (w : World) (e : Ending) (w' : World) : Prop :=
  ∃ A c, e = .returned (.slice A xs.length c) ∧ w'.ownsRow w.heap.size T 1 (.slice A xs.length c) xs.length (ints xs) ∧ Below w.heap.size w w'
theorem RetI.nil_ (T : TypeId) (w : World) : RetI T [] w (.returned (.slice none 0 0)) w := ⟨none, 0, rfl, World.ownsRow_nil _ _ _ _, Below.refl _ _⟩
theorem RetI.built (T : TypeId) (w : World) (xs : List Int) (cs : Array Value) (n : Nat) (hcs : cs.toList = ints xs) (hn : xs.length = n) (hm : n ≤ maxLen) :
    RetI T xs w (.returned (.slice (some ⟨w.heap.size, 0, none⟩) n n)) (w.alloc (.cells cs T)) := by
  subst hn
  have hsz : cs.size = xs.length := by rw [← Array.length_toList, hcs, ints_length]
  refine ⟨_, _, rfl, ?_, (Below.refl _ _).alloc (Nat.le_refl _) _⟩
  rw [← hcs]
  exact own_built w _ T cs _ hsz hm (Nat.le_refl _)
/-- What a row of the call's own that is not empty holds, cell by cell. -/
theorem own_at {w : World} {base : Nat} {e : TypeId} {A : Option Addr} {n c : Nat} {xs : List Value} (h : w.ownsRow base e 1 (.slice A n c) n xs) (hn : 0 < n) :
    ∃ g, A = some ⟨g, 0, none⟩ ∧ base ≤ g ∧ g < w.heap.size ∧ n ≤ c ∧ (∀ j u, xs[j]? = some u → w.cell? ⟨g, j, none⟩ = some u) ∧ ∀ j, w.frozen? ⟨g, j, none⟩ = false := by
  rcases h.2 with ⟨_, h0⟩ | ⟨g, cap, cur, hv, hb, hh, hnc, _⟩
  · omega
  · injection hv with hA hl hc
    subst hA; subst hc
    refine ⟨g, rfl, hb, (Array.getElem?_eq_some_iff.1 hh).1, hnc, fun j u hu => ?_, fun j => by simp [World.frozen?, hh]⟩
    have := h.cells (g := g) rfl j u hu
    have ha : (⟨g, 0, none⟩ : Addr).add j = ⟨g, j, none⟩ := by unfold Addr.add; split <;> simp_all
    rwa [ha] at this
/-- A callee that leaves the world alone, met inside a region of reads. -/
theorem quiet_same {P : Program} {f : FuncId} {args : Array Value} {w : World} {n : Nat} {v : Value}
    (h : Calls P f args (w.drewN n) fun e w' => e = .returned v ∧ w.drewN n = w') : Calls P f args (w.drewN n) fun e w'' => e = .returned v ∧ ∃ m, w'' = w.drewN m :=
  h.mono fun _ _ ⟨he, hm⟩ => ⟨he, n, hm.symm⟩
/-- The strings l as cells. -/
def strs (l : List ByteArray) : List Value := l.map Value.string
theorem strs_length (l : List ByteArray) : (strs l).length = l.length := by simp [strs]
theorem strs_at (l : List ByteArray) (k : Nat) : (strs l)[k]? = (l[k]?).map Value.string := by simp [strs]
theorem strs_append (l m : List ByteArray) : strs (l ++ m) = strs l ++ strs m := by simp [strs]
/-- The call returns a new slice of strings; all that was there is as it was. -/
def RetS (T : TypeId) (l : List ByteArray) (w : World) (e : Ending) (w' : World) : Prop :=
  ∃ A c, e = .returned (.slice A l.length c) ∧ w'.ownsRow w.heap.size T 1 (.slice A l.length c) l.length (strs l) ∧ Below w.heap.size w w'
theorem quiet_same_add {P : Program} {f : FuncId} {args : Array Value} {w : World} {a n : Nat} {v : Value}
    (h : Calls P f args (w.drewN (a + n)) fun e w' => e = .returned v ∧ w.drewN (a + n) = w') : Calls P f args (w.drewN (a + n)) fun e w'' => e = .returned v ∧ ∃ m, w'' = w.drewN (a + m) :=
  h.mono fun _ _ ⟨he, hm⟩ => ⟨he, n, hm.symm⟩
end Go.Proofs.YtddieenjdaociaaGreatDoor
namespace Go.Proofs.YtddieenjdaociaaGreatDoor
open Go Go.RowKit
set_option linter.unusedVariables false

/-- Of the blocks that w has, only those of S have turned. -/
structure Oth (S : List Nat) (w w' : World) : Prop where
  os : w'.os = w.os
  tape : w'.tape = w.tape
  output : w'.output = w.output
  size : w.heap.size ≤ w'.heap.size
  block : ∀ k : Nat, k < w.heap.size → k ∉ S → w'.heap[k]? = w.heap[k]?
section
variable {w w' w'' : World} {S T : List Nat} {B : Nat}
theorem Oth.refl (S : List Nat) (w : World) : Oth S w w := ⟨rfl, rfl, rfl, Nat.le_refl _, fun _ _ _ => rfl⟩
theorem Oth.trans (h : Oth S w w') (k : Oth S w' w'') : Oth S w w'' :=
  ⟨k.os.trans h.os, k.tape.trans h.tape, k.output.trans h.output, Nat.le_trans h.size k.size, fun i hi hn => (k.block i (Nat.lt_of_lt_of_le hi h.size) hn).trans (h.block i hi hn)⟩
theorem Oth.more (h : Oth S w w') (hs : ∀ i : Nat, i ∈ S → i ∈ T) : Oth T w w' :=
  ⟨h.os, h.tape, h.output, h.size, fun i hi hn => h.block i hi fun hm => hn (hs i hm)⟩
theorem Oth.old (h : Oth T w w') (hs : ∀ i : Nat, i ∈ T → i < w.heap.size → i ∈ S) : Oth S w w' :=
  ⟨h.os, h.tape, h.output, h.size, fun i hi hn => h.block i hi fun hm => hn (hs i hm hi)⟩
theorem Oth.below (hb : Below B w w') (hB : w.heap.size ≤ B) : Oth S w w' :=
  ⟨hb.os, hb.tape, hb.output, hb.size, fun i hi _ => hb.block i (by omega)⟩
theorem Oth.add (h : Oth S w w') (hb : Below B w' w'') (hB : w'.heap.size ≤ B) : Oth S w w'' := h.trans (.below hb hB)
theorem Oth.of_below (h : Oth [] w w') : Below w.heap.size w w' := ⟨h.os, h.tape, h.output, h.size, fun i hi => h.block i hi (by simp)⟩
/-- Blocks that were new have turned: all that was there is as it was. -/
theorem Oth.fresh (h : Oth S w w') (hb : Below B w'' w) (hs : ∀ i : Nat, i ∈ S → B ≤ i) (hB : B ≤ w.heap.size) : Below B w'' w' :=
  ⟨h.os.trans hb.os, h.tape.trans hb.tape, h.output.trans hb.output, Nat.le_trans hb.size h.size, fun i hi => (h.block i (by omega) (fun hm => by have := hs i hm; omega)).trans (hb.block i hi)⟩
theorem Oth.drewN (h : Oth S w w') (n : Nat) : Oth S w (w'.drewN n) := ⟨h.os, h.tape, h.output, h.size, h.block⟩
theorem Oth.drew (h : Oth S w w') : Oth S w w'.drew := ⟨h.os, h.tape, h.output, h.size, h.block⟩
theorem Oth.alloc (h : Oth S w w') (o : Obj) : Oth S w (w'.alloc o) := h.trans (.below ((Below.refl w'.heap.size w').alloc (Nat.le_refl _) o) (Nat.le_refl _))
theorem Oth.setCell (h : Oth S w w') {p : Addr} (hp : p.block ∈ S ∨ w.heap.size ≤ p.block) (u : Value) : Oth S w (w'.setCell p u) :=
  ⟨h.os, h.tape, h.output, by simpa [World.setCell] using h.size, fun i hi hn => (Below.heap_setCell w' p u i (by
    rintro rfl
    rcases hp with hp | hp
    · exact hn hp
    · omega)).trans (h.block i hi hn)⟩
theorem Oth.grown {row : Option Nat} (h : Oth S w w') (hg : w'.grownBy w'' row) (hr : ∀ g, row = some g → g ∈ S ∨ w.heap.size ≤ g) : Oth S w w'' :=
  ⟨hg.os.trans h.os, hg.tape.trans h.tape, hg.output.trans h.output, Nat.le_trans h.size hg.size, fun i hi hn => (hg.block i (Nat.lt_of_lt_of_le hi h.size) (fun e => by
    rcases hr i e.symm with hp | hp
    · exact hn hp
    · omega)).trans (h.block i hi hn)⟩
theorem Oth.heap (h : Oth S w w') {k : Nat} {o : Obj} (hk : w.heap[k]? = some o) (hn : k ∉ S) : w'.heap[k]? = some o :=
  (h.block k (Array.getElem?_eq_some_iff.1 hk).1 hn).trans hk
theorem Bk.oth {g : Nat} {t : TypeId} {cs : Array Value} (h : Bk w g t cs) (ho : Oth S w w') (hn : g ∉ S) : Bk w' g t cs := Oth.heap ho h hn
theorem Oth.cell (h : Oth S w w') {p : Addr} (hk : p.block < w.heap.size) (hn : p.block ∉ S) : w'.cell? p = w.cell? p := World.cell?_of_block (h.block _ hk hn)
end

/-- The blocks a 0, .., a (N - 1) are different ones, and the i-th one holds what P i says. -/
structure Inv (w : World) (N : Nat) (a : Nat → Nat) (P : Nat → Obj → Prop) : Prop where
  inj : ∀ i j : Nat, i < N → j < N → a i = a j → i = j
  has : ∀ i : Nat, i < N → ∃ o, w.heap[a i]? = some o ∧ P i o
section
variable {w w' : World} {N : Nat} {a : Nat → Nat} {P P' : Nat → Obj → Prop} {S : List Nat} {B : Nat}
theorem Inv.lt (h : Inv w N a P) {i : Nat} (hi : i < N) : a i < w.heap.size := by
  obtain ⟨o, ho, _⟩ := h.has i hi
  exact (Array.getElem?_eq_some_iff.1 ho).1
theorem Inv.ne (h : Inv w N a P) {i j : Nat} (hi : i < N) (hj : j < N) (hn : i ≠ j) : a i ≠ a j := fun e => hn (h.inj i j hi hj e)
theorem Inv.below (h : Inv w N a P) (hb : Below B w w') (hB : w.heap.size ≤ B) : Inv w' N a P :=
  ⟨h.inj, fun i hi => by
    obtain ⟨o, ho, hp⟩ := h.has i hi
    exact ⟨o, (hb.block _ (by have := h.lt hi; omega)).trans ho, hp⟩⟩
/-- Behind a piece of the walk that has turned the blocks of K (by their names) alone. -/
theorem Inv.turn {K : List Nat} (h : Inv w N a P) (ho : Oth (K.map a) w w') (hK : ∀ k : Nat, k ∈ K → k < N ∧ ∃ o, w'.heap[a k]? = some o ∧ P' k o)
    (hP : ∀ i : Nat, i < N → i ∉ K → ∀ o, P i o → P' i o) : Inv w' N a P' :=
  ⟨h.inj, fun i hi => by
    by_cases hk : i ∈ K
    · exact (hK i hk).2
    · obtain ⟨o, hh, hp⟩ := h.has i hi
      refine ⟨o, ho.heap hh ?_, hP i hi hk o hp⟩
      intro hm
      obtain ⟨k, hkm, hka⟩ := List.mem_map.1 hm
      exact hk (h.inj i k hi (hK k hkm).1 hka.symm ▸ hkm)⟩
theorem Inv.mono (h : Inv w N a P) (hP : ∀ i : Nat, i < N → ∀ o, P i o → P' i o) : Inv w N a P' :=
  ⟨h.inj, fun i hi => by
    obtain ⟨o, hh, hp⟩ := h.has i hi
    exact ⟨o, hh, hP i hi o hp⟩⟩
/-- The name k gets another block, which is none of the others. -/
theorem Inv.move (h : Inv w N a P) {k g : Nat} (hg : ∀ i : Nat, i < N → i ≠ k → a i ≠ g) {o : Obj} (hh : w.heap[g]? = some o) (hp : P' k o)
    (hP : ∀ i : Nat, i < N → i ≠ k → ∀ o, P i o → P' i o) : Inv w N (fun i => if i = k then g else a i) P' :=
  ⟨fun i j hi hj e => by
    by_cases hik : i = k <;> by_cases hjk : j = k
    · omega
    · simp only [hik, if_true, if_neg hjk] at e
      exact absurd e.symm (hg j hj hjk)
    · simp only [hjk, if_true, if_neg hik] at e
      exact absurd e (hg i hi hik)
    · simp only [if_neg hik, if_neg hjk] at e
      exact h.inj i j hi hj e,
  fun i hi => by
    by_cases hik : i = k
    · subst hik
      exact ⟨o, by simpa using hh, hp⟩
    · obtain ⟨o', hh', hp'⟩ := h.has i hi
      exact ⟨o', by simpa [hik] using hh', hP i hi hik o' hp'⟩⟩
end
end Go.Proofs.YtddieenjdaociaaGreatDoor
namespace Go.Proofs.YtddieenjdaociaaGreatDoor.Rq
/-- A byte that stands for itself. -/
def pl (b : UInt8) : Bool := decide (33 ≤ b.toNat ∧ b.toNat ≤ 126 ∧ b.toNat ≠ 34 ∧ b.toNat ≠ 37)
/-- The value of a hexadecimal digit, or -1. -/
def hx (b : UInt8) : Int := if 48 ≤ b.toNat ∧ b.toNat ≤ 57 then (b.toNat : Int) - 48 else if 65 ≤ b.toNat ∧ b.toNat ≤ 70 then (b.toNat : Int) - 55 else -1
theorem hx_bd (b : UInt8) : -1 ≤ hx b ∧ hx b ≤ 15 := by unfold hx; split <;> (try split) <;> omega
def two (x y : UInt8) : UInt8 := UInt8.ofNat (hx x * 16 + hx y).toNat
def unq : List UInt8 → Option (List UInt8)
  | [] => some []
  | [b] => if pl b then some [b] else none
  | [b, c] => if pl b then (unq [c]).map (b :: ·) else none
  | b :: x :: y :: r => if pl b then (unq (x :: y :: r)).map (b :: ·) else if b = 37 ∧ 0 ≤ hx x ∧ 0 ≤ hx y then (unq r).map (two x y :: ·) else none
theorem unq_nil : unq [] = some [] := by unfold unq; rfl
theorem unq_pl {b : UInt8} (r : List UInt8) (h : pl b = true) : unq (b :: r) = (unq r).map (b :: ·) := by
  match r with
  | [] => conv => lhs; unfold unq; rw [if_pos h]; 
          rw [unq_nil]; rfl
  | [c] => conv => lhs; unfold unq; rw [if_pos h]
  | x :: y :: r => conv => lhs; unfold unq; rw [if_pos h]
theorem unq_two (x y : UInt8) (r : List UInt8) (hx0 : 0 ≤ hx x) (hy0 : 0 ≤ hx y) : unq (37 :: x :: y :: r) = (unq r).map (two x y :: ·) := by
  conv => lhs; unfold unq
  rw [if_neg (by decide), if_pos ⟨rfl, hx0, hy0⟩]
theorem unq_bad {b : UInt8} (r : List UInt8) (h : pl b = false) (h37 : b ≠ 37) : unq (b :: r) = none := by
  have hn : ¬ pl b = true := by rw [h]; decide
  match r with
  | [] => unfold unq; rw [if_neg hn]
  | [c] => unfold unq; rw [if_neg hn]
  | x :: y :: r => unfold unq; rw [if_neg hn, if_neg (fun e => h37 e.1)]
theorem unq_short (r : List UInt8) (h : r.length < 2) : unq (37 :: r) = none := by
  match r, h with
  | [], _ => unfold unq; rw [if_neg (by decide)]
  | [c], _ => unfold unq; rw [if_neg (by decide)]
  | x :: y :: r, h => simp at h; omega
theorem unq_hex (x y : UInt8) (r : List UInt8) (h : ¬ (0 ≤ hx x ∧ 0 ≤ hx y)) : unq (37 :: x :: y :: r) = none := by
  unfold unq
  rw [if_neg (by decide), if_neg (fun e => h e.2)]
def unquote (w : List UInt8) : List UInt8 × Bool := if w = [34, 34] then ([], true) else match unq w with
  | none => ([], false)
  | some l => (l, !l.isEmpty)
/-- A hexadecimal digit. -/
def hd (n : Nat) : UInt8 := [48, 49, 50, 51, 52, 53, 54, 55, 56, 57, 65, 66, 67, 68, 69, 70].getD n 0
/-- A byte in a quotation. -/
def qb (b : UInt8) : List UInt8 := if pl b then [b] else [37, hd (b.toNat / 16), hd (b.toNat % 16)]
def qs : List UInt8 → List UInt8
  | [] => []
  | b :: r => qb b ++ qs r
def quote (l : List UInt8) : List UInt8 := if l = [] then [34, 34] else qs l
theorem qb_len (b : UInt8) : 1 ≤ (qb b).length ∧ (qb b).length ≤ 3 := by unfold qb; split <;> simp
theorem qs_append : ∀ (l r : List UInt8), qs (l ++ r) = qs l ++ qs r
  | [], r => rfl
  | b :: l, r => by rw [List.cons_append]; show qb b ++ qs (l ++ r) = qb b ++ qs l ++ qs r; rw [qs_append l r, List.append_assoc]
theorem qs_len : ∀ (l : List UInt8), l.length ≤ (qs l).length ∧ (qs l).length ≤ 3 * l.length
  | [] => by simp [qs]
  | b :: l => by have := qs_len l; have := qb_len b; show _ ≤ (qb b ++ qs l).length ∧ (qb b ++ qs l).length ≤ _; simp; omega
theorem qs_take {l : List UInt8} {j : Nat} {b : UInt8} (h : l[j]? = some b) : qs (l.take (j + 1)) = qs (l.take j) ++ qb b := by
  obtain ⟨h1, h2⟩ := List.getElem?_eq_some_iff.1 h
  rw [List.take_succ_eq_append_getElem h1, h2, qs_append]
  simp [qs]
theorem hx_hd : ∀ n : Fin 16, hx (hd n.val) = (n.val : Int) := by decide
theorem two_hd : ∀ n : Fin 256, two (hd (n.val / 16)) (hd (n.val % 16)) = UInt8.ofNat n.val := by decide +kernel
theorem two_of (b : UInt8) : two (hd (b.toNat / 16)) (hd (b.toNat % 16)) = b := by
  have h := two_hd ⟨b.toNat, b.toNat_lt⟩
  simpa using h
theorem hd_hx (n : Nat) (h : n < 16) : 0 ≤ hx (hd n) := by have := hx_hd ⟨n, h⟩; simp only at this; omega
/-- What is quoted is unquoted. -/
theorem unq_qs : ∀ (l : List UInt8), unq (qs l) = some l
  | [] => unq_nil
  | b :: l => by
    show unq (qb b ++ qs l) = _
    unfold qb
    cases hp : pl b
    · rw [if_neg (by decide)]
      show unq (37 :: hd (b.toNat / 16) :: hd (b.toNat % 16) :: qs l) = _
      have hlt := b.toNat_lt
      rw [unq_two _ _ _ (hd_hx _ (by omega)) (hd_hx _ (by omega)), unq_qs l, two_of]; rfl
    · rw [if_pos rfl]
      show unq (b :: qs l) = _
      rw [unq_pl _ hp, unq_qs l]; rfl
theorem hd_plain : ∀ n : Fin 16, 33 ≤ (hd n.val).toNat ∧ (hd n.val).toNat ≤ 126 ∧ (hd n.val).toNat ≠ 34 := by decide
theorem qb_vis (b : UInt8) : ∀ c ∈ qb b, 33 ≤ c.toNat ∧ c.toNat ≤ 126 ∧ c.toNat ≠ 34 := by
  intro c hc
  unfold qb at hc
  split at hc
  · rename_i h
    rw [List.mem_singleton.1 hc]
    have := of_decide_eq_true h
    omega
  · have hlt := b.toNat_lt
    have h1 := hd_plain ⟨b.toNat / 16, by omega⟩
    have h2 := hd_plain ⟨b.toNat % 16, by omega⟩
    simp only [List.mem_cons, List.not_mem_nil, or_false] at hc
    rcases hc with rfl | rfl | rfl
    · decide
    · exact h1
    · exact h2
theorem qs_vis : ∀ (l : List UInt8), ∀ c ∈ qs l, 33 ≤ c.toNat ∧ c.toNat ≤ 126 ∧ c.toNat ≠ 34
  | [], c, h => by cases h
  | b :: l, c, h => by
    rcases List.mem_append.1 (show c ∈ qb b ++ qs l from h) with h | h
    · exact qb_vis b c h
    · exact qs_vis l c h
theorem quote_vis (l : List UInt8) : ∀ c ∈ quote l, 33 ≤ c.toNat ∧ c.toNat ≤ 126 := by
  intro c hc
  unfold quote at hc
  split at hc
  · simp at hc; subst hc; decide
  · have := qs_vis l c hc; omega
theorem qs_ne {l : List UInt8} (h : l ≠ []) : qs l ≠ [] := by
  intro e
  have h1 := (qs_len l).1
  rw [e] at h1
  exact h (List.eq_nil_of_length_eq_zero (by simpa using h1))
theorem qs_not (l : List UInt8) : qs l ≠ [34, 34] := by
  intro e
  have := (qs_vis l 34 (by rw [e]; simp)).2.2
  exact this rfl
theorem unquote_quote (l : List UInt8) : unquote (quote l) = (l, true) := by
  unfold quote
  by_cases h : l = []
  · rw [if_pos h, h]; rfl
  · rw [if_neg h]
    unfold unquote
    rw [if_neg (qs_not l), unq_qs l]
    cases l with
    | nil => exact absurd rfl h
    | cons a b => rfl
theorem quote_len (l : List UInt8) : 1 ≤ (quote l).length ∧ l.length ≤ (quote l).length ∧ (quote l).length ≤ 3 * l.length + 2 := by
  unfold quote
  split
  · rename_i h; subst h; simp
  · rename_i h
    have := qs_len l
    have : 0 < l.length := List.length_pos_iff.2 h
    omega
/-- The words of a text. -/
def spl : List UInt8 → List (List UInt8)
  | [] => [[]]
  | b :: r => if b = 32 then [] :: spl r else match spl r with
    | [] => [[b]]
    | h :: t => (b :: h) :: t
theorem spl_ne (l : List UInt8) : spl l ≠ [] := by
  cases l with
  | nil => simp [spl]
  | cons b r => unfold spl; split <;> (try split) <;> simp
/-- A word ahead of the rest. -/
def pre (x : List UInt8) : List (List UInt8) → List (List UInt8)
  | [] => [x]
  | h :: t => (x ++ h) :: t
theorem pre_nil {l : List (List UInt8)} (h : l ≠ []) : pre [] l = l := by cases l with | nil => exact absurd rfl h | cons a b => rfl
theorem spl_cons {b : UInt8} (r : List UInt8) (h : b ≠ 32) : spl (b :: r) = pre [b] (spl r) := by
  conv => lhs; unfold spl
  rw [if_neg h]
  have := spl_ne r
  cases hs : spl r with
  | nil => exact absurd hs this
  | cons a t => rfl
theorem spl_space (r : List UInt8) : spl (32 :: r) = [] :: spl r := by conv => lhs; unfold spl; rw [if_pos rfl]
theorem pre_pre (x y : List UInt8) (l : List (List UInt8)) (h : l ≠ []) : pre x (pre y l) = pre (x ++ y) l := by
  cases l with | nil => exact absurd rfl h | cons a b => simp [pre]
theorem spl_word : ∀ (x : List UInt8) (r : List UInt8), (32 : UInt8) ∉ x → spl (x ++ r) = pre x (spl r)
  | [], r, _ => (pre_nil (spl_ne r)).symm
  | b :: x, r, h => by
    have hb : b ≠ 32 := fun e => h (by rw [e]; simp)
    rw [List.cons_append, spl_cons _ hb, spl_word x r (fun e => h (List.mem_cons_of_mem _ e)), pre_pre _ _ _ (spl_ne r)]; rfl
theorem spl_len : ∀ (l : List UInt8), (spl l).length ≤ l.length + 1
  | [] => by simp [spl]
  | b :: r => by
    have h := spl_len r
    unfold spl
    split
    · simp; exact h
    · split
      · simp
      · rename_i h2; rw [h2] at h; simp at h ⊢; omega
theorem spl_mem : ∀ (l : List UInt8) (x : List UInt8), x ∈ spl l → x.length ≤ l.length
  | [], x, h => by simp [spl] at h; subst h; simp
  | b :: r, x, h => by
    have hr := spl_mem r
    unfold spl at h
    split at h
    · rcases List.mem_cons.1 h with h | h
      · subst h; simp
      · have := hr x h; simp; omega
    · split at h
      · simp at h; subst h; simp
      · rename_i h2
        rcases List.mem_cons.1 h with h | h
        · subst h
          have := hr _ (by rw [h2]; exact List.mem_cons_self ..)
          simp; exact this
        · have := hr x (by rw [h2]; exact List.mem_cons_of_mem _ h)
          simp; omega
/-- The operation of a word, or 0. -/
def oper (w : List UInt8) : Int := if w = [72, 79, 76, 68] then 1 else if w = [67, 79, 78, 70, 73, 82, 77] then 2 else if w = [82, 69, 78, 69, 87] then 3 else if w = [67, 65, 78, 67, 69, 76] then 4
  else if w = [82, 69, 76, 69, 65, 83, 69] then 5 else if w = [80, 85, 82, 71, 69] then 6 else if w = [81, 85, 69, 82, 89] then 7 else 0
def timed (op : Int) : Bool := decide (op = 1 ∨ op = 3)
def dg : List UInt8 → Int → Option Int
  | [], n => some n
  | b :: r, n => if 48 ≤ b.toNat ∧ b.toNat ≤ 57 then dg r (10 * n + ((b.toNat : Int) - 48)) else none
def dec (w : List UInt8) : Option Int := if w = [] ∨ 10 < w.length ∨ (w[0]? = some 48 ∧ 1 < w.length) then none else dg w 0
def ttl (op n : Int) : Bool := if timed op then decide (1 ≤ n ∧ n ≤ 1073741824) else decide (n = 0)
structure R where
  op : Int
  ttl : Int
  names : List (List UInt8)
  err : Int
def names : List (List UInt8) → Option (List (List UInt8))
  | [] => some []
  | w :: r => if (unquote w).2 then (names r).map ((unquote w).1 :: ·) else none
def rest (op n : Int) (l : List (List UInt8)) : R := match names l with
  | none => ⟨0, 0, [], 4⟩
  | some ns => if op = 7 ∧ ns.length ≠ 1 then ⟨0, 0, [], 4⟩ else if ttl op n then ⟨op, n, ns, 0⟩ else ⟨0, 0, [], 3⟩
def words (op : Int) (l : List (List UInt8)) : R := if op = 0 then ⟨0, 0, [], 4⟩ else if timed op then (match l with
  | [] => ⟨0, 0, [], 4⟩
  | t :: r => match dec t with
    | none => ⟨0, 0, [], 4⟩
    | some n => rest op n r) else rest op 0 l
def parse (s : List UInt8) : R := if 4096 < s.length then ⟨0, 0, [], 7⟩ else words (oper ((spl s).headD [])) (spl s).tail
end Go.Proofs.YtddieenjdaociaaGreatDoor.Rq
