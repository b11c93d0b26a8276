
/- States (api.State) in memory. -/
import Derived.Test.YtiliddklaklekaaDoorWordA
import Derived.Test.YtiliddklaklekaaDoorPlain03
import Derived.Test.YtiliddklaklekaaDoorBox
namespace Go.Proofs.YtiliddklaklekaaDoor
open Go.RowKit

/-! ### elements of k cells each -/
def ecells {α : Type} (enc : α → List Value) (l : List α) : List Value := l.flatMap enc
section
variable {α : Type} {enc : α → List Value} {k : Nat}
theorem ecells_len (he : ∀ x, (enc x).length = k) : ∀ l : List α, (ecells enc l).length = l.length * k
  | [] => by simp [ecells]
  | x :: l => by
    have := ecells_len he l
    rw [ecells] at this
    simp only [ecells, List.flatMap_cons, List.length_append, List.length_cons, this, he]
    rw [Nat.add_mul]
    omega
theorem ecells_app (l r : List α) : ecells enc (l ++ r) = ecells enc l ++ ecells enc r := by simp [ecells]
theorem ecells_get [Inhabited α] (he : ∀ x, (enc x).length = k) : ∀ (l : List α) (j c : Nat) (_ : j < l.length) (_ : c < k), (ecells enc l)[j * k + c]? = (enc l[j]!)[c]?
  | x :: l, 0, c, _, hc => by
    simp only [ecells, List.flatMap_cons, Nat.zero_mul, Nat.zero_add]
    rw [List.getElem?_append_left (by rw [he]; exact hc)]
    rfl
  | x :: l, j + 1, c, hj, hc => by
    have := ecells_get he l j c (by simpa using hj) hc
    simp only [ecells, List.flatMap_cons]
    rw [List.getElem?_append_right (by rw [he, Nat.add_mul]; omega), show (j + 1) * k + c - (enc x).length = j * k + c by rw [he, Nat.add_mul]; omega]
    simpa [ecells] using this
theorem ecells_take (he : ∀ x, (enc x).length = k) : ∀ (l : List α) (i : Nat), ecells enc (l.take i) = (ecells enc l).take (i * k)
  | [], i => by simp [ecells]
  | x :: l, 0 => by simp [ecells]
  | x :: l, i + 1 => by
    have := ecells_take he l i
    simp only [ecells, List.take_succ_cons, List.flatMap_cons] at this ⊢
    have e : (enc x).take ((i + 1) * k) = enc x := List.take_of_length_le (by rw [he, Nat.add_mul]; omega)
    rw [this, List.take_append, he, show (i + 1) * k - k = i * k by rw [Nat.add_mul]; omega, e]
abbrev RdE (w : World) (enc : α → List Value) (k : Nat) (A : Option Addr) (c : Nat) (l : List α) : Prop := Rd w A l.length c k (ecells enc l)
/-- Cell by cell, behind one address. -/
def CellsE [Inhabited α] (w : World) (enc : α → List Value) (k : Nat) (ad : Addr) (l : List α) : Prop := ∀ j c v, j < l.length → (enc l[j]!)[c]? = some v → w.cell? (ad.add (j * k + c)) = some v
theorem RdE.all [Inhabited α] {w : World} {A : Option Addr} {c : Nat} {l : List α} (he : ∀ x, (enc x).length = k) (hk : 0 < k) (h : RdE w enc k A c l) (h0 : 0 < l.length) : ∃ ad, A = some ad ∧ CellsE w enc k ad l := by
  have hl := ecells_len he l
  obtain ⟨ad, rfl, _⟩ := h.cell 0 _ (List.getElem?_eq_getElem (by rw [hl]; exact Nat.mul_pos h0 hk))
  refine ⟨ad, rfl, fun j i v hj hv => ?_⟩
  have hi : i < k := by
    have := (List.getElem?_eq_some_iff.1 hv).1
    rwa [he] at this
  obtain ⟨ad', e, hc⟩ := h.cell (j * k + i) v (by rw [ecells_get he l j i hj hi]; exact hv)
  cases e
  exact hc
theorem CellsE.below [Inhabited α] {w w' : World} {ad : Addr} {l : List α} (h : CellsE w enc k ad l) (hb : Below w.heap.size w w') : CellsE w' enc k ad l := fun j c v hj hv =>
  (hb.cell (World.block_lt_of_cell? w _ (h j c v hj hv))).trans (h j c v hj hv)
/-- One element's cells, as a load of the whole element asks. -/
theorem CellsE.at0 [Inhabited α] {w : World} {ad : Addr} {l : List α} (h : CellsE w enc k ad l) {j : Nat} (hj : j < l.length) {v : Value} (hv : (enc l[j]!)[0]? = some v) : w.cell? (ad.add (j * k)) = some v := h j 0 v hj hv
theorem CellsE.at' [Inhabited α] {w : World} {ad : Addr} {l : List α} (h : CellsE w enc k ad l) {j : Nat} (hj : j < l.length) (i : Nat) (hi : i ≠ 0) {v : Value} (hv : (enc l[j]!)[i]? = some v) : w.cell? ⟨(ad.add (j * k)).block, (ad.add (j * k)).off + i, none⟩ = some v := by
  have e : ad.add (j * k + i) = ⟨(ad.add (j * k)).block, (ad.add (j * k)).off + i, none⟩ := by
    by_cases h0 : j * k = 0
    · rw [h0]
      simp [Addr.add, hi]
    · simp [Addr.add, h0, Nat.add_assoc]
  rw [← e]
  exact h j i v hj hv
end

def encSl (x : Int × Bool) : List Value := [.int .i64 x.1, .bool x.2]
def encSp (x : Int × Int) : List Value := [.int .i64 x.1, .int .i64 x.2]
theorem encSl_len (x : Int × Bool) : (encSl x).length = 2 := rfl
theorem encSp_len (x : Int × Int) : (encSp x).length = 2 := rfl
theorem encW_len (x : Wd) : (encW x).length = 4 := rfl

/-- A whole machine. -/
structure Ps where
  mem : List Int
  data : List Int
  ret : List (Int × Bool)
  ctl : List Int
  words : List Wd
  spots : List (Int × Int)
  out : List Int
  ip : Int
  here : Int
  pos : Int
  tok : Int
  inp : Int
  err : Int
  comp : Bool
  halt : Bool
def zeroP : Ps := ⟨[], [], [], [], [], [], [], 0, 0, 0, 0, 0, 0, false, false⟩
/-- Where its lists lie. -/
structure Ad where
  m : Option Addr
  mc : Nat
  d : Option Addr
  dc : Nat
  r : Option Addr
  rc : Nat
  c : Option Addr
  cc : Nat
  w : Option Addr
  wc : Nat
  s : Option Addr
  sc : Nat
  o : Option Addr
  oc : Nat
def nilA : Ad := ⟨none, 0, none, 0, none, 0, none, 0, none, 0, none, 0, none, 0⟩
def stL (q : Ad) (s : Ps) : List Value := [.slice q.m s.mem.length q.mc, .slice q.d s.data.length q.dc, .slice q.r s.ret.length q.rc, .slice q.c s.ctl.length q.cc, .slice q.w s.words.length q.wc, .slice q.s s.spots.length q.sc, .slice q.o s.out.length q.oc,
  .int .i64 s.ip, .int .i64 s.here, .int .i64 s.pos, .int .i64 s.tok, .int .i64 s.inp, .int .i64 s.err, .bool s.comp, .bool s.halt]
def stV (q : Ad) (s : Ps) : Value := .agg (stL q s).toArray
theorem stV_eq (q : Ad) (s : Ps) : stV q s = .agg #[.slice q.m s.mem.length q.mc, .slice q.d s.data.length q.dc, .slice q.r s.ret.length q.rc, .slice q.c s.ctl.length q.cc, .slice q.w s.words.length q.wc, .slice q.s s.spots.length q.sc, .slice q.o s.out.length q.oc,
  .int .i64 s.ip, .int .i64 s.here, .int .i64 s.pos, .int .i64 s.tok, .int .i64 s.inp, .int .i64 s.err, .bool s.comp, .bool s.halt] := rfl
theorem stL_len (q : Ad) (s : Ps) : (stL q s).length = 15 := rfl
theorem stL_one (q : Ad) (s : Ps) : (stL q s).all (·.oneCell') = true := rfl
theorem stL_zero : stL nilA zeroP = [.slice none 0 0, .slice none 0 0, .slice none 0 0, .slice none 0 0, .slice none 0 0, .slice none 0 0, .slice none 0 0, .int .i64 0, .int .i64 0, .int .i64 0, .int .i64 0, .int .i64 0, .int .i64 0, .bool false, .bool false] := rfl
/-- What its lists read as. -/
structure RdP (w : World) (q : Ad) (s : Ps) : Prop where
  mem : RdI w .u8 q.m q.mc s.mem
  memB : isB s.mem
  data : RdI w .i64 q.d q.dc s.data
  ret : RdE w encSl 2 q.r q.rc s.ret
  ctl : RdI w .i64 q.c q.cc s.ctl
  words : RdE w encW 4 q.w q.wc s.words
  spots : RdE w encSp 2 q.s q.sc s.spots
  out : RdI w .u8 q.o q.oc s.out
  outB : isB s.out
theorem RdP.below {w w' : World} {q : Ad} {s : Ps} (h : RdP w q s) (hb : Below w.heap.size w w') : RdP w' q s :=
  ⟨h.mem.below hb, h.memB, h.data.below hb, h.ret.below hb, h.ctl.below hb, h.words.below hb, h.spots.below hb, h.out.below hb, h.outB⟩
theorem RdP.zero (w : World) : RdP w nilA zeroP :=
  ⟨rd_nil w 1, by simp [zeroP, isB], rd_nil w 1, rd_nil w 2, rd_nil w 1, rd_nil w 4, rd_nil w 2, rd_nil w 1, by simp [zeroP, isB]⟩
theorem RdP.withMem {w : World} {q : Ad} {s : Ps} (h : RdP w q s) {A : Option Addr} {c : Nat} {m : List Int} (hr : RdI w .u8 A c m) (hb : isB m) : RdP w { q with m := A, mc := c } { s with mem := m } :=
  ⟨hr, hb, h.data, h.ret, h.ctl, h.words, h.spots, h.out, h.outB⟩
theorem RdP.withHere {w : World} {q : Ad} {s : Ps} (h : RdP w q s) (n : Int) : RdP w q { s with here := n } :=
  ⟨h.mem, h.memB, h.data, h.ret, h.ctl, h.words, h.spots, h.out, h.outB⟩
theorem RdP.withSpots {w : World} {q : Ad} {s : Ps} (h : RdP w q s) {A : Option Addr} {c : Nat} {m : List (Int × Int)} (hr : RdE w encSp 2 A c m) : RdP w { q with s := A, sc := c } { s with spots := m } :=
  ⟨h.mem, h.memB, h.data, h.ret, h.ctl, h.words, hr, h.out, h.outB⟩
theorem rd_lies {w : World} {A : Option Addr} {n c size : Nat} {cs : List Value} (h : Rd w A n c size cs) (h0 : 0 < cs.length) (ad : Addr) (e : A = some ad) : ad.block < w.heap.size := by
  obtain ⟨ad', e', hc⟩ := h.cell 0 _ (List.getElem?_eq_getElem h0)
  rw [e] at e'
  injection e' with e'
  subst e'
  have := World.block_lt_of_cell? w _ hc
  simpa [Addr.add] using this
theorem rd_apart {w w' : World} {A : Option Addr} {n c size g : Nat} {cs : List Value} (h : Rd w A n c size cs) (hg : w.grownBy w' (some g)) (hne : 0 < cs.length → ∀ ad, A = some ad → ad.block ≠ g) : Rd w' A n c size cs :=
  ⟨h.len, h.le, h.cap, h.nil, fun j u hj => by
    obtain ⟨ad, e, hc⟩ := h.cell j u hj
    refine ⟨ad, e, hg.cell hc ?_⟩
    intro e2
    injection e2 with e2
    apply hne (by have := (List.getElem?_eq_some_iff.1 hj).1; omega) ad e
    rw [← e2]
    unfold Addr.add
    split <;> rfl⟩
/-- In which blocks its lists lie. -/
structure Lies (q : Ad) (s : Ps) (S : Nat → Prop) : Prop where
  mem : 0 < s.mem.length → ∀ ad, q.m = some ad → S ad.block
  data : 0 < s.data.length → ∀ ad, q.d = some ad → S ad.block
  ret : 0 < s.ret.length → ∀ ad, q.r = some ad → S ad.block
  ctl : 0 < s.ctl.length → ∀ ad, q.c = some ad → S ad.block
  words : 0 < s.words.length → ∀ ad, q.w = some ad → S ad.block
  spots : 0 < s.spots.length → ∀ ad, q.s = some ad → S ad.block
  out : 0 < s.out.length → ∀ ad, q.o = some ad → S ad.block
theorem Lies.mono {q : Ad} {s : Ps} {S T : Nat → Prop} (h : Lies q s S) (hst : ∀ b, S b → T b) : Lies q s T :=
  ⟨fun a b c => hst _ (h.mem a b c), fun a b c => hst _ (h.data a b c), fun a b c => hst _ (h.ret a b c), fun a b c => hst _ (h.ctl a b c), fun a b c => hst _ (h.words a b c), fun a b c => hst _ (h.spots a b c), fun a b c => hst _ (h.out a b c)⟩
theorem Lies.zero (S : Nat → Prop) : Lies nilA zeroP S :=
  ⟨fun h => absurd h (by decide), fun h => absurd h (by decide), fun h => absurd h (by decide), fun h => absurd h (by decide), fun h => absurd h (by decide), fun h => absurd h (by decide), fun h => absurd h (by decide)⟩
theorem RdP.lies {w : World} {q : Ad} {s : Ps} (h : RdP w q s) : Lies q s (fun b => b < w.heap.size) :=
  ⟨fun h0 => rd_lies h.mem (by simpa [nums] using h0), fun h0 => rd_lies h.data (by simpa [nums] using h0), fun h0 => rd_lies h.ret (by rw [ecells_len encSl_len]; omega), fun h0 => rd_lies h.ctl (by simpa [nums] using h0), fun h0 => rd_lies h.words (by rw [ecells_len encW_len]; omega), fun h0 => rd_lies h.spots (by rw [ecells_len encSp_len]; omega), fun h0 => rd_lies h.out (by simpa [nums] using h0)⟩
theorem RdP.grown {w w' : World} {q : Ad} {s : Ps} {S : Nat → Prop} {k : Nat} (h : RdP w q s) (hl : Lies q s S) (hg : w.grownBy w' (some k)) (hk : ¬ S k) : RdP w' q s :=
  ⟨rd_apart h.mem hg (fun h0 ad e1 e2 => hk (by rw [← e2]; exact hl.mem (by simpa [nums] using h0) ad e1)), h.memB,
   rd_apart h.data hg (fun h0 ad e1 e2 => hk (by rw [← e2]; exact hl.data (by simpa [nums] using h0) ad e1)),
   rd_apart h.ret hg (fun h0 ad e1 e2 => hk (by rw [← e2]; exact hl.ret (by rw [ecells_len encSl_len] at h0; omega) ad e1)),
   rd_apart h.ctl hg (fun h0 ad e1 e2 => hk (by rw [← e2]; exact hl.ctl (by simpa [nums] using h0) ad e1)),
   rd_apart h.words hg (fun h0 ad e1 e2 => hk (by rw [← e2]; exact hl.words (by rw [ecells_len encW_len] at h0; omega) ad e1)),
   rd_apart h.spots hg (fun h0 ad e1 e2 => hk (by rw [← e2]; exact hl.spots (by rw [ecells_len encSp_len] at h0; omega) ad e1)),
   rd_apart h.out hg (fun h0 ad e1 e2 => hk (by rw [← e2]; exact hl.out (by simpa [nums] using h0) ad e1)), h.outB⟩
/-- What a call that makes a state of another one leaves: the new one is read; its lists are the old one's, or new. -/
structure Res (B : Nat) (q : Ad) (s : Ps) (w' : World) (q' : Ad) (s' : Ps) : Prop where
  rd : RdP w' q' s'
  lies : ∀ S : Nat → Prop, Lies q s S → Lies q' s' (fun b => S b ∨ B ≤ b)
theorem Res.zero (B : Nat) (q : Ad) (s : Ps) (w : World) : Res B q s w nilA zeroP := ⟨RdP.zero w, fun _ _ => Lies.zero _⟩
theorem Res.mono {B B' : Nat} {q q' : Ad} {s s' : Ps} {w' : World} (h : Res B q s w' q' s') (hB : B' ≤ B) : Res B' q s w' q' s' :=
  ⟨h.rd, fun S hS => (h.lies S hS).mono (fun _ hb => hb.imp id (fun h => Nat.le_trans hB h))⟩
theorem Res.below {B : Nat} {q q' : Ad} {s s' : Ps} {w w' : World} (h : Res B q s w q' s') (hb : Below w.heap.size w w') : Res B q s w' q' s' := ⟨h.rd.below hb, h.lies⟩
/-- A block of the caller's own is turned: it lies between what was there and what is new. -/
theorem Res.grown {B k : Nat} {q q' : Ad} {s s' : Ps} {w0 w w' : World} (h : Res B q s w q' s') (h0 : RdP w0 q s) (hg : w.grownBy w' (some k)) (h1 : w0.heap.size ≤ k) (h2 : k < B) : Res B q s w' q' s' :=
  ⟨h.rd.grown (h.lies _ h0.lies) hg (by omega), h.lies⟩
theorem Res.setc {B k i : Nat} {q q' : Ad} {s s' : Ps} {w0 w : World} {v : Value} (h : Res B q s w q' s') (h0 : RdP w0 q s) (h1 : w0.heap.size ≤ k) (h2 : k < B) : Res B q s (w.setCell ⟨k, i, none⟩ v) q' s' := h.grown h0 (grown_setCell w k i v) h1 h2
theorem Res.trans {B B' : Nat} {q q1 q' : Ad} {s s1 s' : Ps} {w1 w' : World} (h : Res B q s w1 q1 s1) (k : Res B' q1 s1 w' q' s') (hB : B ≤ B') : Res B q s w' q' s' :=
  ⟨k.rd, fun S hS => (k.lies _ (h.lies S hS)).mono (fun _ hb => hb.elim (fun h => h) (fun h => .inr (Nat.le_trans hB h)))⟩
theorem Res.same {w : World} {q : Ad} {s : Ps} (B : Nat) (h : RdP w q s) : Res B q s w q s := ⟨h, fun _ hS => hS.mono (fun _ h => .inl h)⟩
theorem Res.withHere {B : Nat} {q q' : Ad} {s s' : Ps} {w' : World} (h : Res B q s w' q' s') (n : Int) : Res B q s w' q' { s' with here := n } :=
  ⟨h.rd.withHere n, fun S hS => by have := h.lies S hS; exact ⟨this.mem, this.data, this.ret, this.ctl, this.words, this.spots, this.out⟩⟩
theorem Res.withMem {B : Nat} {q q' : Ad} {s s' : Ps} {w' : World} (h : Res B q s w' q' s') {A : Option Addr} {c : Nat} {m : List Int} (hr : RdI w' .u8 A c m) (hb : isB m) (ha : 0 < m.length → ∀ ad, A = some ad → B ≤ ad.block) : Res B q s w' { q' with m := A, mc := c } { s' with mem := m } :=
  ⟨h.rd.withMem hr hb, fun S hS => by have := h.lies S hS; exact ⟨fun h0 ad e => .inr (ha h0 ad e), this.data, this.ret, this.ctl, this.words, this.spots, this.out⟩⟩
theorem Res.withSpots {B : Nat} {q q' : Ad} {s s' : Ps} {w' : World} (h : Res B q s w' q' s') {A : Option Addr} {c : Nat} {m : List (Int × Int)} (hr : RdE w' encSp 2 A c m) (ha : 0 < m.length → ∀ ad, A = some ad → B ≤ ad.block) : Res B q s w' { q' with s := A, sc := c } { s' with spots := m } :=
  ⟨h.rd.withSpots hr, fun S hS => by have := h.lies S hS; exact ⟨this.mem, this.data, this.ret, this.ctl, this.words, fun h0 ad e => .inr (ha h0 ad e), this.out⟩⟩
theorem own_block_ge {w : World} {base n size c : Nat} {e : TypeId} {A : Option Addr} {cs : List Value} (h : w.ownsRow base e size (.slice A n c) n cs) : 0 < n → ∀ ad, A = some ad → base ≤ ad.block := by
  intro h0 ad e1
  obtain ⟨g, cap, e2, h1, _⟩ := own_form h h0
  injection e2 with e2
  rw [e1] at e2
  injection e2 with e2
  rw [e2]
  exact h1
theorem Bx.st15 {w : World} {g : Nat} {t : TypeId} {q : Ad} {s : Ps} (h : Bx w g t (stL q s)) :
    w.cell? ⟨g, 0, none⟩ = some (.slice q.m s.mem.length q.mc) ∧ w.cell? ⟨g, 1, none⟩ = some (.slice q.d s.data.length q.dc) ∧ w.cell? ⟨g, 2, none⟩ = some (.slice q.r s.ret.length q.rc) ∧ w.cell? ⟨g, 3, none⟩ = some (.slice q.c s.ctl.length q.cc) ∧ w.cell? ⟨g, 4, none⟩ = some (.slice q.w s.words.length q.wc) ∧ w.cell? ⟨g, 5, none⟩ = some (.slice q.s s.spots.length q.sc) ∧ w.cell? ⟨g, 6, none⟩ = some (.slice q.o s.out.length q.oc) ∧ w.cell? ⟨g, 7, none⟩ = some (.int .i64 s.ip) ∧ w.cell? ⟨g, 8, none⟩ = some (.int .i64 s.here) ∧ w.cell? ⟨g, 9, none⟩ = some (.int .i64 s.pos) ∧ w.cell? ⟨g, 10, none⟩ = some (.int .i64 s.tok) ∧ w.cell? ⟨g, 11, none⟩ = some (.int .i64 s.inp) ∧ w.cell? ⟨g, 12, none⟩ = some (.int .i64 s.err) ∧ w.cell? ⟨g, 13, none⟩ = some (.bool s.comp) ∧ w.cell? ⟨g, 14, none⟩ = some (.bool s.halt) :=
  ⟨h.cell 0, h.cell 1, h.cell 2, h.cell 3, h.cell 4, h.cell 5, h.cell 6, h.cell 7, h.cell 8, h.cell 9, h.cell 10, h.cell 11, h.cell 12, h.cell 13, h.cell 14⟩
theorem Bx.z15 {w : World} {g : Nat} {t : TypeId} (h : Bx w g t (stL nilA zeroP)) :
    (w.cell? ⟨g, 0, none⟩ = some (.slice none 0 0) ∧ w.cell? ⟨g, 1, none⟩ = some (.slice none 0 0) ∧ w.cell? ⟨g, 2, none⟩ = some (.slice none 0 0) ∧ w.cell? ⟨g, 3, none⟩ = some (.slice none 0 0) ∧ w.cell? ⟨g, 4, none⟩ = some (.slice none 0 0) ∧ w.cell? ⟨g, 5, none⟩ = some (.slice none 0 0) ∧ w.cell? ⟨g, 6, none⟩ = some (.slice none 0 0) ∧ w.cell? ⟨g, 7, none⟩ = some (.int .i64 0) ∧ w.cell? ⟨g, 8, none⟩ = some (.int .i64 0) ∧ w.cell? ⟨g, 9, none⟩ = some (.int .i64 0) ∧ w.cell? ⟨g, 10, none⟩ = some (.int .i64 0) ∧ w.cell? ⟨g, 11, none⟩ = some (.int .i64 0) ∧ w.cell? ⟨g, 12, none⟩ = some (.int .i64 0) ∧ w.cell? ⟨g, 13, none⟩ = some (.bool false) ∧ w.cell? ⟨g, 14, none⟩ = some (.bool false)) ∧ w.frozen? ⟨g, 0, none⟩ = false ∧ w.frozen? ⟨g, 1, none⟩ = false ∧ w.frozen? ⟨g, 2, none⟩ = false ∧ w.frozen? ⟨g, 3, none⟩ = false ∧ w.frozen? ⟨g, 4, none⟩ = false ∧ w.frozen? ⟨g, 5, none⟩ = false ∧ w.frozen? ⟨g, 6, none⟩ = false ∧ w.frozen? ⟨g, 7, none⟩ = false ∧ w.frozen? ⟨g, 8, none⟩ = false ∧ w.frozen? ⟨g, 9, none⟩ = false ∧ w.frozen? ⟨g, 10, none⟩ = false ∧ w.frozen? ⟨g, 11, none⟩ = false ∧ w.frozen? ⟨g, 12, none⟩ = false ∧ w.frozen? ⟨g, 13, none⟩ = false ∧ w.frozen? ⟨g, 14, none⟩ = false :=
  ⟨⟨h.cell 0, h.cell 1, h.cell 2, h.cell 3, h.cell 4, h.cell 5, h.cell 6, h.cell 7, h.cell 8, h.cell 9, h.cell 10, h.cell 11, h.cell 12, h.cell 13, h.cell 14⟩, h.free 0, h.free 1, h.free 2, h.free 3, h.free 4, h.free 5, h.free 6, h.free 7, h.free 8, h.free 9, h.free 10, h.free 11, h.free 12, h.free 13, h.free 14⟩
theorem infoSt : (Tryd.prog.info? 28).map (·.size) = some 15 := by kernel_rfl
theorem info1i : (Tryd.prog.info? 3).map (·.size) = some 1 := by kernel_rfl
theorem info1b : (Tryd.prog.info? 4).map (·.size) = some 1 := by kernel_rfl
theorem info1m : (Tryd.prog.info? 22).map (·.size) = some 1 := by kernel_rfl
theorem info1s : (Tryd.prog.info? 26).map (·.size) = some 1 := by kernel_rfl
theorem info1c : (Tryd.prog.info? 23).map (·.size) = some 1 := by kernel_rfl
theorem info1w : (Tryd.prog.info? 25).map (·.size) = some 1 := by kernel_rfl
theorem infoSp : (Tryd.prog.info? 49).map (fun i => (i.zero, i.size, i.bytes)) = some (some (.agg #[.int .i64 0, .int .i64 0]), 2, 16) := by kernel_rfl
end Go.Proofs.YtiliddklaklekaaDoor
